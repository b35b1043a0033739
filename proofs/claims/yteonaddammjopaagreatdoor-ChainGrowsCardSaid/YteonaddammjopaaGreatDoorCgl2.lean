/-
  Structs and slices that a run makes: build,make,append,copy,slicing. Over any program.
  Slicing,copy,arrays' slices; stores whose cells are known as a list only. Over any program.
  Calls of functions without a Go body (sync/atomic,internal/race),deferred calls. Over any program.
  FACTS ON THE TYPES AND FUNCTIONS OF THIS SEAT's TRANSLATION,written by a program off the dump's rows; each is proved by the kernel.
  'for .. := range f { .. }',f a function: rules for the walk. Over any program.
-/
import Derived.Test.YteonaddammjopaaGreatDoorCgl1
import Derived.Test.YteonaddammjopaaGreatDoorRows
namespace Cr
open Go

theorem Zk0 (l : List Value) (i : Nat) (v : Value) (h : i < l.length) : l.set i v = l.take i ++ v :: l.drop (i + 1) := by
 rw [List.set_eq_take_append_cons_drop,if_pos h]
theorem Zky (off : Nat) : ∀ (vs cs : List Value) (k : Nat),off + k + vs.length ≤ cs.length →
  (((vs.zipIdx k).foldl (fun (c : Array Value) (x : Value × Nat) => c.setIfInBounds (off + x.2) x.1) cs.toArray)) = (cs.take (off + k) ++ vs ++ cs.drop (off + k + vs.length)).toArray
 | [],cs,k,_ => by simp
 | v :: vs,cs,k,h => by
  simp only [List.zipIdx_cons,List.foldl_cons,List.length_cons] at h ⊢
  rw [List.setIfInBounds_toArray,Zky off vs (cs.set (off + k) v) (k + 1) (by simp; omega)]
  congr 1
  have h1 : off + k < cs.length := by omega
  have hl : (cs.take (off + k)).length = off + k := by simp; omega
  rw [Zk0 cs _ v h1,show off + (k + 1) = (cs.take (off + k)).length + 1 by omega,List.take_length_add_append,show (cs.take (off + k)).length + 1 + vs.length = (cs.take (off + k)).length + (1 + vs.length) by omega,List.drop_length_add_append]
  simp only [List.take_succ_cons,List.take_zero,List.append_assoc,List.cons_append,List.nil_append,show 1 + vs.length = vs.length + 1 by omega,List.drop_succ_cons,List.drop_drop]
  rw [show off + k + (vs.length + 1) = off + k + 1 + vs.length by omega]

theorem Zly {place : Nat → Option (Nat × Nat)} {i off : Nat} {v : Value} {vs cs : List Value} {r : List (Nat × Value)} (hp : place i = some (off,vs.length)) (hv : v.cells = vs.toArray) (hfit : off + vs.length ≤ cs.length) :
  Instr.fill place cs.toArray ((i,v) :: r) = Instr.fill place (cs.take off ++ vs ++ cs.drop (off + vs.length)).toArray r := by
 simp only [Instr.fill,hp,hv]
 rw [if_neg (by simp; omega)]
 congr 1
 have := Zky off vs cs 0 (by simpa using hfit)
 simp only [Nat.add_zero] at this
 rw [← this,← Array.foldl_toList]
 simp

section
variable {P : Program} {o : Oper} {σ : Env} {w : World} {N : Nat} {ds : Md} {K : Env → World → Prop}
variable {x y : Operand} {t ty e : TypeId}

def Zih (P : Program) (fs : List Field) : List (Nat × Nat) := fs.map fun f => (f.offset,P.cellsOf f.type)
class Str (P : Program) (t : TypeId) (pl : outParam (List (Nat × Nat))) : Prop where
 str : ∃ fs : List Field,P.underlying t = some (.struct fs.toArray) ∧ fs.map (fun f => (P.info? f.type).map (·.size)) = pl.map (fun x => some x.2) ∧ fs.map (·.offset) = pl.map (·.1)
theorem Zmz : ∀ (fs : List Field) (pl : List (Nat × Nat)) (w : World),fs.map (fun f => (P.info? f.type).map (·.size)) = pl.map (fun x => some x.2) → fs.map (·.offset) = pl.map (·.1) →
  (fs.mapM (fun f => do pure (f.offset,← Go.sizeOf f.type)) : Sem (List (Nat × Nat))).run P w = .ok pl w
 | [],pl,w,h,_ => by
  cases pl with
  | nil => simp
  | cons _ _ => simp at h
 | f :: fs,pl,w,h1,h2 => by
  cases pl with
  | nil => simp at h1
  | cons q pl =>
   simp only [List.map_cons,List.cons.injEq] at h1 h2
   have hs : (Go.sizeOf f.type).run P w = .ok q.2 w := Zb3 (h := ⟨h1.1⟩) w
   have := Zmz fs pl w h1.2 h2.2
   have hf : (do pure (f.offset,← Go.sizeOf f.type) : Sem (Nat × Nat)).run P w = .ok q w := by
    rw [Sem.run_bind,hs]
    show Result.ok (f.offset,q.2) w = _
    rw [h2.1]
   rw [List.mapM_cons,Sem.run_bind,hf]
   show (List.mapM _ fs >>= _ : Sem _).run P w = _
   rw [Sem.run_bind,this]
   rfl
class Lay (pl : List (Nat × Nat)) (cs : List Value) (parts : List (Nat × Value)) (cs' : outParam (List Value)) : Prop where
 lay : Instr.fill (fun i => pl[i]?) cs.toArray parts = some cs'.toArray
instance (pl : List (Nat × Nat)) (cs : List Value) : Lay pl cs [] cs := ⟨rfl⟩
class NthP (l : List (Nat × Nat)) (n : Nat) (a b : outParam Nat) : Prop where
 nth : l[n]? = some (a,b)
instance (a b : Nat) (l : List (Nat × Nat)) : NthP ((a,b) :: l) 0 a b := ⟨rfl⟩
instance (u : Nat × Nat) (l : List (Nat × Nat)) (n a b : Nat) [h : NthP l n a b] : NthP (u :: l) (n + 1) a b := ⟨by simpa using h.nth⟩
instance (pl : List (Nat × Nat)) (cs cs1 cs2 vs : List Value) (i off n : Nat) (v : Value) (r : List (Nat × Value)) [hn : NthP pl i off n] [hv : CellsOf v vs] [hl : LenIs vs n] [hs : Spl cs off vs cs1] [hr : Lay pl cs1 r cs2] : Lay pl cs ((i,v) :: r) cs2 := ⟨by
 rw [Zly (off := off) (by rw [hl.len]; exact hn.nth) hv.cells hs.spl.1,hs.spl.2]; exact hr.lay⟩
def evps (σ : Env) : List (Nat × Operand) → Option (List (Nat × Value))
 | [] => some []
 | (i,x) :: r => match ev σ x,evps σ r with
  | some v,some l => some ((i,v) :: l)
  | _,_ => none
theorem Fr.evalps {a : Act} (h : Fr σ N ds a) : ∀ {xs : List (Nat × Operand)} {vs : List (Nat × Value)},evps σ xs = some vs → xs.map (fun x => (x.1,a.eval x.2)) = vs
 | [],vs,he => by simpa [evps] using he
 | (i,x) :: r,vs,he => by
  unfold evps at he
  cases hx : ev σ x with
  | none => simp [hx] at he
  | some v =>
   cases hr : evps σ r with
   | none => simp [hx,hr] at he
   | some l =>
    simp [hx,hr] at he
    subst he
    simp [h.eval hx,h.evalps hr]
theorem Zpc {z : Value} {n m : Nat} {pl : List (Nat × Nat)} {parts : List (Nat × Value)} {cs cs' : List Value} [hi : Inf P t z n m] [hs : Str P t pl] (hz : z.cells = cs.toArray) (hl : Instr.fill (fun i => pl[i]?) cs.toArray parts = some cs'.toArray) :
  (Instr.build t parts.toArray).run P w = .ok (.agg cs'.toArray) w := by
 obtain ⟨i,hi,hz',_⟩ := info_parts hi.inf
 obtain ⟨fs,h1,h2,h3⟩ := hs.str
 have hp := Zmz (P := P) fs pl w h2 h3
 have hp' : (fs.toArray.mapM (fun f => do pure (f.offset,← Go.sizeOf f.type)) : Sem (Array (Nat × Nat))).run P w = .ok pl.toArray w := by
  rw [List.mapM_toArray,← bind_pure_comp,Sem.run_bind,hp]
  rfl
 have hq : (zeroValue t).run P w = .ok z w := by simp [zeroValue,typeInfo,hi,hz']
 unfold Instr.build
 rw [Sem.run_bind,hq]
 show (underlying t >>= _ : Sem _).run P w = _
 rw [Sem.run_bind,run_underlying h1]
 show (Array.mapM _ fs.toArray >>= _ : Sem _).run P w = _
 rw [Sem.run_bind,hp']
 simp only [Result.andThen,hz]
 simp [hl]
theorem Zco {z : Value} {n m : Nat} {pl : List (Nat × Nat)} {xs : List (Nat × Operand)} {parts : List (Nat × Value)} {cs cs' : List Value} (ho : o.op = .build t xs.toArray) (hx : evps σ xs = some parts) [hi : Inf P t z n m] [hs : Str P t pl] (hz : z.cells = cs.toArray) [hl : Lay pl cs parts cs'] : Yl P o σ w (.agg cs'.toArray) := ⟨fun N ds a ha => by
 have := Zpc (P := P) (t := t) (w := w) hz hl.lay
 have e := ha.evalps hx
 simp [execOp,ho,e,this]⟩

/-! ### slices -/
theorem Zb5 {size m c : Nat} {a : Option Addr} {news : List Value} (h : Rd w (row a news)) (hl : news.length = m * size) : (Builtin.firstCells size m (.slice a m c)).run P w = .ok news.toArray w := by
 cases a with
 | none =>
  obtain ⟨f,hr,_⟩ := h
  rcases hr with ⟨rfl,_⟩ | ⟨b,off,_,_,_,hx,_⟩
  ·simp [Builtin.firstCells]
  ·cases hx
 | some ad =>
  obtain ⟨f,hr,ha⟩ := h
  refine run_firstCells_some (P := P) w size m ad m c news hl fun j v hv => ?_
  rcases hr with ⟨rfl,_⟩ | ⟨b,off,cells,T,fz,hx,hf,hc⟩
  ·cases hv
  ·obtain rfl : ad = ⟨b,off,none⟩ := Option.some.inj hx
   rw [Zcn,cell_of_row w b _ cells T fz (ha b _ (by rw [hf]; exact Zbz _ _))]
   exact hc j v hv

theorem Zcs {T e c : Nat} {b : Nat} {l cs : List Value} (hl : l.length = c * e) (hc : c ≤ maxLen) (hcs : l.take cs.length = cs) : ∀ h,pts b (.cells l.toArray T (0,0)) h → own T e (some ⟨b,0,none⟩) c cs h := fun h hh => by
 have : cs.length ≤ c * e := by rw [← hl,← hcs]; simp; omega
 exact ⟨this,hc,.inr ⟨b,l.toArray,rfl,hh,by simpa using hl,by simpa using hcs⟩⟩
theorem own_none (T e : Nat) (a : Option Addr) : own T e a 0 [] (fun _ => none) := ⟨by simp,by simp [maxLen],.inl ⟨rfl,fun _ => rfl⟩⟩
theorem St.own_none {W : World} {F : Nat → Prop} {rs : List Res} (hS : St W F rs w) (T e : Nat) (a : Option Addr) : St W F (own T e a 0 [] :: rs) w := by
 obtain ⟨h,hs,s⟩ := hS
 exact ⟨h,⟨_,h,Cr.own_none T e a,hs,fun _ => .inl rfl,fun _ => by simp⟩,s⟩

class HasOwn (rs : List Res) (a : Option Addr) (T e c : outParam Nat) (cs : outParam (List Value)) (rest : outParam (List Res)) : Prop where
 has : rs.Perm (own T e a c cs :: rest)
instance (rs : List Res) (a : Option Addr) (T e c : Nat) (cs : List Value) : HasOwn (own T e a c cs :: rs) a T e c cs rs := ⟨.refl _⟩
instance (r : Res) (rs : List Res) (a : Option Addr) (T e c : Nat) (cs : List Value) (rest : List Res) [h : HasOwn rs a T e c cs rest] : HasOwn (r :: rs) a T e c cs (r :: rest) := ⟨(List.Perm.cons r h.has).trans (.swap _ _ _)⟩

theorem run_append {T size bytes c n m c2 : Nat} {a a2 : Option Addr} {cs news : List Value} {z : Value} {W : World} {F : Nat → Prop} {rest : List Res} (tx : TypeId) [h : Und P t (.slice T)] [hx : Und P tx (.slice T)] [hi : Inf P T z size bytes]
  (hS : St W F (own T size a c cs :: rest) w) (hcs : cs.length = n * size) (hnews : Rd w (row a2 news)) (hl : news.length = m * size) (h1 : ∀ u ∈ news,u.oneCell' = true) (hnc : n ≤ c) (hfit : (n + m) * bytes ≤ 140737488355328) (hmax : n + m ≤ maxLen) :
  ∃ a' c' w',(Builtin.append_ #[t,tx] ty #[.slice a n c,.slice a2 m c2]).run P w = .ok (.slice a' (n + m) c') w' ∧ St W F (own T size a' c' (cs ++ news) :: rest) w' ∧ n + m ≤ c' ∧ (a' = none ↔ a = none ∧ m = 0) := by
 obtain ⟨i,hi',hz',hsz,hby⟩ := info_parts hi.inf
 have hz := hi.zs
 subst hsz hby
 have hf := Zb5 (P := P) (size := i.size) (m := m) (c := c2) hnews hl
 obtain ⟨f,⟨f1,f2,ho,hs,hd,hu⟩,s⟩ := hS
 have hlt : ((n + m : Nat) : Int) ≤ 9223372036854775807 := by simp only [maxLen] at hmax; omega
 by_cases hroom : n + m ≤ c
 ·have ho' := ho
  obtain ⟨_,hcm,⟨rfl,he⟩ | ⟨b,cells,rfl,hf1,hcz,ht⟩⟩ := ho
  ·obtain rfl : n = 0 := by omega
   obtain rfl : m = 0 := by omega
   obtain rfl : news = [] := List.eq_nil_of_length_eq_zero (by simpa using hl)
   refine ⟨a,0,w,?_,⟨f,⟨f1,f2,by simpa using ho',hs,hd,hu⟩,s⟩,by omega,by simp⟩
   cases a <;> simp [Builtin.append_,run_underlying h.und,run_underlying hx.und,Go.sizeOf,typeInfo,hi',Builtin.lenOf,hf,storeCells]
  ·have hb : w.heap[b]? = some (.cells cells T (0,0)) := s.agrees b _ (by rw [hu,hf1,Zbz]; rfl)
   have hfit2 : n * i.size + news.length ≤ cells.size := by rw [hl,hcz,← Nat.add_mul]; exact Nat.mul_le_mul_right _ hroom
   have hst := run_storeCells_at P b (n * i.size) T news 0 cells w hb (by simpa using hfit2) h1
   simp only [Nat.add_zero] at hst
   have u := Zcp hb (cells.toList.take (n * i.size) ++ news ++ cells.toList.drop (n * i.size + news.length)).toArray
   have hlen : (cells.toList.take (n * i.size) ++ news ++ cells.toList.drop (n * i.size + news.length)).length = c * i.size := by
    simp only [List.length_append,List.length_take,List.length_drop,Array.length_toList]; omega
   refine ⟨some ⟨b,0,none⟩,c,w.setRow b (cells.toList.take (n * i.size) ++ news ++ cells.toList.drop (n * i.size + news.length)).toArray,?_,?_,hroom,by simp⟩
   ·simp [Builtin.append_,run_underlying h.und,run_underlying hx.und,Go.sizeOf,typeInfo,hi',Builtin.lenOf,hf,hroom,Zcn,hst]
   ·have hS2 : St W F (pts b (.cells cells T (0,0)) :: rest) w := ⟨f,⟨f1,f2,hf1,hs,hd,hu⟩,s⟩
    refine (hS2.set u).imp fun g hg => hg.mono_head (Zcs (c := c) hlen hcm ?_)
    rw [hcs] at ht
    rw [ht,List.take_append_of_le_length (by simp),List.take_of_length_le (by simp)]
 ·have hge : n + m ≤ grownCap w (n + m) c T := grownCap_ge w (n + m) c T
  have hcm : grownCap w (n + m) c T ≤ maxLen := grownCap_le_maxLen w (n + m) c T hmax
  have hn' : ¬ (n + m ≤ c) := hroom
  have hmin : ¬ (9223372036854775807 < ((n : Int) + (m : Int))) := by omega
  have h48 : ¬ (281474976710656 < Builtin.nextslicecap (n + m) c * i.bytes) := by have := growslice_fits (show c < n + m by omega) hfit; omega
  have hfd : (Builtin.firstCells i.size m (.slice a2 m c2)).run P w.drew = .ok news.toArray w.drew := Zb5 (P := P) (by
   obtain ⟨g,hg,ha⟩ := hnews; exact ⟨g,hg,ha⟩) hl
  have hod : (Builtin.firstCells i.size n (.slice a n c)).run P w.drew = .ok cs.toArray w.drew := Zb5 (P := P) (size := i.size) ⟨f1,ho.row,fun b o e => s.agrees b o (by rw [hu,e]; rfl)⟩ hcs
  let blk := cs.toArray ++ news.toArray ++ Builtin.zeroCells z.cells (grownCap w (n + m) c T - (n + m))
  have hS2 : St W F rest w := St.drop ⟨f,⟨f1,f2,ho,hs,hd,hu⟩,s⟩
  refine ⟨some ⟨w.heap.size,0,none⟩,grownCap w (n + m) c T,w.drew.alloc (.cells blk T),?_,?_,hge,by simp; omega⟩
  ·simp [Builtin.append_,run_underlying h.und,run_underlying hx.und,Go.sizeOf,typeInfo,zeroValue,hi',hz',Builtin.lenOf,hn',hmin,h48,Question.forced,hod,hfd,newRow,grownCap,blk]
  ·have hlen : blk.toList.length = grownCap w (n + m) c T * i.size := by
    simp only [blk,Array.length_toList,Array.size_append,List.size_toArray,size_zeroCells,hz,hcs,hl,← Nat.add_mul]
    congr 1; omega
   have h3 := hS2.drew.alloc (.cells blk T)
   refine St.imp h3 fun g hg => hg.mono_head ?_
   have key := Zcs (T := T) (e := i.size) (c := grownCap w (n + m) c T) (b := w.heap.size) (l := blk.toList) (cs := cs ++ news) hlen hcm (by simp only [blk,Array.toList_append]; exact List.take_left)
   simpa using key
theorem Zc4 {T size bytes c n m c2 : Nat} {a a2 : Option Addr} {cs news : List Value} {z : Value} {W : World} {F : Nat → Prop} {rs rest : List Res} {d : Nat} {tx : TypeId} (ho : o.op = .call { callee := .builtin .append,args := #[x,y],argTypes := #[t,tx] }) (hx : ev σ x = some (.slice a n c)) (hy : ev σ y = some (.slice a2 m c2))
  [h : Und P t (.slice T)] [hx' : Und P tx (.slice T)] [hi : Inf P T z size bytes] (hd : o.dst = some d) (hN : Nat.blt d N = true) (hS : St W F rs w) [hh : HasOwn rs a T size c cs rest] (hcs : cs.length = n * size) (hnc : n ≤ c) (hnews : Rd w (row a2 news)) (hl : news.length = m * size) (h1 : ∀ u ∈ news,u.oneCell' = true)
  (hfit : (n + m) * bytes ≤ 140737488355328) (hmax : n + m ≤ maxLen)
  (hk : ∀ a' c' w',St W F (own T size a' c' (cs ++ news) :: rest) w' → n + m ≤ c' → (a' = none ↔ a = none ∧ m = 0) → K ((d,.slice a' (n + m) c') :: σ) w') : X P o N ds σ w K := ⟨fun f ha K' Q' hK => by
 obtain ⟨a',c',w',hr,hS',hc',hn⟩ := run_append (P := P) (t := t) (ty := o.type) (c2 := c2) tx (hS.perm hh.has) hcs hnews hl h1 hnc hfit hmax
 unfold Oper.wp
 have hexec : (execOp f.eval o).run P w = .ok (.value (.slice a' (n + m) c')) w' := by
  simp [execOp,ho,resolve,invoke,builtin,ha.eval hx,ha.eval hy,hr]
 rw [hexec]
 have := hK _ _ _ (ha.put (Zbp hN) (.slice a' (n + m) c')) (hk a' c' w' hS' hc' hn)
 rw [← hd] at this
 exact this⟩

/-! ### make,slice literals -/
theorem Zob (z : Value) (n : Nat) : madeCells #[z] n = (List.replicate n z).toArray := by
 apply Array.ext
 ·simp [madeCells]
 ·intro i h1 h2
  have : i % 1 = 0 := by omega
  simp [madeCells,this]
theorem X_make {T size bytes d : Nat} {k k' : IntKind} {l c : Int} {z : Value} {W : World} {F : Nat → Prop} {rs : List Res} (ho : o.op = .makeSlice t x y) (hx : ev σ x = some (.int k l)) (hy : ev σ y = some (.int k' c))
  [h : Und P t (.slice T)] [hi : Inf P T z size bytes] (h0 : 0 ≤ l) (hlc : l ≤ c) (hb : (bytes : Int) * c ≤ 281474976710656) (hm : c ≤ 9223372036854775807) (hd : o.dst = some d) (hN : Nat.blt d N = true) (hS : St W F rs w)
  (hk : ∀ b w',St W F (pts b (.cells (madeCells z.cells (c.toNat * size)) T (0,0)) :: rs) w' → RowKit.Below w.heap.size w w' → K ((d,.slice (some ⟨b,0,none⟩) l.toNat c.toNat) :: σ) w') : X P o N ds σ w K := ⟨fun f ha K' Q' hK => by
 obtain ⟨i,hi',hz',hsz,hby⟩ := info_parts hi.inf
 subst hsz hby
 have hr := run_make (P := P) w t T i z h.und hi' hz' k k' l c h0 hlc hb hm
 unfold Oper.wp
 have hexec : (execOp f.eval o).run P w = .ok (.value (.slice (some ⟨w.heap.size,0,none⟩) l.toNat c.toNat)) (w.alloc (.cells (madeCells z.cells (c.toNat * i.size)) T)) := by
  simp [execOp,ho,ha.eval hx,ha.eval hy,hr]
 rw [hexec]
 have := hK _ _ _ (ha.put (Zbp hN) (.slice (some ⟨w.heap.size,0,none⟩) l.toNat c.toNat)) (hk w.heap.size _ (hS.alloc _) ((RowKit.Below.refl _ _).alloc (Nat.le_refl _) _))
 rw [← hd] at this
 exact this⟩
class AppL (a b : List Value) (c : outParam (List Value)) : Prop where
 app : a ++ b = c
instance (b : List Value) : AppL [] b b := ⟨rfl⟩
instance (v : Value) (a b c : List Value) [h : AppL a b c] : AppL (v :: a) b (v :: c) := ⟨by simp [h.app]⟩
instance (a : List Value) : AppL a [] a := ⟨by simp⟩
class CellsAll (parts : List (Nat × Value)) (size : Nat) (l : outParam (List Value)) : Prop where
 all : ∃ ls : List (List Value),ls.length = parts.length ∧ (∀ (i : Nat) (p : Nat × Value) (vs : List Value),parts[i]? = some p → ls[i]? = some vs → p.2.cells = vs.toArray ∧ vs.length = size) ∧ ls.flatten = l
instance (size : Nat) : CellsAll [] size [] := ⟨[],rfl,by simp,rfl⟩
instance (i size : Nat) (v : Value) (vs l l' : List Value) (r : List (Nat × Value)) [hv : CellsOf v vs] [hn : LenIs vs size] [hr : CellsAll r size l] [ha : AppL vs l l'] : CellsAll ((i,v) :: r) size l' := ⟨by
 obtain ⟨ls,h1,h2,h3⟩ := hr.all
 refine ⟨vs :: ls,by simp [h1],fun j p us hp hu => ?_,by simp [h3,ha.app]⟩
 cases j with
 | zero => simp at hp hu; subst hp; subst hu; exact ⟨hv.cells,hn.len⟩
 | succ j => exact h2 j p us (by simpa using hp) (by simpa using hu)⟩
theorem Zsw {size : Nat} : ∀ (parts : List (Nat × Value)) (ls : List (List Value)) (k : Nat) (A Z : List Value),ls.length = parts.length → (∀ (i : Nat) (p : Nat × Value) (vs : List Value),parts[i]? = some p → ls[i]? = some vs → p.2.cells = vs.toArray ∧ vs.length = size) →
  parts.map (·.1) = List.range' k parts.length → A.length = k * size → Z.length = parts.length * size →
  Instr.fill (fun i => some (i * size,size)) (A ++ Z).toArray parts = some (A ++ ls.flatten).toArray
 | [],ls,k,A,Z,h1,_,_,_,hZ => by
  obtain rfl : ls = [] := List.eq_nil_of_length_eq_zero (by simpa using h1)
  obtain rfl : Z = [] := List.eq_nil_of_length_eq_zero (by simpa using hZ)
  simp [Instr.fill]
 | (i,v) :: r,ls,k,A,Z,h1,h2,h3,hA,hZ => by
  cases ls with
  | nil => simp at h1
  | cons vs ls =>
   obtain ⟨hv,hn⟩ := h2 0 (i,v) vs rfl rfl
   simp only [List.map_cons,List.length_cons,List.range'_succ,List.cons.injEq] at h3
   obtain ⟨rfl,h3⟩ := h3
   simp only [List.length_cons] at hZ h1
   have hZ' : size ≤ Z.length := by rw [hZ,Nat.add_mul]; omega
   rw [Zly (off := i * size) (vs := vs) (by simp [hn]) hv (by simp [hA,hn]; exact hZ')]
   have e : (A ++ Z).take (i * size) ++ vs ++ (A ++ Z).drop (i * size + vs.length) = (A ++ vs) ++ Z.drop size := by
    rw [← hA,List.take_left,List.drop_length_add_append,hn]
   rw [e,Zsw r ls (i + 1) (A ++ vs) (Z.drop size) (by omega) (fun j p us hp hu => h2 (j + 1) p us (by simpa using hp) (by simpa using hu)) h3 (by simp [hA,hn,Nat.add_mul]) (by simp [hZ,Nat.add_mul])]
   simp
theorem Za6 {T size bytes d n : Nat} {z : Value} {xs : List (Nat × Operand)} {parts : List (Nat × Value)} {l : List Value} {W : World} {F : Nat → Prop} {rs : List Res} (ho : o.op = .buildSlice t n xs.toArray) (hx : evps σ xs = some parts) (hn : parts.length = n) (hidx : parts.map (·.1) = List.range' 0 n)
    [h : Und P t (.slice T)] [hi : Inf P T z size bytes] (hsm : Nat.ble (n * size) 16777216 = true) (hnm : Nat.ble n 16777216 = true) [hl : CellsAll parts size l] (hd : o.dst = some d) (hN : Nat.blt d N = true) (hS : St W F rs w)
    (hk : ∀ b w',St W F (own T size (some ⟨b,0,none⟩) n l :: rs) w' → RowKit.Below w.heap.size w w' → K ((d,.slice (some ⟨b,0,none⟩) n n) :: σ) w') : X P o N ds σ w K := ⟨fun f ha K' Q' hK => by
  obtain ⟨i,hi',hz',hsz,hby⟩ := info_parts hi.inf
  have hz := hi.zs
  subst hsz hby
  subst hn
  obtain ⟨ls,h1,h2,h3⟩ := hl.all
  have hsm' : parts.length * i.size ≤ 16777216 := Nat.le_of_ble_eq_true hsm
  have e := ha.evalps hx
  have hlen : l.length = parts.length * i.size := by
    rw [← h3,List.length_flatten]
    have : ls.map List.length = List.replicate parts.length i.size := by
      apply List.ext_getElem
      · simp [h1]
      · intro j hj1 hj2
        simp at hj1 hj2 ⊢
        exact (h2 j _ _ (List.getElem?_eq_getElem (by omega)) (List.getElem?_eq_getElem hj1)).2
    rw [this]; simp
  have hfill : ∀ zc : Array Value,Instr.fill (fun j => some (j * i.size,i.size)) ((Array.range (parts.length * i.size)).map (zc[· % zc.size]!)) parts = some l.toArray := fun zc => by
    have hq := Zsw (size := i.size) parts ls 0 [] ((Array.range (parts.length * i.size)).map (zc[· % zc.size]!)).toList h1 h2 hidx (by simp) (by simp)
    simp only [List.nil_append,Array.toArray_toList] at hq
    rw [hq,h3]
  have hexec : (execOp f.eval o).run P w = .ok (.value (.slice (some ⟨w.heap.size,0,none⟩) parts.length parts.length)) (w.alloc (.cells l.toArray T)) := by
    have hsm2 : ¬ (16777216 < parts.length * i.size) := by omega
    have hq : ∀ zc : Array Value,((Instr.fill (fun j => some (j * i.size,i.size)) ((Array.range (parts.length * i.size)).map (zc[· % zc.size]!)) parts)) = some l.toArray := hfill
    simp only [execOp,ho,List.map_toArray,e,Sem.run_bind,Instr.buildSlice,run_underlying h.und,Result.andThen_ok,Go.sizeOf,typeInfo,run_program,hi',Sem.run_pure,zeroValue]
    by_cases h00 : parts.length * i.size = 0
    · simp [h00,newRow]
      have := hq #[]
      rw [h00] at this
      simp at this
      simp [this]
    · simp [hsm2,h00,newRow,hq,hi',hz']
  unfold Oper.wp
  rw [hexec]
  have hmx : parts.length ≤ maxLen := by
    simp only [maxLen]
    have := Nat.le_of_ble_eq_true hnm
    omega
  have := hK _ _ _ (ha.put (Zbp hN) (.slice (some ⟨w.heap.size,0,none⟩) parts.length parts.length)) (hk w.heap.size _ ((hS.alloc (.cells l.toArray T)).imp fun g hg => hg.mono_head (Zcs (e := i.size) (c := parts.length) (cs := l) hlen hmx (by simp))) ((RowKit.Below.refl _ _).alloc (Nat.le_refl _) _))
  rw [← hd] at this
  exact this⟩
end
end Cr
namespace Cr
open Go

def sub (a : Option Addr) (l e c : Nat) : Option Addr := if c = l then a else a.map (·.add (l * e))
theorem sub_zero (a : Option Addr) (e c : Nat) : sub a 0 e c = a := by
 unfold sub; cases a <;> simp [Addr.add]
theorem Zn4 {a : Option Addr} {cs cs' : List Value} {l e c : Nat} (hs : ∀ j v,cs'[j]? = some v → cs[l * e + j]? = some v) (hz : c = l → cs' = []) : ∀ h,row a cs h → ∃ h',row (sub a l e c) cs' h' ∧ ∀ b o,h' b = some o → h b = some o := by
 intro h H
 unfold sub
 by_cases hc : c = l
 ·have := hz hc; subst this
  exact ⟨fun _ => none,.inl ⟨rfl,fun _ => rfl⟩,fun _ _ h => by cases h⟩
 ·rw [if_neg hc]
  rcases H with ⟨rfl,hh⟩ | ⟨b,off,cells,T,fz,rfl,hh,hk⟩
  ·have : cs' = [] := by
    cases cs' with
    | nil => rfl
    | cons x l => have := hs 0 x rfl; simp at this
   exact ⟨h,.inl ⟨this,hh⟩,fun _ _ x => x⟩
  ·exact ⟨h,.inr ⟨b,off + l * e,cells,T,fz,by simp [Zcn],hh,fun j v hv => by rw [Nat.add_assoc]; exact hk _ _ (hs j v hv)⟩,fun _ _ x => x⟩
theorem Rd.sub {w : World} {a : Option Addr} {cs : List Value} {l h e c : Nat} (H : Rd w (row a cs)) (hh : h ≤ c) (hl : l ≤ h) : Rd w (row (sub a l e c) ((cs.drop (l * e)).take ((h - l) * e))) :=
 H.mono (Zn4 (fun j v hv => by
  rw [List.getElem?_take] at hv; split at hv
  ·simpa using hv
  ·cases hv) (fun hc => by subst hc; simp [show h - c = 0 by omega]))
theorem Ro.sub {w : World} {F : Nat → Prop} {a : Option Addr} {cs : List Value} {l h e c : Nat} (H : Ro w F (row a cs)) (hh : h ≤ c) (hl : l ≤ h) : Ro w F (row (Cr.sub a l e c) ((cs.drop (l * e)).take ((h - l) * e))) :=
 H.mono (Zn4 (fun j v hv => by
  rw [List.getElem?_take] at hv; split at hv
  ·simpa using hv
  ·cases hv) (fun hc => by subst hc; simp [show h - c = 0 by omega]))
theorem Rd.subBytes {w : World} {a : Option Addr} {s : List UInt8} {l h c : Nat} (H : Rd w (bytes a s)) (hh : h ≤ c) (hl : l ≤ h) : Rd w (bytes (Cr.sub a l 1 c) ((s.drop l).take (h - l))) := by
 have := Rd.sub (e := 1) H hh hl
 simpa [bytes,Zl7,bv_drop] using this
theorem Ro.subBytes {w : World} {F : Nat → Prop} {a : Option Addr} {s : List UInt8} {l h c : Nat} (H : Ro w F (bytes a s)) (hh : h ≤ c) (hl : l ≤ h) : Ro w F (bytes (Cr.sub a l 1 c) ((s.drop l).take (h - l))) := by
 have := Ro.sub (e := 1) H hh hl
 simpa [bytes,Zl7,bv_drop] using this

section
variable {P : Program} {o : Oper} {σ : Env} {w : World} {N : Nat} {ds : Md} {K : Env → World → Prop}
variable {x y : Operand} {t ty e : TypeId}

def evo (σ : Env) : Option Operand → Option (Option Value)
 | none => some none
 | some x => match ev σ x with | some v => some (some v) | none => none
theorem Fr.evalo {a : Act} (h : Fr σ N ds a) {x : Option Operand} {v : Option Value} (hx : evo σ x = some v) : x.map a.eval = v := by
 cases x with
 | none => simpa [evo] using hx
 | some x =>
  unfold evo at hx
  cases he : ev σ x with
  | none => simp [he] at hx
  | some u => simp [he] at hx; subst hx; simp [h.eval he]
def Bnd (v : Option Value) (d m n : Nat) : Prop := (v = none ∧ n = d) ∨ (∃ k i,v = some (.int k i) ∧ 0 ≤ i ∧ i.toNat = n ∧ n ≤ m)
theorem Bnd.none {d m : Nat} : Bnd none d m d := .inl ⟨rfl,rfl⟩
theorem Zpd {k : IntKind} {i : Int} {m : Nat} {c : BoundsCode} (h0 : 0 ≤ i) (h : i.toNat ≤ m) : (Instr.sliceBound (.int k i) m c).run P w = .ok i.toNat w := by
 have : i ≤ m := by omega
 simp [Instr.sliceBound,asIntOf,h0,this]
theorem Zhb {b : Bool} {len cap : Nat} {lo hi : Option Value} {l h : Nat} (hh : Bnd hi len cap h) (hl : Bnd lo 0 h l) : (Instr.sliceBounds b len cap lo hi none).run P w = .ok (l,h,cap) w := by
 unfold Instr.sliceBounds
 rcases hh with ⟨rfl,rfl⟩ | ⟨k,i,rfl,h0,rfl,h1⟩ <;> rcases hl with ⟨rfl,rfl⟩ | ⟨k',j,rfl,h0',rfl,h1'⟩ <;> simp [Zpd, *]
theorem Zk6 {b : Bool} {len cap : Nat} {lo hi mx : Option Value} {l h m : Nat} (hm : ∃ k i,mx = some (.int k i) ∧ 0 ≤ i ∧ i.toNat = m ∧ m ≤ cap) (hh : ∃ k i,hi = some (.int k i) ∧ 0 ≤ i ∧ i.toNat = h ∧ h ≤ m) (hl : Bnd lo 0 h l) : (Instr.sliceBounds b len cap lo hi mx).run P w = .ok (l,h,m) w := by
 unfold Instr.sliceBounds
 obtain ⟨k,i,rfl,h0,rfl,h1⟩ := hm
 obtain ⟨k2,i2,rfl,h02,rfl,h12⟩ := hh
 rcases hl with ⟨rfl,rfl⟩ | ⟨k',j,rfl,h0',rfl,h1'⟩ <;> simp [Zpd, *]
theorem Zcw {a : Option Addr} {n c m l h : Nat} {lo hi : Option Operand} {vl vh : Option Value} (ho : o.op = .slice t x lo hi none) (hx : ev σ x = some (.slice a n c)) (hlo : evo σ lo = some vl) (hhi : evo σ hi = some vh) [hu : Und P t (.slice e)] [hs : Siz P e m] (hh : Bnd vh n c h) (hl : Bnd vl 0 h l) :
  Yl P o σ w (.slice (sub a l m c) (h - l) (c - l)) := ⟨fun N ds f ha => by
 have hb := Zhb (P := P) (w := w) (b := true) hh hl
 have hsz : (Go.sizeOf e).run P w = .ok m w := Zb3 w
 simp [execOp,ho,ha.eval hx,ha.evalo hlo,ha.evalo hhi,Instr.sliceAt,Instr.slice,run_underlying hu.und,hb,hsz,sub]⟩
theorem Zme {a : Option Addr} {n c m l h k : Nat} {lo hi mx : Option Operand} {vl vh vm : Option Value} (ho : o.op = .slice t x lo hi mx) (hx : ev σ x = some (.slice a n c)) (hlo : evo σ lo = some vl) (hhi : evo σ hi = some vh) (hmx : evo σ mx = some vm) [hu : Und P t (.slice e)] [hs : Siz P e m]
  (hm : ∃ k' i,vm = some (.int k' i) ∧ 0 ≤ i ∧ i.toNat = k ∧ k ≤ c) (hh : ∃ k' i,vh = some (.int k' i) ∧ 0 ≤ i ∧ i.toNat = h ∧ h ≤ k) (hl : Bnd vl 0 h l) :
  Yl P o σ w (.slice (sub a l m k) (h - l) (k - l)) := ⟨fun N ds f ha => by
 have hb := Zk6 (P := P) (w := w) (b := true) (len := n) hm hh hl
 have hsz : (Go.sizeOf e).run P w = .ok m w := Zb3 w
 simp [execOp,ho,ha.eval hx,ha.evalo hlo,ha.evalo hhi,ha.evalo hmx,Instr.sliceAt,Instr.slice,run_underlying hu.und,hb,hsz,sub]⟩
theorem Zqc {s : ByteArray} {l h : Nat} {lo hi : Option Operand} {vl vh : Option Value} (ho : o.op = .slice t x lo hi none) (hx : ev σ x = some (.string s)) (hlo : evo σ lo = some vl) (hhi : evo σ hi = some vh) [hu : Und P t .string] (hh : Bnd vh s.size s.size h) (hl : Bnd vl 0 h l) :
  Yl P o σ w (.string (s.extract l h)) := ⟨fun N ds f ha => by
 have hb := Zhb (P := P) (w := w) (b := false) hh hl
 simp [execOp,ho,ha.eval hx,ha.evalo hlo,ha.evalo hhi,Instr.sliceAt,Instr.slice,run_underlying hu.und,hb]⟩
theorem Zcq {b off n : Nat} (ho : o.op = .slice t x none none none) (hx : ev σ x = some (.pointer (some ⟨b,off,none⟩))) [hu : Und P t (.array n e)] {m : Nat} [hs : Siz P e m] :
  Yl P o σ w (.slice (some ⟨b,off,none⟩) n n) := ⟨fun N ds f ha => by
 have hb := Zhb (P := P) (w := w) (b := false) (len := n) (cap := n) (lo := none) (hi := none) .none .none
 have hsz : (Go.sizeOf e).run P w = .ok m w := Zb3 w
 simp [execOp,ho,ha.eval hx,Instr.sliceAt,Instr.sureAddr,run_underlying hu.und,hb,hsz,Addr.add]⟩
theorem Zot {b off n m l h : Nat} {lo hi : Option Operand} {vl vh : Option Value} (ho : o.op = .slice t x lo hi none) (hx : ev σ x = some (.pointer (some ⟨b,off,none⟩))) (hlo : evo σ lo = some vl) (hhi : evo σ hi = some vh) [hu : Und P t (.array n e)] [hs : Siz P e m] (hh : Bnd vh n n h) (hl : Bnd vl 0 h l) :
  Yl P o σ w (.slice (sub (some ⟨b,off,none⟩) l m n) (h - l) (n - l)) := ⟨fun N ds f ha => by
 have hb := Zhb (P := P) (w := w) (b := false) hh hl
 have hsz : (Go.sizeOf e).run P w = .ok m w := Zb3 w
 simp [execOp,ho,ha.eval hx,ha.evalo hlo,ha.evalo hhi,Instr.sliceAt,Instr.sureAddr,run_underlying hu.und,hb,hsz,sub]
 split <;> rfl⟩
theorem Zji {a : Addr} {n c m : Nat} (ho : o.op = .sliceToArrayPointer t x) (hx : ev σ x = some (.slice (some a) n c)) [hu : Und P t (.array m e)] (hm : m ≤ n) : Yl P o σ w (.pointer (some a)) := ⟨fun N ds f ha => by
 have : ¬ n < m := by omega
 simp [execOp,ho,ha.eval hx,Instr.arrayAt,run_underlying hu.und,this]⟩

/-! ### stores by lists -/
def Zby (l : List Value) (n : Nat) (vs : List Value) : List Value := l.take n ++ vs ++ l.drop (n + vs.length)
theorem Zdk {l vs : List Value} {n : Nat} (h : n + vs.length ≤ l.length) : (Zby l n vs).length = l.length := by simp [Zby]; omega
theorem Zf9 {cs r vs : List Value} {i : Nat} (h : i + vs.length ≤ cs.length) : Zby (cs ++ r) i vs = Zby cs i vs ++ r := by
 unfold Zby
 rw [List.take_append_of_le_length (by omega),List.drop_append_of_le_length h]
 simp
theorem Ziy {b off m : Nat} {v : Value} {l vs : List Value} {T : TypeId} {W : World} {F : Nat → Prop} {rs rs' : List Res} (ho : o.op = .store t x y) (hx : ev σ x = some (.pointer (some ⟨b,off,none⟩))) (hy : ev σ y = some v) [hv : CellsOf v vs] [hs : Siz P t m] (hm : vs.length = m) (h1 : ∀ u ∈ vs,u.oneCell' = true)
  (hd : o.dst = none) (hS : St W F rs w) [hh : Has rs b (.cells l.toArray T (0,0))] (hfit : off + vs.length ≤ l.length) [hu : Upd rs b (.cells (Zby l off vs).toArray T (0,0)) rs']
  (h : ∀ w',St W F rs' w' → (∀ k,k ≠ b → w'.heap[k]? = w.heap[k]?) → K σ w') : X P o N ds σ w K := ⟨fun a ha K' Q' hK => by
 unfold Oper.wp
 have hb := hS.has (b := b) (o := .cells l.toArray T (0,0))
 have hr := Zgw (P := P) (t := t) hv.cells hm h1 hb hfit
 have hexec : (execOp a.eval o).run P w = .ok .skip (w.setRow b (Zby l off vs).toArray) := by
  simp [execOp,ho,ha.eval hx,ha.eval hy,Instr.storeAt,Instr.sureAddr,hr,Zby]
 rw [hexec]
 have u := Zcp hb (Zby l off vs).toArray
 refine hK _ _ _ (?_ : Fr σ N ds _) (h _ (hS.upd u) u.other)
 rw [hd]
 exact ha⟩
theorem Zrv {T sz c i m : Nat} {a : Option Addr} {v : Value} {cs vs : List Value} {W : World} {F : Nat → Prop} {rs rest : List Res} {ad : Addr} (ho : o.op = .store t x y) (hx : ev σ x = some (.pointer (some ad))) (had : ad = adr a i) (hy : ev σ y = some v) [hv : CellsOf v vs] (h1 : ∀ u ∈ vs,u.oneCell' = true) [hs : Siz P t m] (hm : vs.length = m)
  (hd : o.dst = none) (hS : St W F rs w) [hh : HasOwn rs a T sz c cs rest] (hi : i + vs.length ≤ cs.length) (hpos : 0 < cs.length)
  (h : ∀ w',St W F (own T sz a c (Zby cs i vs) :: rest) w' → K σ w') : X P o N ds σ w K := ⟨fun f ha K' Q' hK => by
 subst had
 obtain ⟨g,⟨g1,g2,hown,hrest,hdj,hu⟩,s⟩ := hS.perm hh.has
 obtain ⟨hle,hcm,⟨rfl,_⟩ | ⟨b,cells,rfl,rfl,hcz,ht⟩⟩ := hown
 ·rw [Nat.zero_mul] at hle; omega
 ·have hb : w.heap[b]? = some (.cells cells T (0,0)) := s.agrees b _ (by rw [hu,Zbz]; rfl)
  have hlen : cells.toList.length = c * sz := by simpa using hcz
  have hb' : w.heap[b]? = some (.cells cells.toList.toArray T (0,0)) := by simpa using hb
  have hr := Zgw (P := P) (t := t) (off := i) (vs := vs) hv.cells hm h1 hb' (by omega)
  have hexec : (execOp f.eval o).run P w = .ok .skip (w.setRow b (Zby cells.toList i vs).toArray) := by
   have : (storeVar t ⟨b,i,none⟩ v).run P w = .ok () (w.setRow b (Zby cells.toList i vs).toArray) := hr
   simp [execOp,ho,ha.eval hx,ha.eval hy,Instr.storeAt,Instr.sureAddr,adr,this]
  unfold Oper.wp
  rw [hexec]
  have u := Zcp hb (Zby cells.toList i vs).toArray
  have hS2 : St W F (pts b (.cells cells T (0,0)) :: rest) w := ⟨g,⟨_,g2,rfl,hrest,hdj,hu⟩,s⟩
  have hsl : (Zby cells.toList i vs).length = c * sz := by rw [Zdk (by omega)]; exact hlen
  refine hK _ _ _ (?_ : Fr σ N ds _) (h _ ((hS2.set u).imp fun q hq => hq.mono_head (Zcs hsl hcm ?_)))
  ·rw [hd]; exact ha
  ·have e1 : cells.toList = cs ++ cells.toList.drop cs.length := by
    have := List.take_append_drop cs.length cells.toList
    rw [ht] at this; exact this.symm
   rw [e1,Zf9 hi,List.take_left]⟩
end
end Cr
namespace Cr
open Go

class ELoad (P : Program) (g : FuncId) (k : outParam IntKind) : Prop where
 run : ∀ {a : Addr} {x : Int} {w : World},w.cell? a = some (.int k x) → (callFunc g #[.pointer (some a)]).run P w = .ok (.value (.int k x)) w
class EStore (P : Program) (g : FuncId) : Prop where
 run : ∀ {a : Addr} {k : IntKind} {y : Int} {u : Value} {w : World},w.cell? a = some u → w.frozen? a = false → (callFunc g #[.pointer (some a),.int k y]).run P w = .ok (.value (.tuple #[])) (w.setCell a (.int k y))
class EAdd (P : Program) (g : FuncId) (k : outParam IntKind) : Prop where
 run : ∀ {a : Addr} {x y s : Int} {w : World},w.cell? a = some (.int k x) → w.frozen? a = false → (Op.intArith .add k x y).run P w = .ok (.int k s) w → (callFunc g #[.pointer (some a),.int k y]).run P w = .ok (.value (.int k s)) (w.setCell a (.int k s))
class ECas (P : Program) (g : FuncId) (k : outParam IntKind) : Prop where
 hit : ∀ {a : Addr} {x y : Int} {w : World},w.cell? a = some (.int k x) → w.frozen? a = false → (callFunc g #[.pointer (some a),.int k x,.int k y]).run P w = .ok (.value (.bool true)) (w.setCell a (.int k y))
class EMark0 (P : Program) (g : FuncId) : Prop where
 run : ∀ w,(callFunc g #[]).run P w = .ok (.value (.tuple #[])) w
class EMark (P : Program) (g : FuncId) : Prop where
 run : ∀ (a : Addr) w,(callFunc g #[.pointer (some a)]).run P w = .ok (.value (.tuple #[])) w

theorem Zga {w : World} {b off : Nat} {l l' : List Value} {T : TypeId} {v : Value} (h : w.heap[b]? = some (.cells l.toArray T (0,0))) (hs : l.set off v = l') : SetBlock w (w.setCell ⟨b,off,none⟩ v) b (.cells l'.toArray T (0,0)) := by
 rw [setCell_eq_setRow w b off _ T (0,0) v h]
 have := Zcp h (l.toArray.setIfInBounds off v)
 rw [List.setIfInBounds_toArray,hs] at this
 rwa [List.setIfInBounds_toArray,hs]
theorem Spl.set {l l' : List Value} {n : Nat} {v : Value} [h : Spl l n [v] l'] : l.set n v = l' := by
 have := h.spl
 simp only [List.length_cons,List.length_nil] at this
 rw [Zk0 _ _ _ (by omega),← this.2]; simp

section
variable {P : Program} {o : Oper} {σ : Env} {w : World} {N : Nat} {ds : Md} {K : Env → World → Prop}
variable {f : Operand} {xs : List Operand} {vs : List Value} {ts : Array TypeId} {g : FuncId} {d : Nat}
theorem Zql {v : Value} {w' : World} (ho : o.op = .call { callee := .value f,args := xs.toArray,argTypes := ts }) (hf : ev σ f = some (.func (.func g) #[] #[])) (hv : evs σ xs = some vs) (hrun : (callFunc g vs.toArray).run P w = .ok (.value v) w')
  (hd : o.dst = some d) (hN : Nat.blt d N = true) (h : K ((d,v) :: σ) w') : X P o N ds σ w K := ⟨fun a ha K' Q' hK => by
 unfold Oper.wp
 have hexec : (execOp a.eval o).run P w = .ok (.value v) w' := by
  simp [execOp,ho,resolve,ha.eval hf,Deferred.ofValue,invoke,ha.evals hv,hrun]
 rw [hexec]
 have := hK _ _ _ (ha.put (Zbp hN) v) h
 rw [← hd] at this
 exact this⟩
theorem X_eload {k : IntKind} {a : Addr} {x : Int} [hg : ELoad P g k] (ho : o.op = .call { callee := .value f,args := xs.toArray,argTypes := ts }) (hf : ev σ f = some (.func (.func g) #[] #[])) (hv : evs σ xs = some [.pointer (some a)]) (hc : w.cell? a = some (.int k x))
  (hd : o.dst = some d) (hN : Nat.blt d N = true) (h : K ((d,.int k x) :: σ) w) : X P o N ds σ w K := Zql ho hf hv (hg.run hc) hd hN h
theorem Zov [hg : EMark0 P g] (ho : o.op = .call { callee := .value f,args := xs.toArray,argTypes := ts }) (hf : ev σ f = some (.func (.func g) #[] #[])) (hv : evs σ xs = some [])
  (hd : o.dst = some d) (hN : Nat.blt d N = true) (h : K ((d,.tuple #[]) :: σ) w) : X P o N ds σ w K := Zql ho hf hv (hg.run w) hd hN h
theorem X_emark {a : Addr} [hg : EMark P g] (ho : o.op = .call { callee := .value f,args := xs.toArray,argTypes := ts }) (hf : ev σ f = some (.func (.func g) #[] #[])) (hv : evs σ xs = some [.pointer (some a)])
  (hd : o.dst = some d) (hN : Nat.blt d N = true) (h : K ((d,.tuple #[]) :: σ) w) : X P o N ds σ w K := Zql ho hf hv (hg.run a w) hd hN h
variable {W : World} {F : Nat → Prop} {rs rs' : List Res} {b off : Nat} {l l' : List Value} {T : TypeId}
theorem Zh3 {w : World} {b off : Nat} {cs : Array Value} {T : TypeId} (h : w.heap[b]? = some (.cells cs T (0,0))) : w.frozen? ⟨b,off,none⟩ = false := frozen_of_row w b off cs T h
theorem X_estore {k : IntKind} {y : Int} {u : Value} [hg : EStore P g] (ho : o.op = .call { callee := .value f,args := xs.toArray,argTypes := ts }) (hf : ev σ f = some (.func (.func g) #[] #[])) (hv : evs σ xs = some [.pointer (some ⟨b,off,none⟩),.int k y])
  (hd : o.dst = some d) (hN : Nat.blt d N = true) (hS : St W F rs w) [hh : Has rs b (.cells l.toArray T (0,0))] [hn : Nth l off u] [hsp : Spl l off [.int k y] l'] [hu : Upd rs b (.cells l'.toArray T (0,0)) rs']
  (h : ∀ w',St W F rs' w' → K ((d,.tuple #[]) :: σ) w') : X P o N ds σ w K :=
 have hb := hS.has (b := b) (o := .cells l.toArray T (0,0))
 Zql ho hf hv (hg.run (hS.cell (b := b) (off := off) (l := l) (T := T) (fz := (0,0)) (v := u)) (Zh3 hb)) hd hN (h _ (hS.upd (Zga hb hsp.set)))
theorem X_ecas {k : IntKind} {y x : Int} [hg : ECas P g k] (ho : o.op = .call { callee := .value f,args := xs.toArray,argTypes := ts }) (hf : ev σ f = some (.func (.func g) #[] #[])) (hv : evs σ xs = some [.pointer (some ⟨b,off,none⟩),.int k x,.int k y])
  (hd : o.dst = some d) (hN : Nat.blt d N = true) (hS : St W F rs w) [hh : Has rs b (.cells l.toArray T (0,0))] [hn : Nth l off (.int k x)] [hsp : Spl l off [.int k y] l'] [hu : Upd rs b (.cells l'.toArray T (0,0)) rs']
  (h : ∀ w',St W F rs' w' → K ((d,.bool true) :: σ) w') : X P o N ds σ w K :=
 have hb := hS.has (b := b) (o := .cells l.toArray T (0,0))
 Zql ho hf hv (hg.hit (hS.cell (b := b) (off := off) (l := l) (T := T) (fz := (0,0)) (v := .int k x)) (Zh3 hb)) hd hN (h _ (hS.upd (Zga hb hsp.set)))
theorem X_eadd {k : IntKind} {y x s : Int} [hg : EAdd P g k] (ho : o.op = .call { callee := .value f,args := xs.toArray,argTypes := ts }) (hf : ev σ f = some (.func (.func g) #[] #[])) (hv : evs σ xs = some [.pointer (some ⟨b,off,none⟩),.int k y]) (hs : k.wrap (x + y) = s)
  (hd : o.dst = some d) (hN : Nat.blt d N = true) (hS : St W F rs w) [hh : Has rs b (.cells l.toArray T (0,0))] [hn : Nth l off (.int k x)] [hsp : Spl l off [.int k s] l'] [hu : Upd rs b (.cells l'.toArray T (0,0)) rs']
  (h : ∀ w',St W F rs' w' → K ((d,.int k s) :: σ) w') : X P o N ds σ w K :=
 have hb := hS.has (b := b) (o := .cells l.toArray T (0,0))
 Zql ho hf hv (hg.run (hS.cell (b := b) (off := off) (l := l) (T := T) (fz := (0,0)) (v := .int k x)) (Zh3 hb) (by rw [← hs]; rfl)) hd hN (h _ (hS.upd (Zga hb hsp.set)))

/-! ### deferred calls -/
variable {ops : Array Oper} {Q : Exit → Act → World → Prop} {rest : List Oper}
theorem G_defer {dl : List Deferred} {first captured : List Value} (hgd : o.guard = none) (ho : o.op = .defer { callee := .value f,args := xs.toArray,argTypes := ts }) (hf : ev σ f = some (.func (.func g) first.toArray captured.toArray)) (hv : evs σ xs = some vs) (hd : o.dst = none)
  (h : G P ops Q rest N ⟨{ target := .fn (.func g) captured.toArray,args := (first ++ vs).toArray } :: dl,none⟩ σ w) : G P ops Q (o :: rest) N ⟨dl,none⟩ σ w := ⟨fun a ha =>
 wpListIn_plain hgd fun K hK => by
  refine ⟨fun _ _ => trivial,?_⟩
  have hexec : (o.semAt (Fc ⟨dl,none⟩).round a.eval).run P w = .ok (.defer { target := .fn (.func g) captured.toArray,args := (first ++ vs).toArray }) w := by
   show (execOp a.eval o).run P w = _
   simp [execOp,ho,resolve,ha.eval hf,Deferred.ofValue,ha.evals hv]
  rw [hexec]
  refine hK _ _ (h.run _ ?_)
  rw [hd]
  exact ⟨ha.size,by simp [Act.put,ha.defers],ha.at_⟩⟩
theorem E_end0d {fn : Func} {R : Ending → World → Prop} (h : fn.results = #[]) (hR : R (.returned (.tuple #[])) w) : E (bodyPost P fn R) .normal N md0 σ w :=
 ⟨fun _ ha => ⟨ha.defers,_,by simp [results,h],hR⟩⟩
theorem E_defer {fn fn' : Func} {R : Ending → World → Prop} {dl : List Deferred} {e : Exit} {captured args : List Value} {body : Code} {N' : Nat} (hf : P.funcs[g]? = some fn') (hb : fn'.body = some body) (hN : fn'.ntmps = N') (hl : Nat.ble (args ++ captured).length N' = true) [hg : Fun P g]
  (he : e = .ret ∨ e = .normal) (h : C P body (bodyPost P fn' (Ret fun _ w' => E (BP P fn R) e N ⟨dl,none⟩ σ w')) N' md0 (enum 0 (args ++ captured)) w) :
  E (BP P fn R) e N ⟨{ target := .fn (.func g) captured.toArray,args := args.toArray } :: dl,none⟩ σ w := ⟨fun a ha => by
 have hd : a.defers = { target := .fn (.func g) captured.toArray,args := args.toArray } :: dl := ha.defers
 have hcall : CallsDIn Fence.wide 0 P g (args ++ captured).toArray .returning w fun e' u' w' => u' = .returning ∧ Ret (fun _ w' => E (BP P fn R) e N ⟨dl,none⟩ σ w') e' w' :=
  callsDIn_of_wp (F := Fence.wide) hf hb trivial (h.run _ (enum_fr hN hl)) rfl
 have hinv : (invoke (.fn (.func g) captured.toArray) args.toArray).run P w = .ok (.enter g (args ++ captured).toArray) w := by
  have := hg.run (args ++ captured).toArray w
  simp only [invoke]
  simpa using this
 have key : LeavesInM (Fc md0) 0 P fn a.tmps R a.defers .returning w := by
  rw [hd]
  refine ⟨by simp,.inr ⟨fun h => by simp [Fc,Fence.wide] at h,.func g,captured.toArray,g,(args ++ captured).toArray,rfl,hinv,fun _ _ => trivial,?_⟩⟩
  refine CallsDIn.mono hcall ?_
  rintro e' u' w' ⟨rfl,v,rfl,hE⟩
  have := hE.run { a with defers := dl } ⟨ha.size,rfl,ha.at_⟩
  rcases he with rfl | rfl <;> exact this
 rcases he with rfl | rfl <;> exact key⟩
end
end Cr
namespace Cr
open Go Go.Proofs
theorem Inf.k {P : Program} {t : TypeId} {z : Value} {s b : Nat} (h : (P.info? t).map (fun i => (i.zero,i.size,i.bytes)) = some (some z,s,b) := by kernel_rfl) (h2 : z.cells.size = s := by kernel_rfl) : Inf P t z s b := ⟨h,h2⟩
theorem Str.k {P : Program} {t : TypeId} {l : List Field} {pl : List (Nat × Nat)} (u : P.underlying t = some (.struct l.toArray)) (h : l.map (fun f => (P.info? f.type).map (·.size)) = pl.map (fun x => some x.2) := by kernel_rfl) (h2 : l.map (·.offset) = pl.map (·.1) := by kernel_rfl) : Str P t pl := ⟨⟨l,u,h,h2⟩⟩
def isAg : TypeDesc → Bool
 | .struct _ | .array _ _ => true
 | _ => false
theorem Agg.k {P : Program} {t : TypeId} {d : TypeDesc} (u : P.underlying t = some d) (h : isAg d = true := by rfl) : Agg P t := ⟨fun w => by rw [Zdd u w]; cases d <;> first | rfl | cases h⟩
theorem Fld.k {P : Program} {s f off n : Nat} {t : TypeId} {fs : Array Field} {fd : Field} (u : P.underlying s = some (.struct fs)) (h : fs[f]? = some fd := by rfl) (h2 : fd.offset = off := by rfl) (h3 : fd.type = t := by rfl) (h4 : (P.info? t).map (·.size) = some n := by kernel_rfl) : Fld P s f off t n := ⟨⟨fs,fd,u,h,h2,h3,h4⟩⟩
theorem Fun.k {P : Program} {g : FuncId} {fn : Func} (h : P.funcs[g]? = some fn) (hn : (fn.name == "runtime.NumGoroutine") = false := by kernel_rfl) (hb : fn.body.isSome = true := by kernel_rfl) : Fun P g := Fun.mk' h hn hb
instance : Und Tryz.prog 2 (.int .i64) := ⟨Tryz.underlying2⟩
instance : Inf Tryz.prog 2 (.int .i64 0) 1 8 := .k
instance : Und Tryz.prog 3 (.int .i64) := ⟨Tryz.underlying3⟩
instance : Inf Tryz.prog 3 (.int .i64 0) 1 8 := .k
instance : Und Tryz.prog 4 (.bool) := ⟨Tryz.underlying4⟩
instance : Inf Tryz.prog 4 (.bool false) 1 1 := .k
instance : Und Tryz.prog 5 (.int .u8) := ⟨Tryz.underlying5⟩
instance : Inf Tryz.prog 5 (.int .u8 0) 1 1 := .k
instance : Und Tryz.prog 6 (.int .u8) := ⟨Tryz.underlying6⟩
instance : Inf Tryz.prog 6 (.int .u8 0) 1 1 := .k
instance : Agg Tryz.prog 7 := .k Tryz.underlying7
instance : Inf Tryz.prog 7 (.agg #[(.int .i64 0),(.int .i64 0),(.bool false),(.int .u8 0)]) 4 24 := .k
instance : Str Tryz.prog 7 [(0,1),(1,1),(2,1),(3,1)] := .k Tryz.underlying7
instance : Agg Tryz.prog 8 := .k Tryz.underlying8
instance : Inf Tryz.prog 8 (.agg #[(.int .i64 0),(.int .i64 0),(.bool false),(.int .u8 0)]) 4 24 := .k
instance : Str Tryz.prog 8 [(0,1),(1,1),(2,1),(3,1)] := .k Tryz.underlying8
instance : Und Tryz.prog 9 (.string) := ⟨Tryz.underlying9⟩
instance : Inf Tryz.prog 9 (.string ⟨#[]⟩) 1 16 := .k
instance : Und Tryz.prog 10 (.string) := ⟨Tryz.underlying10⟩
instance : Inf Tryz.prog 10 (.string ⟨#[]⟩) 1 16 := .k
instance : Und Tryz.prog 11 (.string) := ⟨Tryz.underlying11⟩
instance : Inf Tryz.prog 11 (.string ⟨#[]⟩) 1 16 := .k
instance : Und Tryz.prog 12 (.int .u64) := ⟨Tryz.underlying12⟩
instance : Inf Tryz.prog 12 (.int .u64 0) 1 8 := .k
instance : Agg Tryz.prog 13 := .k Tryz.underlying13
instance : Inf Tryz.prog 13 (.agg #[(.string ⟨#[]⟩),(.int .u64 0)]) 2 24 := .k
instance : Str Tryz.prog 13 [(0,1),(1,1)] := .k Tryz.underlying13
instance : Agg Tryz.prog 14 := .k Tryz.underlying14
instance : Inf Tryz.prog 14 (.agg #[(.string ⟨#[]⟩),(.int .u64 0)]) 2 24 := .k
instance : Str Tryz.prog 14 [(0,1),(1,1)] := .k Tryz.underlying14
instance : Und Tryz.prog 15 (.pointer 409) := ⟨Tryz.underlying15⟩
instance : Inf Tryz.prog 15 (.pointer none) 1 8 := .k
instance : Und Tryz.prog 16 (.pointer 412) := ⟨Tryz.underlying16⟩
instance : Inf Tryz.prog 16 (.pointer none) 1 8 := .k
instance : Und Tryz.prog 17 (.pointer 419) := ⟨Tryz.underlying17⟩
instance : Inf Tryz.prog 17 (.pointer none) 1 8 := .k
instance : Agg Tryz.prog 18 := .k Tryz.underlying18
instance : Inf Tryz.prog 18 (.agg #[(.pointer none)]) 1 8 := .k
instance : Str Tryz.prog 18 [(0,1)] := .k Tryz.underlying18
instance : Agg Tryz.prog 19 := .k Tryz.underlying19
instance : Inf Tryz.prog 19 (.agg #[(.pointer none)]) 1 8 := .k
instance : Str Tryz.prog 19 [(0,1)] := .k Tryz.underlying19
instance : One Tryz.prog 20 := ⟨fun w => Zdd Tryz.underlying20 w⟩
instance : Inf Tryz.prog 20 .nilIface 1 16 := .k
instance : Und Tryz.prog 21 (.int .i32) := ⟨Tryz.underlying21⟩
instance : Inf Tryz.prog 21 (.int .i32 0) 1 4 := .k
instance : Und Tryz.prog 22 (.slice 36) := ⟨Tryz.underlying22⟩
instance : Inf Tryz.prog 22 (.slice none 0 0) 1 24 := .k
instance : Und Tryz.prog 23 (.array 32 5) := ⟨Tryz.underlying23⟩
instance : Inf Tryz.prog 23 (.agg (List.replicate 32 (.int .u8 0)).toArray) 32 32 := .k
instance : Und Tryz.prog 25 (.array 8 3) := ⟨Tryz.underlying25⟩
instance : Inf Tryz.prog 25 (.agg #[(.int .i64 0),(.int .i64 0),(.int .i64 0),(.int .i64 0),(.int .i64 0),(.int .i64 0),(.int .i64 0),(.int .i64 0)]) 8 64 := .k
instance : Und Tryz.prog 26 (.array 64 3) := ⟨Tryz.underlying26⟩
instance : Inf Tryz.prog 26 (.agg (List.replicate 64 (.int .i64 0)).toArray) 64 512 := .k
instance : Und Tryz.prog 31 (.slice 23) := ⟨Tryz.underlying31⟩
instance : Inf Tryz.prog 31 (.slice none 0 0) 1 24 := .k
instance : Und Tryz.prog 36 (.slice 5) := ⟨Tryz.underlying36⟩
instance : Inf Tryz.prog 36 (.slice none 0 0) 1 24 := .k
instance : Und Tryz.prog 42 (.pointer 76) := ⟨Tryz.underlying42⟩
instance : Inf Tryz.prog 42 (.pointer none) 1 8 := .k
instance : Und Tryz.prog 43 (.int .i64) := ⟨Tryz.underlying43⟩
instance : Inf Tryz.prog 43 (.int .i64 0) 1 8 := .k
instance : Und Tryz.prog 55 (.int .u64) := ⟨Tryz.underlying55⟩
instance : Inf Tryz.prog 55 (.int .u64 0) 1 8 := .k
instance : Agg Tryz.prog 58 := .k Tryz.underlying58
instance : Inf Tryz.prog 58 (.agg ((.int .i64 0) :: (List.replicate 32 (.int .u8 0))).toArray) 33 40 := .k
instance : Str Tryz.prog 58 [(0,1),(1,32)] := .k Tryz.underlying58
instance : Agg Tryz.prog 59 := .k Tryz.underlying59
instance : Inf Tryz.prog 59 (.agg ((.int .i64 0) :: (List.replicate 32 (.int .u8 0))).toArray) 33 40 := .k
instance : Str Tryz.prog 59 [(0,1),(1,32)] := .k Tryz.underlying59
instance : Fld Tryz.prog 59 0 0 3 1 := .k Tryz.underlying59
instance : Fld Tryz.prog 59 1 1 23 32 := .k Tryz.underlying59
instance : Und Tryz.prog 66 (.pointer 173) := ⟨Tryz.underlying66⟩
instance : Inf Tryz.prog 66 (.pointer none) 1 8 := .k
instance : Und Tryz.prog 67 (.pointer 121) := ⟨Tryz.underlying67⟩
instance : Inf Tryz.prog 67 (.pointer none) 1 8 := .k
instance : Und Tryz.prog 70 (.slice 9) := ⟨Tryz.underlying70⟩
instance : Inf Tryz.prog 70 (.slice none 0 0) 1 24 := .k
instance : Agg Tryz.prog 75 := .k Tryz.underlying75
instance : Inf Tryz.prog 75 (.agg ((.int .i64 0) :: (List.replicate 32 (.int .u8 0) ++ ((.pointer none) :: ([(.slice none 0 0)])))).toArray) 35 72 := .k
instance : Str Tryz.prog 75 [(0,33),(33,1),(34,1)] := .k Tryz.underlying75
instance : Agg Tryz.prog 76 := .k Tryz.underlying76
instance : Inf Tryz.prog 76 (.agg ((.int .i64 0) :: (List.replicate 32 (.int .u8 0) ++ ((.pointer none) :: ([(.slice none 0 0)])))).toArray) 35 72 := .k
instance : Str Tryz.prog 76 [(0,33),(33,1),(34,1)] := .k Tryz.underlying76
instance : Und Tryz.prog 78 (.slice 80) := ⟨Tryz.underlying78⟩
instance : Inf Tryz.prog 78 (.slice none 0 0) 1 24 := .k
instance : Agg Tryz.prog 79 := .k Tryz.underlying79
instance : Inf Tryz.prog 79 (.agg #[(.int .i64 0),(.int .i64 0),(.slice none 0 0),(.slice none 0 0)]) 4 64 := .k
instance : Str Tryz.prog 79 [(0,1),(1,1),(2,1),(3,1)] := .k Tryz.underlying79
instance : Agg Tryz.prog 80 := .k Tryz.underlying80
instance : Inf Tryz.prog 80 (.agg #[(.int .i64 0),(.int .i64 0),(.slice none 0 0),(.slice none 0 0)]) 4 64 := .k
instance : Str Tryz.prog 80 [(0,1),(1,1),(2,1),(3,1)] := .k Tryz.underlying80
instance : Und Tryz.prog 84 (.slice 55) := ⟨Tryz.underlying84⟩
instance : Inf Tryz.prog 84 (.slice none 0 0) 1 24 := .k
instance : Und Tryz.prog 88 (.pointer 59) := ⟨Tryz.underlying88⟩
instance : Inf Tryz.prog 88 (.pointer none) 1 8 := .k
instance : Und Tryz.prog 89 (.pointer 95) := ⟨Tryz.underlying89⟩
instance : Inf Tryz.prog 89 (.pointer none) 1 8 := .k
instance : Und Tryz.prog 90 (.int .u32) := ⟨Tryz.underlying90⟩
instance : Inf Tryz.prog 90 (.int .u32 0) 1 4 := .k
instance : Und Tryz.prog 91 (.array 8 90) := ⟨Tryz.underlying91⟩
instance : Inf Tryz.prog 91 (.agg #[(.int .u32 0),(.int .u32 0),(.int .u32 0),(.int .u32 0),(.int .u32 0),(.int .u32 0),(.int .u32 0),(.int .u32 0)]) 8 32 := .k
instance : Und Tryz.prog 92 (.array 8 90) := ⟨Tryz.underlying92⟩
instance : Inf Tryz.prog 92 (.agg #[(.int .u32 0),(.int .u32 0),(.int .u32 0),(.int .u32 0),(.int .u32 0),(.int .u32 0),(.int .u32 0),(.int .u32 0)]) 8 32 := .k
instance : Und Tryz.prog 93 (.array 64 5) := ⟨Tryz.underlying93⟩
instance : Inf Tryz.prog 93 (.agg (List.replicate 64 (.int .u8 0)).toArray) 64 64 := .k
instance : Agg Tryz.prog 95 := .k Tryz.underlying95
instance : Inf Tryz.prog 95 (.agg ((.int .u32 0) :: (.int .u32 0) :: (.int .u32 0) :: (.int .u32 0) :: (.int .u32 0) :: (.int .u32 0) :: (.int .u32 0) :: (.int .u32 0) :: (List.replicate 64 (.int .u8 0) ++ ([(.int .i64 0)]))).toArray) 73 104 := .k
instance : Str Tryz.prog 95 [(0,8),(8,64),(72,1)] := .k Tryz.underlying95
instance : Fld Tryz.prog 95 0 0 92 8 := .k Tryz.underlying95
instance : Fld Tryz.prog 95 1 8 93 64 := .k Tryz.underlying95
instance : Fld Tryz.prog 95 2 72 3 1 := .k Tryz.underlying95
instance : Und Tryz.prog 97 (.int .u64) := ⟨Tryz.underlying97⟩
instance : Inf Tryz.prog 97 (.int .u64 0) 1 8 := .k
instance : Und Tryz.prog 101 (.pointer 103) := ⟨Tryz.underlying101⟩
instance : Inf Tryz.prog 101 (.pointer none) 1 8 := .k
instance : Agg Tryz.prog 102 := .k Tryz.underlying102
instance : Inf Tryz.prog 102 (.agg #[(.pointer none),(.slice none 0 0)]) 2 32 := .k
instance : Str Tryz.prog 102 [(0,1),(1,1)] := .k Tryz.underlying102
instance : Agg Tryz.prog 103 := .k Tryz.underlying103
instance : Inf Tryz.prog 103 (.agg #[(.pointer none),(.slice none 0 0)]) 2 32 := .k
instance : Str Tryz.prog 103 [(0,1),(1,1)] := .k Tryz.underlying103
instance : One Tryz.prog 105 := ⟨fun w => Zdd Tryz.underlying105 w⟩
instance : Inf Tryz.prog 105 .nilIface 1 16 := .k
instance : One Tryz.prog 106 := ⟨fun w => Zdd Tryz.underlying106 w⟩
instance : Inf Tryz.prog 106 .nilIface 1 16 := .k
instance : Und Tryz.prog 110 (.pointer 220) := ⟨Tryz.underlying110⟩
instance : Inf Tryz.prog 110 (.pointer none) 1 8 := .k
instance : Und Tryz.prog 111 (.pointer 168) := ⟨Tryz.underlying111⟩
instance : Inf Tryz.prog 111 (.pointer none) 1 8 := .k
instance : Und Tryz.prog 112 (.pointer 249) := ⟨Tryz.underlying112⟩
instance : Inf Tryz.prog 112 (.pointer none) 1 8 := .k
instance : Und Tryz.prog 118 (.array 4 5) := ⟨Tryz.underlying118⟩
instance : Inf Tryz.prog 118 (.agg #[(.int .u8 0),(.int .u8 0),(.int .u8 0),(.int .u8 0)]) 4 4 := .k
instance : Agg Tryz.prog 120 := .k Tryz.underlying120
instance : Inf Tryz.prog 120 (.agg #[(.pointer none),(.string ⟨#[]⟩)]) 2 24 := .k
instance : Str Tryz.prog 120 [(0,1),(1,1)] := .k Tryz.underlying120
instance : Agg Tryz.prog 121 := .k Tryz.underlying121
instance : Inf Tryz.prog 121 (.agg #[(.pointer none),(.string ⟨#[]⟩)]) 2 24 := .k
instance : Str Tryz.prog 121 [(0,1),(1,1)] := .k Tryz.underlying121
instance : Und Tryz.prog 128 (.slice 70) := ⟨Tryz.underlying128⟩
instance : Inf Tryz.prog 128 (.slice none 0 0) 1 24 := .k
instance : Agg Tryz.prog 133 := .k Tryz.underlying133
instance : Inf Tryz.prog 133 (.agg #[(.int .i64 0),(.int .i64 0),(.int .i64 0),(.int .i64 0)]) 4 32 := .k
instance : Str Tryz.prog 133 [(0,1),(1,1),(2,1),(3,1)] := .k Tryz.underlying133
instance : Agg Tryz.prog 134 := .k Tryz.underlying134
instance : Inf Tryz.prog 134 (.agg #[(.int .i64 0),(.int .i64 0),(.int .i64 0),(.int .i64 0)]) 4 32 := .k
instance : Str Tryz.prog 134 [(0,1),(1,1),(2,1),(3,1)] := .k Tryz.underlying134
instance : Fld Tryz.prog 134 0 0 3 1 := .k Tryz.underlying134
instance : Fld Tryz.prog 134 1 1 3 1 := .k Tryz.underlying134
instance : Fld Tryz.prog 134 2 2 3 1 := .k Tryz.underlying134
instance : Fld Tryz.prog 134 3 3 3 1 := .k Tryz.underlying134
instance : Agg Tryz.prog 135 := .k Tryz.underlying135
instance : Inf Tryz.prog 135 (.agg #[(.int .i64 0),(.int .i64 0),(.int .i64 0),(.int .i64 0),(.slice none 0 0)]) 5 56 := .k
instance : Str Tryz.prog 135 [(0,4),(4,1)] := .k Tryz.underlying135
instance : Agg Tryz.prog 136 := .k Tryz.underlying136
instance : Inf Tryz.prog 136 (.agg #[(.int .i64 0),(.int .i64 0),(.int .i64 0),(.int .i64 0),(.slice none 0 0)]) 5 56 := .k
instance : Str Tryz.prog 136 [(0,4),(4,1)] := .k Tryz.underlying136
instance : Fld Tryz.prog 136 0 0 134 4 := .k Tryz.underlying136
instance : Fld Tryz.prog 136 1 4 36 1 := .k Tryz.underlying136
instance : Und Tryz.prog 142 (.array 2 3) := ⟨Tryz.underlying142⟩
instance : Inf Tryz.prog 142 (.agg #[(.int .i64 0),(.int .i64 0)]) 2 16 := .k
instance : Und Tryz.prog 150 (.pointer 5) := ⟨Tryz.underlying150⟩
instance : Inf Tryz.prog 150 (.pointer none) 1 8 := .k
instance : Und Tryz.prog 153 (.pointer 231) := ⟨Tryz.underlying153⟩
instance : Inf Tryz.prog 153 (.pointer none) 1 8 := .k
instance : Und Tryz.prog 156 (.pointer 240) := ⟨Tryz.underlying156⟩
instance : Inf Tryz.prog 156 (.pointer none) 1 8 := .k
instance : Agg Tryz.prog 162 := .k Tryz.underlying162
instance : Inf Tryz.prog 162 (.agg #[]) 0 0 := .k
instance : Str Tryz.prog 162 [] := .k Tryz.underlying162
instance : Agg Tryz.prog 163 := .k Tryz.underlying163
instance : Inf Tryz.prog 163 (.agg #[]) 0 0 := .k
instance : Str Tryz.prog 163 [] := .k Tryz.underlying163
instance : Agg Tryz.prog 164 := .k Tryz.underlying164
instance : Inf Tryz.prog 164 (.agg #[]) 0 0 := .k
instance : Str Tryz.prog 164 [] := .k Tryz.underlying164
instance : Agg Tryz.prog 165 := .k Tryz.underlying165
instance : Inf Tryz.prog 165 (.agg #[(.int .i64 0)]) 1 8 := .k
instance : Str Tryz.prog 165 [(0,0),(0,0),(0,1)] := .k Tryz.underlying165
instance : Agg Tryz.prog 166 := .k Tryz.underlying166
instance : Inf Tryz.prog 166 (.agg #[(.int .i64 0)]) 1 8 := .k
instance : Str Tryz.prog 166 [(0,0),(0,0),(0,1)] := .k Tryz.underlying166
instance : Fld Tryz.prog 166 2 0 2 1 := .k Tryz.underlying166
instance : Agg Tryz.prog 167 := .k Tryz.underlying167
instance : Inf Tryz.prog 167 (.agg #[(.pointer none),(.int .i64 0)]) 2 16 := .k
instance : Str Tryz.prog 167 [(0,1),(1,1)] := .k Tryz.underlying167
instance : Agg Tryz.prog 168 := .k Tryz.underlying168
instance : Inf Tryz.prog 168 (.agg #[(.pointer none),(.int .i64 0)]) 2 16 := .k
instance : Str Tryz.prog 168 [(0,1),(1,1)] := .k Tryz.underlying168
instance : Und Tryz.prog 170 (.map 3 136) := ⟨Tryz.underlying170⟩
instance : Inf Tryz.prog 170 (.map none) 1 8 := .k
instance : Und Tryz.prog 171 (.map 3 4) := ⟨Tryz.underlying171⟩
instance : Inf Tryz.prog 171 (.map none) 1 8 := .k
instance : Agg Tryz.prog 172 := .k Tryz.underlying172
instance : Inf Tryz.prog 172 (.agg #[(.pointer none),(.int .i64 0),(.bool false),(.map none),(.map none)]) 5 40 := .k
instance : Str Tryz.prog 172 [(0,1),(1,1),(2,1),(3,1),(4,1)] := .k Tryz.underlying172
instance : Agg Tryz.prog 173 := .k Tryz.underlying173
instance : Inf Tryz.prog 173 (.agg #[(.pointer none),(.int .i64 0),(.bool false),(.map none),(.map none)]) 5 40 := .k
instance : Str Tryz.prog 173 [(0,1),(1,1),(2,1),(3,1),(4,1)] := .k Tryz.underlying173
instance : Und Tryz.prog 182 (.pointer 184) := ⟨Tryz.underlying182⟩
instance : Inf Tryz.prog 182 (.pointer none) 1 8 := .k
instance : Agg Tryz.prog 183 := .k Tryz.underlying183
instance : Inf Tryz.prog 183 (.agg #[(.slice none 0 0),(.bool false)]) 2 32 := .k
instance : Str Tryz.prog 183 [(0,1),(1,1)] := .k Tryz.underlying183
instance : Agg Tryz.prog 184 := .k Tryz.underlying184
instance : Inf Tryz.prog 184 (.agg #[(.slice none 0 0),(.bool false)]) 2 32 := .k
instance : Str Tryz.prog 184 [(0,1),(1,1)] := .k Tryz.underlying184
instance : Agg Tryz.prog 186 := .k Tryz.underlying186
instance : Inf Tryz.prog 186 (.agg #[(.int .i64 0),(.int .i64 0),(.int .i64 0),(.int .i64 0),(.int .i64 0),(.slice none 0 0)]) 6 64 := .k
instance : Str Tryz.prog 186 [(0,1),(1,5)] := .k Tryz.underlying186
instance : Agg Tryz.prog 187 := .k Tryz.underlying187
instance : Inf Tryz.prog 187 (.agg #[(.int .i64 0),(.int .i64 0),(.int .i64 0),(.int .i64 0),(.int .i64 0),(.slice none 0 0)]) 6 64 := .k
instance : Str Tryz.prog 187 [(0,1),(1,5)] := .k Tryz.underlying187
instance : Und Tryz.prog 194 (.slice 256) := ⟨Tryz.underlying194⟩
instance : Inf Tryz.prog 194 (.slice none 0 0) 1 24 := .k
instance : Und Tryz.prog 206 (.pointer 92) := ⟨Tryz.underlying206⟩
instance : Inf Tryz.prog 206 (.pointer none) 1 8 := .k
instance : Und Tryz.prog 207 (.array 24 5) := ⟨Tryz.underlying207⟩
instance : Inf Tryz.prog 207 (.agg (List.replicate 24 (.int .u8 0)).toArray) 24 24 := .k
instance : Und Tryz.prog 215 (.slice 332) := ⟨Tryz.underlying215⟩
instance : Inf Tryz.prog 215 (.slice none 0 0) 1 24 := .k
instance : Agg Tryz.prog 216 := .k Tryz.underlying216
instance : Inf Tryz.prog 216 (.agg #[(.bool false),(.bool false),(.int .i64 0)]) 3 16 := .k
instance : Str Tryz.prog 216 [(0,1),(1,1),(2,1)] := .k Tryz.underlying216
instance : Agg Tryz.prog 217 := .k Tryz.underlying217
instance : Inf Tryz.prog 217 (.agg #[(.bool false),(.bool false),(.int .i64 0)]) 3 16 := .k
instance : Str Tryz.prog 217 [(0,1),(1,1),(2,1)] := .k Tryz.underlying217
instance : Fld Tryz.prog 217 0 0 4 1 := .k Tryz.underlying217
instance : Fld Tryz.prog 217 1 1 4 1 := .k Tryz.underlying217
instance : Fld Tryz.prog 217 2 2 3 1 := .k Tryz.underlying217
instance : Und Tryz.prog 218 (.slice 334) := ⟨Tryz.underlying218⟩
instance : Inf Tryz.prog 218 (.slice none 0 0) 1 24 := .k
instance : Agg Tryz.prog 219 := .k Tryz.underlying219
instance : Inf Tryz.prog 219 (.agg #[(.bool false),(.bool false),(.int .i64 0),(.slice none 0 0),(.slice none 0 0),(.int .i64 0),(.int .i64 0)]) 7 80 := .k
instance : Str Tryz.prog 219 [(0,3),(3,1),(4,1),(5,1),(6,1)] := .k Tryz.underlying219
instance : Agg Tryz.prog 220 := .k Tryz.underlying220
instance : Inf Tryz.prog 220 (.agg #[(.bool false),(.bool false),(.int .i64 0),(.slice none 0 0),(.slice none 0 0),(.int .i64 0),(.int .i64 0)]) 7 80 := .k
instance : Str Tryz.prog 220 [(0,3),(3,1),(4,1),(5,1),(6,1)] := .k Tryz.underlying220
instance : Fld Tryz.prog 220 0 0 217 3 := .k Tryz.underlying220
instance : Fld Tryz.prog 220 1 3 215 1 := .k Tryz.underlying220
instance : Fld Tryz.prog 220 2 4 218 1 := .k Tryz.underlying220
instance : Fld Tryz.prog 220 3 5 166 1 := .k Tryz.underlying220
instance : Fld Tryz.prog 220 4 6 166 1 := .k Tryz.underlying220
instance : Agg Tryz.prog 221 := .k Tryz.underlying221
instance : Inf Tryz.prog 221 (.agg #[]) 0 0 := .k
instance : Str Tryz.prog 221 [] := .k Tryz.underlying221
instance : Agg Tryz.prog 222 := .k Tryz.underlying222
instance : Inf Tryz.prog 222 (.agg #[(.int .u32 0)]) 1 4 := .k
instance : Str Tryz.prog 222 [(0,0),(0,1)] := .k Tryz.underlying222
instance : Agg Tryz.prog 223 := .k Tryz.underlying223
instance : Inf Tryz.prog 223 (.agg #[(.int .u32 0)]) 1 4 := .k
instance : Str Tryz.prog 223 [(0,0),(0,1)] := .k Tryz.underlying223
instance : Fld Tryz.prog 223 1 0 90 1 := .k Tryz.underlying223
instance : Agg Tryz.prog 224 := .k Tryz.underlying224
instance : Inf Tryz.prog 224 (.agg #[(.int .i32 0),(.int .u32 0)]) 2 8 := .k
instance : Str Tryz.prog 224 [(0,1),(1,1)] := .k Tryz.underlying224
instance : Agg Tryz.prog 225 := .k Tryz.underlying225
instance : Inf Tryz.prog 225 (.agg #[(.int .i32 0),(.int .u32 0)]) 2 8 := .k
instance : Str Tryz.prog 225 [(0,1),(1,1)] := .k Tryz.underlying225
instance : Fld Tryz.prog 225 0 0 21 1 := .k Tryz.underlying225
instance : Agg Tryz.prog 226 := .k Tryz.underlying226
instance : Inf Tryz.prog 226 (.agg #[(.int .i32 0),(.int .u32 0)]) 2 8 := .k
instance : Str Tryz.prog 226 [(0,0),(0,2)] := .k Tryz.underlying226
instance : Agg Tryz.prog 227 := .k Tryz.underlying227
instance : Inf Tryz.prog 227 (.agg #[(.int .i32 0),(.int .u32 0)]) 2 8 := .k
instance : Str Tryz.prog 227 [(0,0),(0,2)] := .k Tryz.underlying227
instance : Fld Tryz.prog 227 1 0 225 2 := .k Tryz.underlying227
instance : Agg Tryz.prog 228 := .k Tryz.underlying228
instance : Inf Tryz.prog 228 (.agg #[(.int .u32 0),(.int .i32 0),(.int .u32 0)]) 3 12 := .k
instance : Str Tryz.prog 228 [(0,0),(0,1),(1,2)] := .k Tryz.underlying228
instance : Agg Tryz.prog 229 := .k Tryz.underlying229
instance : Inf Tryz.prog 229 (.agg #[(.int .u32 0),(.int .i32 0),(.int .u32 0)]) 3 12 := .k
instance : Str Tryz.prog 229 [(0,0),(0,1),(1,2)] := .k Tryz.underlying229
instance : Fld Tryz.prog 229 1 0 223 1 := .k Tryz.underlying229
instance : Fld Tryz.prog 229 2 1 227 2 := .k Tryz.underlying229
instance : Agg Tryz.prog 230 := .k Tryz.underlying230
instance : Inf Tryz.prog 230 (.agg #[(.pointer none),(.int .u32 0),(.int .i32 0),(.int .u32 0),(.int .i64 0),(.int .i64 0),(.bool false)]) 7 48 := .k
instance : Str Tryz.prog 230 [(0,1),(1,3),(4,1),(5,1),(6,1)] := .k Tryz.underlying230
instance : Agg Tryz.prog 231 := .k Tryz.underlying231
instance : Inf Tryz.prog 231 (.agg #[(.pointer none),(.int .u32 0),(.int .i32 0),(.int .u32 0),(.int .i64 0),(.int .i64 0),(.bool false)]) 7 48 := .k
instance : Str Tryz.prog 231 [(0,1),(1,3),(4,1),(5,1),(6,1)] := .k Tryz.underlying231
instance : Fld Tryz.prog 231 0 0 110 1 := .k Tryz.underlying231
instance : Fld Tryz.prog 231 1 1 229 3 := .k Tryz.underlying231
instance : Fld Tryz.prog 231 2 4 3 1 := .k Tryz.underlying231
instance : Fld Tryz.prog 231 3 5 3 1 := .k Tryz.underlying231
instance : Fld Tryz.prog 231 4 6 4 1 := .k Tryz.underlying231
instance : Agg Tryz.prog 236 := .k Tryz.underlying236
instance : Inf Tryz.prog 236 (.agg #[(.int .i64 0),(.slice none 0 0)]) 2 32 := .k
instance : Str Tryz.prog 236 [(0,1),(1,1)] := .k Tryz.underlying236
instance : Agg Tryz.prog 237 := .k Tryz.underlying237
instance : Inf Tryz.prog 237 (.agg #[(.int .i64 0),(.slice none 0 0)]) 2 32 := .k
instance : Str Tryz.prog 237 [(0,1),(1,1)] := .k Tryz.underlying237
instance : Fld Tryz.prog 237 0 0 3 1 := .k Tryz.underlying237
instance : Fld Tryz.prog 237 1 1 36 1 := .k Tryz.underlying237
instance : Und Tryz.prog 238 (.map 3 305) := ⟨Tryz.underlying238⟩
instance : Inf Tryz.prog 238 (.map none) 1 8 := .k
instance : Agg Tryz.prog 239 := .k Tryz.underlying239
instance : Inf Tryz.prog 239 (.agg #[(.pointer none),(.int .i64 0),(.map none)]) 3 24 := .k
instance : Str Tryz.prog 239 [(0,1),(1,1),(2,1)] := .k Tryz.underlying239
instance : Agg Tryz.prog 240 := .k Tryz.underlying240
instance : Inf Tryz.prog 240 (.agg #[(.pointer none),(.int .i64 0),(.map none)]) 3 24 := .k
instance : Str Tryz.prog 240 [(0,1),(1,1),(2,1)] := .k Tryz.underlying240
instance : Fld Tryz.prog 240 0 0 153 1 := .k Tryz.underlying240
instance : Fld Tryz.prog 240 1 1 3 1 := .k Tryz.underlying240
instance : Fld Tryz.prog 240 2 2 238 1 := .k Tryz.underlying240
instance : Agg Tryz.prog 243 := .k Tryz.underlying243
instance : Inf Tryz.prog 243 (.agg #[(.int .i64 0),(.int .i64 0),(.int .i64 0),(.int .i64 0),(.int .i64 0),(.slice none 0 0),(.bool false)]) 7 72 := .k
instance : Str Tryz.prog 243 [(0,1),(1,5),(6,1)] := .k Tryz.underlying243
instance : Agg Tryz.prog 244 := .k Tryz.underlying244
instance : Inf Tryz.prog 244 (.agg #[(.int .i64 0),(.int .i64 0),(.int .i64 0),(.int .i64 0),(.int .i64 0),(.slice none 0 0),(.bool false)]) 7 72 := .k
instance : Str Tryz.prog 244 [(0,1),(1,5),(6,1)] := .k Tryz.underlying244
instance : Fld Tryz.prog 244 0 0 3 1 := .k Tryz.underlying244
instance : Fld Tryz.prog 244 1 1 136 5 := .k Tryz.underlying244
instance : Fld Tryz.prog 244 2 6 4 1 := .k Tryz.underlying244
instance : Agg Tryz.prog 246 := .k Tryz.underlying246
instance : Inf Tryz.prog 246 (.agg #[(.int .i64 0),(.int .i64 0),(.int .i64 0),(.int .i64 0)]) 4 32 := .k
instance : Str Tryz.prog 246 [(0,1),(1,1),(2,1),(3,1)] := .k Tryz.underlying246
instance : Und Tryz.prog 247 (.slice 421) := ⟨Tryz.underlying247⟩
instance : Inf Tryz.prog 247 (.slice none 0 0) 1 24 := .k
instance : Agg Tryz.prog 248 := .k Tryz.underlying248
instance : Inf Tryz.prog 248 (.agg #[(.int .i64 0),(.int .i64 0),(.int .i64 0),(.int .i64 0),(.slice none 0 0),(.int .i64 0)]) 6 64 := .k
instance : Str Tryz.prog 248 [(0,4),(4,1),(5,1)] := .k Tryz.underlying248
instance : Agg Tryz.prog 249 := .k Tryz.underlying249
instance : Inf Tryz.prog 249 (.agg #[(.int .i64 0),(.int .i64 0),(.int .i64 0),(.int .i64 0),(.slice none 0 0),(.int .i64 0)]) 6 64 := .k
instance : Str Tryz.prog 249 [(0,4),(4,1),(5,1)] := .k Tryz.underlying249
instance : Und Tryz.prog 250 (.pointer 166) := ⟨Tryz.underlying250⟩
instance : Inf Tryz.prog 250 (.pointer none) 1 8 := .k
instance : Und Tryz.prog 252 (.pointer 2) := ⟨Tryz.underlying252⟩
instance : Inf Tryz.prog 252 (.pointer none) 1 8 := .k
instance : Agg Tryz.prog 255 := .k Tryz.underlying255
instance : Inf Tryz.prog 255 (.agg #[(.string ⟨#[]⟩),(.int .i64 0)]) 2 24 := .k
instance : Str Tryz.prog 255 [(0,1),(1,1)] := .k Tryz.underlying255
instance : Agg Tryz.prog 256 := .k Tryz.underlying256
instance : Inf Tryz.prog 256 (.agg #[(.string ⟨#[]⟩),(.int .i64 0)]) 2 24 := .k
instance : Str Tryz.prog 256 [(0,1),(1,1)] := .k Tryz.underlying256
instance : Und Tryz.prog 278 (.array 64 90) := ⟨Tryz.underlying278⟩
instance : Inf Tryz.prog 278 (.agg (List.replicate 64 (.int .u32 0)).toArray) 64 256 := .k
instance : Und Tryz.prog 280 (.pointer 90) := ⟨Tryz.underlying280⟩
instance : Inf Tryz.prog 280 (.pointer none) 1 8 := .k
instance : Und Tryz.prog 285 (.array 20 55) := ⟨Tryz.underlying285⟩
instance : Inf Tryz.prog 285 (.agg (List.replicate 20 (.int .u64 0)).toArray) 20 160 := .k
instance : Und Tryz.prog 289 (.pointer 229) := ⟨Tryz.underlying289⟩
instance : Inf Tryz.prog 289 (.pointer none) 1 8 := .k
instance : Und Tryz.prog 291 (.slice 237) := ⟨Tryz.underlying291⟩
instance : Inf Tryz.prog 291 (.slice none 0 0) 1 24 := .k
instance : Und Tryz.prog 294 (.pointer 296) := ⟨Tryz.underlying294⟩
instance : Inf Tryz.prog 294 (.pointer none) 1 8 := .k
instance : Agg Tryz.prog 295 := .k Tryz.underlying295
instance : Inf Tryz.prog 295 (.agg #[(.pointer none),(.int .i64 0)]) 2 16 := .k
instance : Str Tryz.prog 295 [(0,1),(1,1)] := .k Tryz.underlying295
instance : Agg Tryz.prog 296 := .k Tryz.underlying296
instance : Inf Tryz.prog 296 (.agg #[(.pointer none),(.int .i64 0)]) 2 16 := .k
instance : Str Tryz.prog 296 [(0,1),(1,1)] := .k Tryz.underlying296
instance : Fld Tryz.prog 296 0 0 110 1 := .k Tryz.underlying296
instance : Fld Tryz.prog 296 1 1 43 1 := .k Tryz.underlying296
instance : Und Tryz.prog 303 (.slice 3) := ⟨Tryz.underlying303⟩
instance : Inf Tryz.prog 303 (.slice none 0 0) 1 24 := .k
instance : Agg Tryz.prog 304 := .k Tryz.underlying304
instance : Inf Tryz.prog 304 (.agg #[(.int .i64 0),(.int .i64 0),(.int .i64 0),(.int .i64 0),(.slice none 0 0),(.slice none 0 0)]) 6 80 := .k
instance : Str Tryz.prog 304 [(0,5),(5,1)] := .k Tryz.underlying304
instance : Agg Tryz.prog 305 := .k Tryz.underlying305
instance : Inf Tryz.prog 305 (.agg #[(.int .i64 0),(.int .i64 0),(.int .i64 0),(.int .i64 0),(.slice none 0 0),(.slice none 0 0)]) 6 80 := .k
instance : Str Tryz.prog 305 [(0,5),(5,1)] := .k Tryz.underlying305
instance : Fld Tryz.prog 305 0 0 136 5 := .k Tryz.underlying305
instance : Fld Tryz.prog 305 1 5 303 1 := .k Tryz.underlying305
instance : Und Tryz.prog 307 (.slice 244) := ⟨Tryz.underlying307⟩
instance : Inf Tryz.prog 307 (.slice none 0 0) 1 24 := .k
instance : Und Tryz.prog 315 (.pointer 319) := ⟨Tryz.underlying315⟩
instance : Inf Tryz.prog 315 (.pointer none) 1 8 := .k
instance : Agg Tryz.prog 316 := .k Tryz.underlying316
instance : Inf Tryz.prog 316 (.agg #[(.slice none 0 0),(.int .i64 0)]) 2 32 := .k
instance : Str Tryz.prog 316 [(0,1),(1,1)] := .k Tryz.underlying316
instance : Agg Tryz.prog 317 := .k Tryz.underlying317
instance : Inf Tryz.prog 317 (.agg #[(.slice none 0 0),(.int .i64 0)]) 2 32 := .k
instance : Str Tryz.prog 317 [(0,1),(1,1)] := .k Tryz.underlying317
instance : Agg Tryz.prog 318 := .k Tryz.underlying318
instance : Inf Tryz.prog 318 (.agg #[(.slice none 0 0),(.int .i64 0),(.int .i64 0)]) 3 40 := .k
instance : Str Tryz.prog 318 [(0,2),(2,1)] := .k Tryz.underlying318
instance : Agg Tryz.prog 319 := .k Tryz.underlying319
instance : Inf Tryz.prog 319 (.agg #[(.slice none 0 0),(.int .i64 0),(.int .i64 0)]) 3 40 := .k
instance : Str Tryz.prog 319 [(0,2),(2,1)] := .k Tryz.underlying319
instance : Und Tryz.prog 326 (.pointer 223) := ⟨Tryz.underlying326⟩
instance : Inf Tryz.prog 326 (.pointer none) 1 8 := .k
instance : Und Tryz.prog 332 (.array 64 5) := ⟨Tryz.underlying332⟩
instance : Inf Tryz.prog 332 (.agg (List.replicate 64 (.int .u8 0)).toArray) 64 64 := .k
instance : Agg Tryz.prog 334 := .k Tryz.underlying334
instance : Inf Tryz.prog 334 (.agg ((.int .i64 0) :: (List.replicate 64 (.int .u8 0))).toArray) 65 72 := .k
instance : Str Tryz.prog 334 [(0,1),(1,64)] := .k Tryz.underlying334
instance : Fld Tryz.prog 334 0 0 3 1 := .k Tryz.underlying334
instance : Fld Tryz.prog 334 1 1 332 64 := .k Tryz.underlying334
instance : Und Tryz.prog 351 (.pointer 227) := ⟨Tryz.underlying351⟩
instance : Inf Tryz.prog 351 (.pointer none) 1 8 := .k
instance : Und Tryz.prog 360 (.pointer 317) := ⟨Tryz.underlying360⟩
instance : Inf Tryz.prog 360 (.pointer none) 1 8 := .k
instance : Und Tryz.prog 363 (.pointer 225) := ⟨Tryz.underlying363⟩
instance : Inf Tryz.prog 363 (.pointer none) 1 8 := .k
instance : Und Tryz.prog 365 (.pointer 21) := ⟨Tryz.underlying365⟩
instance : Inf Tryz.prog 365 (.pointer none) 1 8 := .k
instance : Und Tryz.prog 369 (.pointer 217) := ⟨Tryz.underlying369⟩
instance : Inf Tryz.prog 369 (.pointer none) 1 8 := .k
instance : Und Tryz.prog 377 (.int .i64) := ⟨Tryz.underlying377⟩
instance : Inf Tryz.prog 377 (.int .i64 0) 1 8 := .k
instance : Und Tryz.prog 383 (.int .i64) := ⟨Tryz.underlying383⟩
instance : Inf Tryz.prog 383 (.int .i64 0) 1 8 := .k
instance : Und Tryz.prog 386 (.pointer 399) := ⟨Tryz.underlying386⟩
instance : Inf Tryz.prog 386 (.pointer none) 1 8 := .k
instance : Und Tryz.prog 389 (.int .u64) := ⟨Tryz.underlying389⟩
instance : Inf Tryz.prog 389 (.int .u64 0) 1 8 := .k
instance : Und Tryz.prog 393 (.pointer 3) := ⟨Tryz.underlying393⟩
instance : Inf Tryz.prog 393 (.pointer none) 1 8 := .k
instance : Agg Tryz.prog 398 := .k Tryz.underlying398
instance : Inf Tryz.prog 398 (.agg #[(.string ⟨#[]⟩),(.string ⟨#[]⟩),.nilIface]) 3 48 := .k
instance : Str Tryz.prog 398 [(0,1),(1,1),(2,1)] := .k Tryz.underlying398
instance : Agg Tryz.prog 399 := .k Tryz.underlying399
instance : Inf Tryz.prog 399 (.agg #[(.string ⟨#[]⟩),(.string ⟨#[]⟩),.nilIface]) 3 48 := .k
instance : Str Tryz.prog 399 [(0,1),(1,1),(2,1)] := .k Tryz.underlying399
instance : Und Tryz.prog 401 (.pointer 389) := ⟨Tryz.underlying401⟩
instance : Inf Tryz.prog 401 (.pointer none) 1 8 := .k
instance : Und Tryz.prog 405 (.pointer 407) := ⟨Tryz.underlying405⟩
instance : Inf Tryz.prog 405 (.pointer none) 1 8 := .k
instance : Agg Tryz.prog 406 := .k Tryz.underlying406
instance : Inf Tryz.prog 406 (.agg #[(.string ⟨#[]⟩)]) 1 16 := .k
instance : Str Tryz.prog 406 [(0,1)] := .k Tryz.underlying406
instance : Agg Tryz.prog 407 := .k Tryz.underlying407
instance : Inf Tryz.prog 407 (.agg #[(.string ⟨#[]⟩)]) 1 16 := .k
instance : Str Tryz.prog 407 [(0,1)] := .k Tryz.underlying407
instance : Agg Tryz.prog 408 := .k Tryz.underlying408
instance : Inf Tryz.prog 408 (.agg #[(.pointer none),(.pointer none),(.pointer none),(.string ⟨#[]⟩)]) 4 40 := .k
instance : Str Tryz.prog 408 [(0,1),(1,1),(2,1),(3,1)] := .k Tryz.underlying408
instance : Agg Tryz.prog 409 := .k Tryz.underlying409
instance : Inf Tryz.prog 409 (.agg #[(.pointer none),(.pointer none),(.pointer none),(.string ⟨#[]⟩)]) 4 40 := .k
instance : Str Tryz.prog 409 [(0,1),(1,1),(2,1),(3,1)] := .k Tryz.underlying409
instance : Und Tryz.prog 410 (.array 0 16) := ⟨Tryz.underlying410⟩
instance : Inf Tryz.prog 410 (.agg #[]) 0 0 := .k
instance : Agg Tryz.prog 411 := .k Tryz.underlying411
instance : Inf Tryz.prog 411 (.agg #[]) 0 0 := .k
instance : Str Tryz.prog 411 [(0,0)] := .k Tryz.underlying411
instance : Agg Tryz.prog 412 := .k Tryz.underlying412
instance : Inf Tryz.prog 412 (.agg #[]) 0 0 := .k
instance : Str Tryz.prog 412 [(0,0)] := .k Tryz.underlying412
instance : Und Tryz.prog 413 (.int .u8) := ⟨Tryz.underlying413⟩
instance : Inf Tryz.prog 413 (.int .u8 0) 1 1 := .k
instance : Und Tryz.prog 414 (.int .u8) := ⟨Tryz.underlying414⟩
instance : Inf Tryz.prog 414 (.int .u8 0) 1 1 := .k
instance : Und Tryz.prog 416 (.int .i32) := ⟨Tryz.underlying416⟩
instance : Inf Tryz.prog 416 (.int .i32 0) 1 4 := .k
instance : Und Tryz.prog 417 (.int .i32) := ⟨Tryz.underlying417⟩
instance : Inf Tryz.prog 417 (.int .i32 0) 1 4 := .k
instance : Agg Tryz.prog 418 := .k Tryz.underlying418
instance : Inf Tryz.prog 418 (.agg #[(.int .u64 0),(.int .u64 0),(.int .u32 0),(.int .u8 0),(.int .u8 0),(.int .u8 0),(.int .u8 0),.nilFunc,(.pointer none),(.int .i32 0),(.int .i32 0)]) 11 48 := .k
instance : Str Tryz.prog 418 [(0,1),(1,1),(2,1),(3,1),(4,1),(5,1),(6,1),(7,1),(8,1),(9,1),(10,1)] := .k Tryz.underlying418
instance : Agg Tryz.prog 419 := .k Tryz.underlying419
instance : Inf Tryz.prog 419 (.agg #[(.int .u64 0),(.int .u64 0),(.int .u32 0),(.int .u8 0),(.int .u8 0),(.int .u8 0),(.int .u8 0),.nilFunc,(.pointer none),(.int .i32 0),(.int .i32 0)]) 11 48 := .k
instance : Str Tryz.prog 419 [(0,1),(1,1),(2,1),(3,1),(4,1),(5,1),(6,1),(7,1),(8,1),(9,1),(10,1)] := .k Tryz.underlying419
instance : Agg Tryz.prog 420 := .k Tryz.underlying420
instance : Inf Tryz.prog 420 (.agg #[(.slice none 0 0),(.int .i64 0),(.int .i64 0),(.int .i64 0),(.int .i64 0),(.slice none 0 0),(.int .i64 0)]) 7 88 := .k
instance : Str Tryz.prog 420 [(0,1),(1,4),(5,1),(6,1)] := .k Tryz.underlying420
instance : Agg Tryz.prog 421 := .k Tryz.underlying421
instance : Inf Tryz.prog 421 (.agg #[(.slice none 0 0),(.int .i64 0),(.int .i64 0),(.int .i64 0),(.int .i64 0),(.slice none 0 0),(.int .i64 0)]) 7 88 := .k
instance : Str Tryz.prog 421 [(0,1),(1,4),(5,1),(6,1)] := .k Tryz.underlying421
instance : Fun Tryz.prog 7 := .k Tryz.func7
instance : Fun Tryz.prog 10 := .k Tryz.func10
instance : Fun Tryz.prog 11 := .k Tryz.func11
instance : Fun Tryz.prog 12 := .k Tryz.func12
instance : Fun Tryz.prog 15 := .k Tryz.func15
instance : Fun Tryz.prog 16 := .k Tryz.func16
instance : Fun Tryz.prog 18 := .k Tryz.func18
instance : Fun Tryz.prog 19 := .k Tryz.func19
instance : Fun Tryz.prog 21 := .k Tryz.func21
instance : Fun Tryz.prog 27 := .k Tryz.func27
instance : Fun Tryz.prog 28 := .k Tryz.func28
instance : Fun Tryz.prog 29 := .k Tryz.func29
instance : Fun Tryz.prog 30 := .k Tryz.func30
instance : Fun Tryz.prog 31 := .k Tryz.func31
instance : Fun Tryz.prog 34 := .k Tryz.func34
instance : Fun Tryz.prog 35 := .k Tryz.func35
instance : Fun Tryz.prog 36 := .k Tryz.func36
instance : Fun Tryz.prog 37 := .k Tryz.func37
instance : Fun Tryz.prog 38 := .k Tryz.func38
instance : Fun Tryz.prog 39 := .k Tryz.func39
instance : Fun Tryz.prog 40 := .k Tryz.func40
instance : Fun Tryz.prog 41 := .k Tryz.func41
instance : Fun Tryz.prog 45 := .k Tryz.func45
instance : Fun Tryz.prog 46 := .k Tryz.func46
instance : Fun Tryz.prog 47 := .k Tryz.func47
instance : Fun Tryz.prog 48 := .k Tryz.func48
instance : Fun Tryz.prog 49 := .k Tryz.func49
instance : Fun Tryz.prog 54 := .k Tryz.func54
instance : Fun Tryz.prog 55 := .k Tryz.func55
instance : Fun Tryz.prog 56 := .k Tryz.func56
instance : Fun Tryz.prog 57 := .k Tryz.func57
instance : Fun Tryz.prog 58 := .k Tryz.func58
instance : Fun Tryz.prog 59 := .k Tryz.func59
instance : Fun Tryz.prog 60 := .k Tryz.func60
instance : Fun Tryz.prog 61 := .k Tryz.func61
instance : Fun Tryz.prog 62 := .k Tryz.func62
instance : Fun Tryz.prog 63 := .k Tryz.func63
instance : Fun Tryz.prog 65 := .k Tryz.func65
instance : Fun Tryz.prog 66 := .k Tryz.func66
instance : Fun Tryz.prog 68 := .k Tryz.func68
instance : Fun Tryz.prog 70 := .k Tryz.func70
instance : Fun Tryz.prog 71 := .k Tryz.func71
instance : Fun Tryz.prog 72 := .k Tryz.func72
instance : Fun Tryz.prog 73 := .k Tryz.func73
instance : Fun Tryz.prog 75 := .k Tryz.func75
instance : Fun Tryz.prog 76 := .k Tryz.func76
instance : Fun Tryz.prog 79 := .k Tryz.func79
instance : Fun Tryz.prog 80 := .k Tryz.func80
instance : Fun Tryz.prog 81 := .k Tryz.func81
instance : Fun Tryz.prog 82 := .k Tryz.func82
instance : Fun Tryz.prog 83 := .k Tryz.func83
instance : Fun Tryz.prog 84 := .k Tryz.func84
instance : Fun Tryz.prog 85 := .k Tryz.func85
instance : Fun Tryz.prog 86 := .k Tryz.func86
instance : Fun Tryz.prog 87 := .k Tryz.func87
instance : Fun Tryz.prog 88 := .k Tryz.func88
instance : Fun Tryz.prog 89 := .k Tryz.func89
instance : Fun Tryz.prog 90 := .k Tryz.func90
instance : Fun Tryz.prog 91 := .k Tryz.func91
instance : Fun Tryz.prog 92 := .k Tryz.func92
instance : Fun Tryz.prog 93 := .k Tryz.func93
instance : Fun Tryz.prog 94 := .k Tryz.func94
instance : Fun Tryz.prog 95 := .k Tryz.func95
instance : Fun Tryz.prog 96 := .k Tryz.func96
instance : Fun Tryz.prog 97 := .k Tryz.func97
instance : Fun Tryz.prog 98 := .k Tryz.func98
instance : Fun Tryz.prog 99 := .k Tryz.func99
instance : Fun Tryz.prog 100 := .k Tryz.func100
instance : Fun Tryz.prog 101 := .k Tryz.func101
instance : Fun Tryz.prog 102 := .k Tryz.func102
instance : Fun Tryz.prog 105 := .k Tryz.func105
instance : Fun Tryz.prog 106 := .k Tryz.func106
instance : Fun Tryz.prog 112 := .k Tryz.func112
instance : Fun Tryz.prog 113 := .k Tryz.func113
instance : Fun Tryz.prog 114 := .k Tryz.func114
instance : Fun Tryz.prog 115 := .k Tryz.func115
instance : Fun Tryz.prog 116 := .k Tryz.func116
instance : Fun Tryz.prog 117 := .k Tryz.func117
instance : Fun Tryz.prog 118 := .k Tryz.func118
instance : Fun Tryz.prog 119 := .k Tryz.func119
instance : Fun Tryz.prog 120 := .k Tryz.func120
instance : Fun Tryz.prog 121 := .k Tryz.func121
instance : Fun Tryz.prog 122 := .k Tryz.func122
instance : Fun Tryz.prog 123 := .k Tryz.func123
instance : Fun Tryz.prog 124 := .k Tryz.func124
instance : Fun Tryz.prog 125 := .k Tryz.func125
instance : ELoad Tryz.prog 126 .i64 := ⟨fun hc => run_call_load Tryz.func126 (by kernel_rfl) (by kernel_rfl) (by kernel_rfl) .i64 (by kernel_rfl) hc⟩
instance : Fun Tryz.prog 127 := .k Tryz.func127
instance : Fun Tryz.prog 128 := .k Tryz.func128
instance : Fun Tryz.prog 129 := .k Tryz.func129
instance : Fun Tryz.prog 130 := .k Tryz.func130
instance : Fun Tryz.prog 131 := .k Tryz.func131
instance : Fun Tryz.prog 132 := .k Tryz.func132
instance : Fun Tryz.prog 133 := .k Tryz.func133
instance : Fun Tryz.prog 134 := .k Tryz.func134
instance : Fun Tryz.prog 135 := .k Tryz.func135
instance : Fun Tryz.prog 136 := .k Tryz.func136
instance : Fun Tryz.prog 137 := .k Tryz.func137
instance : Fun Tryz.prog 138 := .k Tryz.func138
instance : Fun Tryz.prog 139 := .k Tryz.func139
instance : Fun Tryz.prog 140 := .k Tryz.func140
instance : Fun Tryz.prog 141 := .k Tryz.func141
instance : Fun Tryz.prog 142 := .k Tryz.func142
instance : Fun Tryz.prog 143 := .k Tryz.func143
instance : Fun Tryz.prog 144 := .k Tryz.func144
instance : Fun Tryz.prog 145 := .k Tryz.func145
instance : Fun Tryz.prog 146 := .k Tryz.func146
instance : Fun Tryz.prog 150 := .k Tryz.func150
instance : Fun Tryz.prog 151 := .k Tryz.func151
instance : Fun Tryz.prog 152 := .k Tryz.func152
instance : Fun Tryz.prog 158 := .k Tryz.func158
instance : Fun Tryz.prog 159 := .k Tryz.func159
instance : Fun Tryz.prog 160 := .k Tryz.func160
instance : Fun Tryz.prog 161 := .k Tryz.func161
instance : Fun Tryz.prog 162 := .k Tryz.func162
instance : Fun Tryz.prog 163 := .k Tryz.func163
instance : Fun Tryz.prog 164 := .k Tryz.func164
instance : Fun Tryz.prog 165 := .k Tryz.func165
instance : Fun Tryz.prog 166 := .k Tryz.func166
instance : Fun Tryz.prog 167 := .k Tryz.func167
instance : Fun Tryz.prog 168 := .k Tryz.func168
instance : Fun Tryz.prog 169 := .k Tryz.func169
instance : Fun Tryz.prog 170 := .k Tryz.func170
instance : Fun Tryz.prog 171 := .k Tryz.func171
instance : Fun Tryz.prog 172 := .k Tryz.func172
instance : Fun Tryz.prog 173 := .k Tryz.func173
instance : Fun Tryz.prog 174 := .k Tryz.func174
instance : Fun Tryz.prog 175 := .k Tryz.func175
instance : Fun Tryz.prog 176 := .k Tryz.func176
instance : Fun Tryz.prog 177 := .k Tryz.func177
instance : Fun Tryz.prog 178 := .k Tryz.func178
instance : Fun Tryz.prog 179 := .k Tryz.func179
instance : Fun Tryz.prog 180 := .k Tryz.func180
instance : Fun Tryz.prog 181 := .k Tryz.func181
instance : Fun Tryz.prog 182 := .k Tryz.func182
instance : Fun Tryz.prog 183 := .k Tryz.func183
instance : Fun Tryz.prog 184 := .k Tryz.func184
instance : Fun Tryz.prog 185 := .k Tryz.func185
instance : Fun Tryz.prog 186 := .k Tryz.func186
instance : Fun Tryz.prog 187 := .k Tryz.func187
instance : Fun Tryz.prog 188 := .k Tryz.func188
instance : Fun Tryz.prog 189 := .k Tryz.func189
instance : ELoad Tryz.prog 196 .u32 := ⟨fun hc => run_call_load Tryz.func196 (by kernel_rfl) (by kernel_rfl) (by kernel_rfl) .u32 (by kernel_rfl) hc⟩
instance : Fun Tryz.prog 197 := .k Tryz.func197
instance : Fun Tryz.prog 198 := .k Tryz.func198
instance : Fun Tryz.prog 199 := .k Tryz.func199
instance : Fun Tryz.prog 200 := .k Tryz.func200
instance : Fun Tryz.prog 201 := .k Tryz.func201
instance : Fun Tryz.prog 202 := .k Tryz.func202
instance : Fun Tryz.prog 203 := .k Tryz.func203
instance : Fun Tryz.prog 204 := .k Tryz.func204
instance : Fun Tryz.prog 205 := .k Tryz.func205
instance : Fun Tryz.prog 206 := .k Tryz.func206
instance : Fun Tryz.prog 207 := .k Tryz.func207
instance : Fun Tryz.prog 208 := .k Tryz.func208
instance : Fun Tryz.prog 209 := .k Tryz.func209
instance : Fun Tryz.prog 210 := .k Tryz.func210
instance : Fun Tryz.prog 211 := .k Tryz.func211
instance : Fun Tryz.prog 212 := .k Tryz.func212
instance : Fun Tryz.prog 214 := .k Tryz.func214
instance : Fun Tryz.prog 215 := .k Tryz.func215
instance : Fun Tryz.prog 216 := .k Tryz.func216
instance : Fun Tryz.prog 217 := .k Tryz.func217
instance : Fun Tryz.prog 218 := .k Tryz.func218
instance : Fun Tryz.prog 220 := .k Tryz.func220
instance : Fun Tryz.prog 221 := .k Tryz.func221
instance : Fun Tryz.prog 222 := .k Tryz.func222
instance : Fun Tryz.prog 223 := .k Tryz.func223
instance : Fun Tryz.prog 226 := .k Tryz.func226
instance : Fun Tryz.prog 227 := .k Tryz.func227
instance : EStore Tryz.prog 228 := ⟨fun hc hz => run_call_store Tryz.func228 (by kernel_rfl) (by kernel_rfl) (by kernel_rfl) (by kernel_rfl) hc hz⟩
instance : Fun Tryz.prog 229 := .k Tryz.func229
instance : Fun Tryz.prog 230 := .k Tryz.func230
instance : Fun Tryz.prog 231 := .k Tryz.func231
instance : Fun Tryz.prog 232 := .k Tryz.func232
instance : Fun Tryz.prog 233 := .k Tryz.func233
instance : Fun Tryz.prog 234 := .k Tryz.func234
instance : Fun Tryz.prog 235 := .k Tryz.func235
instance : Fun Tryz.prog 236 := .k Tryz.func236
instance : Fun Tryz.prog 237 := .k Tryz.func237
instance : Fun Tryz.prog 238 := .k Tryz.func238
instance : Fun Tryz.prog 239 := .k Tryz.func239
instance : Fun Tryz.prog 240 := .k Tryz.func240
instance : Fun Tryz.prog 241 := .k Tryz.func241
instance : EMark0 Tryz.prog 243 := ⟨fun w => run_call_mark0 Tryz.func243 (by kernel_rfl) (by kernel_rfl) (by kernel_rfl) .disable (by kernel_rfl) w⟩
instance : ECas Tryz.prog 244 .i32 := ⟨fun hc hz => run_call_cas_hit Tryz.func244 (by kernel_rfl) (by kernel_rfl) (by kernel_rfl) .i32 (by kernel_rfl) hc hz⟩
instance : EMark0 Tryz.prog 245 := ⟨fun w => run_call_mark0 Tryz.func245 (by kernel_rfl) (by kernel_rfl) (by kernel_rfl) .enable (by kernel_rfl) w⟩
instance : EMark Tryz.prog 246 := ⟨fun a w => run_call_marked Tryz.func246 (by kernel_rfl) (by kernel_rfl) (by kernel_rfl) .acquire (by kernel_rfl) a w⟩
instance : EMark Tryz.prog 248 := ⟨fun a w => run_call_marked Tryz.func248 (by kernel_rfl) (by kernel_rfl) (by kernel_rfl) .releaseMerge (by kernel_rfl) a w⟩
instance : EAdd Tryz.prog 249 .i32 := ⟨fun hc hz hs => run_call_add Tryz.func249 (by kernel_rfl) (by kernel_rfl) (by kernel_rfl) .i32 (by kernel_rfl) hc hz hs⟩
instance : EAdd Tryz.prog 251 .i64 := ⟨fun hc hz hs => run_call_add Tryz.func251 (by kernel_rfl) (by kernel_rfl) (by kernel_rfl) .i64 (by kernel_rfl) hc hz hs⟩
instance : Fun Tryz.prog 252 := .k Tryz.func252
instance : Fun Tryz.prog 255 := .k Tryz.func255
theorem mixed : Tryz.prog.follows .mixedOrders = true := by kernel_rfl
end Cr
namespace Cr
open Go

theorem Zcf {w : World} {b : Nat} {o o' : Obj} (h : w.heap[b]? = some o) : SetBlock w { w with heap := w.heap.setIfInBounds b o' } b o' := by
 have hlt := Zdg h
 refine ⟨by simp,?_,fun k hk => ?_,rfl,rfl,rfl⟩
 ·simp [hlt]
 ·simp [Ne.symm hk]

section
variable {P : Program} {Q : Exit → Act → World → Prop} {N : Nat} {ds : Md} {σ : Env} {w : World}
theorem Zdz {o : Oper} {fn : Fn} {xs ys : List Operand} {first captured : List Value} (ho : o.op = .makeFunc fn xs.toArray ys.toArray) (hx : evs σ xs = some first) (hy : evs σ ys = some captured) : Yl P o σ w (.func fn first.toArray captured.toArray) := ⟨fun N ds a ha => by
 simp [execOp,ho,Instr.makeFunc,ha.evals hx,ha.evals hy]⟩
theorem Zba {t : TypeId} {ad : Addr} {v : Value} [h : One P t] (hc : w.cell? ad = some v) : (loadVar t ad).run P w = .ok v w := by
 simp [loadVar,h.one,load,Sem.run,hc]
theorem Za9 {t : TypeId} {a : Addr} {cs : List Value} {n : Nat} [h : Agg P t] [hs : Siz P t n] (hc : Zdj w a n cs) : (loadVar t a).run P w = .ok (.agg cs.toArray) w := by
 obtain ⟨hc,rfl⟩ := hc
 exact Zhy hc
theorem Zox {Q : Exit → Act → World → Prop} {y : Code} {ds' : Md} (hF : Fc ds' = Fc ds) (h : C P y Q N ds σ w) : E (Exit.then (y.wpIn (Fc ds') 0 P Q) Q) .normal N ds σ w := ⟨fun a ha => by rw [hF]; exact h.run a ha⟩
def recd (fn : FuncId) (tm : Array Value) (ps : Array Tmp) (assign body : Code) (r : Nat) (st : LoopState) (jump : Option Code) : Loop :=
 { state := st,pending := jump,fn,tmps := tm,params := ps,assign,body,defers := r }
def mark (r : Nat) : Deferred := { target := .collected r,args := #[] }
theorem G_yield {ops : Array Oper} {rest : List Oper} {o : Oper} {f : Operand} {xs : List Operand} {vs : List Value} {ts : Array TypeId} {l d : Nat} {r : Loop} {R : Value → World → Prop} (hgd : o.guard = none) (ho : o.op = .call { callee := .value f,args := xs.toArray,argTypes := ts }) (hf : ev σ f = some (.func (.yield l) #[] #[])) (hv : evs σ xs = some vs)
  (hd : o.dst = some d) (hN : Nat.blt d N = true) (hl : w.heap[l]? = some (.loop r)) (hsz : vs.length = r.params.size)
  (hr : RoundIn Fence.wide 0 P l r.fn ((r.params.zip vs.toArray).foldl (fun tmps (t,a) => tmps.setIfInBounds t a) r.tmps) r.assign r.body w (Ret R)) (h : ∀ v w',R v w' → G P ops Q rest N ds ((d,v) :: σ) w') : G P ops Q (o :: rest) N ds σ w := ⟨fun a ha =>
 wpListIn_plain hgd fun K hK => by
  have hsem : o.semAt (Fc ds).round a.eval = execOp a.eval o := Oper.semAt_eq _ _ _ fun c hc => by rw [ho] at hc; cases hc
  refine ⟨fun _ _ => trivial,?_⟩
  rw [hsem]
  have hexec : (execOp a.eval o).run P w = .ok (.round l r.fn ((r.params.zip vs.toArray).foldl (fun tmps (t,a) => tmps.setIfInBounds t a) r.tmps) r.assign r.body) w := by
   simp [execOp,ho,resolve,ha.eval hf,Deferred.ofValue,invoke,ha.evals hv,Instr.yield,Instr.getLoop,getObj,Sem.run,hl,hsz]
  rw [hexec]
  refine ⟨Zow ds,?_⟩
  obtain ⟨hF,hr⟩ := hr
  refine ⟨trivial,fun c cs hroom => ?_⟩
  obtain ⟨e,w',hR,hs⟩ := hr c cs (fun _ h => by simp [Fence.wide] at h)
  obtain ⟨v,rfl,hR⟩ := hR
  refine ⟨.returned v,w',?_,hs⟩
  have := (h v w' hR).run _ (ha.put (Zbp hN) v)
  rw [← hd] at this
  exact hK _ _ this⟩
theorem Fr.round {tm : Array Value} (hsz : tm.size = N) (h : ∀ n v,look σ n = some v → tm[n]? = some v) (l : Nat) : Fr σ N ⟨[],some l⟩ { tmps := tm,defers := [] } := ⟨hsz,rfl,h⟩
def QA (P : Program) (l : Nat) (body : Code) (R : Ending → World → Prop) : Exit → Act → World → Prop :=
 Exit.then (fun a1 w1 => ∃ w2,(Instr.beginRound l).run P w1 = .ok () w2 ∧ body.wpIn (Fc ⟨[],some l⟩) 0 P (roundPost P l R) a1 w2) (fun _ _ _ => False)
theorem round_C {l : Nat} {f : FuncId} {tm : Array Value} {assign body : Code} {R : Ending → World → Prop} (hF : Fr σ N ⟨[],some l⟩ { tmps := tm,defers := [] }) (h : C P assign (QA P l body R) N ⟨[],some l⟩ σ w) :
  RoundIn Fence.wide 0 P l f tm assign body w R := roundIn_of_wpIn (F := Fence.wide) trivial (h.run _ hF)
theorem C_eq {A A' : Code} {Q : Exit → Act → World → Prop} (e : A = A') (h : C P A' Q N ds σ w) : C P A Q N ds σ w := e ▸ h
theorem Zrz {l : Nat} {fn : FuncId} {tm : Array Value} {ps : Array Tmp} {A B : Code} {rr : Nat} {j : Option Code} {body : Code} {R : Ending → World → Prop} (hl : w.heap[l]? = some (.loop (recd fn tm ps A B rr .ready j))) (h : ∀ w2,SetBlock w w2 l (.loop (recd fn tm ps A B rr .busy j)) → C P body (roundPost P l R) N ⟨[],some l⟩ σ w2) :
  E (QA P l body R) .normal N ⟨[],some l⟩ σ w := ⟨fun a ha => ⟨{ w with heap := w.heap.setIfInBounds l (.loop (recd fn tm ps A B rr .busy j)) },by
 simp [Instr.beginRound,Instr.getLoop,getObj,setObj,Sem.run,hl,recd],(h _ (Zcf hl)).run a ha⟩⟩
theorem Zjp {l : Nat} {fn : FuncId} {tm : Array Value} {ps : Array Tmp} {A B : Code} {rr : Nat} {st : LoopState} {j0 : Option Code} {j : Option Code} (hl : w.heap[l]? = some (.loop (recd fn tm ps A B rr st j0))) :
  (Instr.endRound l j).run P w = .ok (.bool j.isNone) { w with heap := w.heap.setIfInBounds l (.loop (recd fn tm ps A B rr (if j.isNone then .ready else .done) j)) } := by
 simp [Instr.endRound,Instr.getLoop,getObj,setObj,Sem.run,hl,recd]
theorem Zqp {l : Nat} {fn : FuncId} {tm : Array Value} {ps : Array Tmp} {A B : Code} {rr : Nat} {st : LoopState} {j0 : Option Code} {R : Ending → World → Prop} {m : Md} (hl : w.heap[l]? = some (.loop (recd fn tm ps A B rr st j0))) (h : ∀ w',SetBlock w w' l (.loop (recd fn tm ps A B rr .ready none)) → R (.returned (.bool true)) w') : E (roundPost P l R) .normal N m σ w :=
 ⟨fun _ _ => ⟨_,_,Zjp (j := none) hl,h _ (Zcf hl)⟩⟩
theorem Zry {l : Nat} {fn : FuncId} {tm : Array Value} {ps : Array Tmp} {A B : Code} {rr : Nat} {st : LoopState} {j0 : Option Code} {R : Ending → World → Prop} {m : Md} (hl : w.heap[l]? = some (.loop (recd fn tm ps A B rr st j0))) (h : ∀ w',SetBlock w w' l (.loop (recd fn tm ps A B rr .done (some .ret))) → R (.returned (.bool false)) w') : E (roundPost P l R) .ret N m σ w :=
 ⟨fun _ _ => ⟨_,_,Zjp (j := some .ret) hl,h _ (Zcf hl)⟩⟩
theorem Zmk {W : World} {F : Nat → Prop} {rs : List Res} {g : Operand} {ps : Array Tmp} {assign body : Code} {gid : FuncId} {first captured : List Value} (J : Nat → Nat → Option Code → World → Prop)
  (hro : ds.ro = none) (hg : ev σ g = some (.func (.func gid) first.toArray captured.toArray)) [hfun : Fun P gid] (hS : St W F rs w)
  (hcall : ∀ A B,A = assign → B = body → ∀ fn tm l r w1,tm.size = N → (∀ n v,look σ n = some v → tm[n]? = some v) → St W F (pts l (.loop (recd fn tm ps A B r .ready none)) :: pts r (.deferred (some [])) :: rs) w1 →
   CallsIn Fence.wide 0 P gid (first ++ (.func (.yield l) #[] #[] :: captured)).toArray w1 (Ret fun _ w3 => ∃ st jump,st ≠ .busy ∧ w3.heap[l]? = some (.loop (recd fn tm ps A B r st jump)) ∧
    ∀ w4,SetBlock w3 w4 l (.loop (recd fn tm ps A B r .exhausted jump)) → J l r jump w4))
  (hnone : ∀ l r w4,J l r none w4 → E Q .normal N ⟨mark r :: ds.ds,none⟩ σ w4)
  (hsome : ∀ l r c w4,J l r (some c) w4 → C P c Q N ⟨mark r :: ds.ds,none⟩ σ w4) : C P (.rangeFunc g ps assign body) Q N ds σ w := ⟨fun a ha => by
 rw [Zrx hro]
 refine wpIn_rangeFunc fun fn _ => ?_
 have s1 := hS.alloc (.deferred (some []))
 have s2 := s1.alloc (.loop (recd fn a.tmps ps assign body w.heap.size .ready none))
 simp only [World.size_alloc] at s2
 obtain ⟨w1,hw1⟩ : ∃ w1,w1 = (w.alloc (.deferred (some []))).alloc (.loop (recd fn a.tmps ps assign body w.heap.size .ready none)) := ⟨_,rfl⟩
 rw [← hw1] at s2
 refine ⟨w.heap.size + 1,[mark w.heap.size],w1,{ target := .fn (.func gid) captured.toArray,args := first.toArray ++ #[.func (.yield (w.heap.size + 1)) #[] #[]] },w1,gid,
  (first ++ (.func (.yield (w.heap.size + 1)) #[] #[] :: captured)).toArray,w1,?_,?_,fun _ _ => trivial,?_,fun h => by simp [Fence.wide] at h,?_⟩
 ·rw [hw1]
  simp [Instr.enterLoop,Fence.wide,recd,mark,newObj,Sem.run]
 ·simp only [resolve,ha.eval hg,List.map_toArray,List.map_cons,List.map_nil]
  rfl
 ·have := hfun.run (first ++ (.func (.yield (w.heap.size + 1)) #[] #[] :: captured)).toArray w1
  simp only [invoke]
  simpa using this
 ·obtain ⟨_,hc⟩ := hcall _ _ rfl rfl fn a.tmps (w.heap.size + 1) w.heap.size _ ha.size ha.at_ s2
  refine ⟨trivial,fun cs hr => ?_⟩
  obtain ⟨e,w3,fr,⟨v,he,st,jump,hst,hl,hJ⟩,hs,hfn,hlv⟩ := hc cs hr
  subst he
  refine ⟨.returned v,w3,fr,⟨jump,{ w3 with heap := w3.heap.setIfInBounds (w.heap.size + 1) (.loop (recd fn a.tmps ps assign body w.heap.size .exhausted jump)) },?_,?_⟩,hs,hfn,hlv⟩
  ·simp [Instr.endLoop,Instr.getLoop,getObj,setObj,Sem.run,hl,recd,hst]
  ·have hJ' := hJ _ (Zcf hl)
   have ha' : Fr σ N ⟨mark w.heap.size :: ds.ds,none⟩ { a with defers := [mark w.heap.size] ++ a.defers } := ⟨ha.size,by simp [ha.defers],ha.at_⟩
   cases jump with
   | none => exact (hnone _ _ _ hJ').run _ ha'
   | some c => exact (hsome _ _ c _ hJ').run _ ha'⟩
theorem E_mark {fn : Func} {R : Ending → World → Prop} {r : Nat} {dl : List Deferred} {e : Exit} (he : e = .ret ∨ e = .normal) (hr : w.heap[r]? = some (.deferred (some []))) (h : ∀ w',SetBlock w w' r (.deferred none) → E (BP P fn R) e N ⟨dl,none⟩ σ w') : E (BP P fn R) e N ⟨mark r :: dl,none⟩ σ w := ⟨fun a ha => by
 have h1 := h _ (Zcf hr)
 have h2 := h1.run { a with defers := dl } ⟨ha.size,rfl,ha.at_⟩
 have hd : a.defers = mark r :: dl := ha.defers
 have hk : (Instr.takeDeferred r).run P w = .ok [] { w with heap := w.heap.setIfInBounds r (.deferred none) } := by
  simp [Instr.takeDeferred,getObj,setObj,Sem.run,hr]
 rcases he with rfl | rfl
 ·show LeavesInM _ _ _ _ a.tmps R a.defers .returning w
  rw [hd]
  exact ⟨by simp,.inl ⟨r,_,rfl,hk,h2⟩⟩
 ·show LeavesInM _ _ _ _ a.tmps R a.defers .returning w
  rw [hd]
  exact ⟨by simp,.inl ⟨r,_,rfl,hk,h2⟩⟩⟩
end
end Cr
