/-
  A conversion of bytes to the same type (the model marks the block): the row can be read on. Over any program.
  Bytes made; lists of byte slices as a resource. Over any program.
  Arrays of bytes compared. Over any program.
  Two more rules of the walk: a join behind a test (the rest is walked once),and an assertion in the middle.
  Layer 11 (chain): Start.
  bytes.Join (without a separator) and bytes.Equal.
  Layer 4 (wal): big,small,full,front,note.
  Layer 11 (chain): Mark.
  Layer 1 (block): Read.
  Layer 4 (wal): full,front,note.
  Numbers as bytes,there and back. No program is in sight.
  A segment of a row that can be read. Over any program.
  Layer 4 (wal): number,sum.
  Layer 4 (wal): sum.
-/
import Derived.Test.YteonaddammjopaaGreatDoorCgl4
import Derived.Test.YteonaddammjopaaGreatDoorCgl3
import Derived.Laws.StructEq
import Derived.Test.YteonaddammjopaaGreatDoorCgl2
import Derived.KernelRfl
import Derived.Lib.MakeNoZero
import Derived.Laws.Externs
namespace Cr
open Go
section
variable {P : Program} {o : Oper} {σ : Env} {w : World} {N : Nat} {ds : Md} {K : Env → World → Prop}
variable {x : Operand} {t e : TypeId}
theorem Zjj {b n c c' d : Nat} {T : TypeId} {cs : List Value} {W : World} {F : Nat → Prop} {rs rest : List Res} (ho : o.op = .convert t t x) (hx : ev σ x = some (.slice (some ⟨b,0,none⟩) n c)) [hu : Und P t (.slice e)] [he : Und P e (.int .u8)]
  (hd : o.dst = some d) (hN : Nat.blt d N = true) (hS : St W F rs w) [hh : HasOwn rs (some ⟨b,0,none⟩) T 1 c' cs rest] (hpos : 0 < cs.length)
  (hk : ∀ w',St W F (row (some ⟨b,0,none⟩) cs :: rest) w' → K ((d,.slice (some ⟨b,0,none⟩) n c) :: σ) w') : X P o N ds σ w K := ⟨fun f ha K' Q' hK => by
 obtain ⟨g,⟨g1,g2,hown,hrest,hdj,hun⟩,s⟩ := hS.perm hh.has
 obtain ⟨hle,hcm,⟨rfl,_⟩ | ⟨b',cells,hbe,rfl,hcz,ht⟩⟩ := hown
 ·rw [Nat.zero_mul] at hle; omega
 ·obtain rfl : b = b' := by simpa using hbe
  have hb : w.heap[b]? = some (.cells cells T (0,0)) := s.agrees b _ (by rw [hun,Zbz]; rfl)
  have hS2 : St W F (pts b (.cells cells T (0,0)) :: rest) w := ⟨g,⟨_,g2,rfl,hrest,hdj,hun⟩,s⟩
  have hlt := Zdg hb
  have hgb : w.heap[b] = .cells cells T (0,0) := (Array.getElem?_eq_some_iff.1 hb).2
  have u : SetBlock w (w.freeze ⟨b,cells.size,none⟩ 1) b (.cells cells T (cells.size,cells.size + 1)) := by
   unfold World.freeze
   rw [if_neg (by omega)]
   refine ⟨by simp,?_,fun k hk => ?_,rfl,rfl,rfl⟩
   ·rw [Array.getElem?_modify,if_pos rfl,hb]; rfl
   ·rw [Array.getElem?_modify,if_neg (Ne.symm hk)]
  have hexec : (execOp f.eval o).run P w = .ok (.value (.slice (some ⟨b,0,none⟩) n c)) (w.freeze ⟨b,cells.size,none⟩ 1) := by
   have hsh : (shape b).run P w = .ok (some (T,cells.size)) w := by simp [shape,Sem.run,World.shape?,hb]
   have hms : (markStringish ⟨b,0,none⟩).run P w = .ok () (w.freeze ⟨b,cells.size,none⟩ 1) := by
    unfold markStringish
    rw [Sem.run_bind,hsh]
    rfl
   simp [execOp,ho,ha.eval hx,convert,run_underlying hu.und,run_underlying he.und,hms,Result.andThen]
  unfold Oper.wp
  rw [hexec]
  have := hK _ _ _ (ha.put (Zbp hN) (.slice (some ⟨b,0,none⟩) n c)) (hk _ ((hS2.set u).head fun h hh => .inr ⟨b,0,cells,T,_,rfl,hh,fun i v hv => by
   rw [← ht,List.getElem?_take] at hv
   split at hv
   ·simpa using hv
   ·cases hv⟩))
  rw [← hd] at this
  exact this⟩
end
end Cr
namespace Cr
open Go
set_option maxRecDepth 10000
section
variable {P : Program} {o : Oper} {σ : Env} {w : World} {x y : Operand} {t ty e : TypeId} {N : Nat} {ds : Md} {K : Env → World → Prop}
theorem Zmj {T bytes d c : Nat} {k k' : IntKind} {W : World} {F : Nat → Prop} {rs : List Res} (ho : o.op = .makeSlice t x y) (hx : ev σ x = some (.int k (c : Nat))) (hy : ev σ y = some (.int k' (c : Nat)))
  [h : Und P t (.slice T)] [hi : Inf P T (.int .u8 0) 1 bytes] (hb : bytes * c ≤ 281474976710656) (hm : c ≤ 9223372036854775807) (hd : o.dst = some d) (hN : Nat.blt d N = true) (hS : St W F rs w)
  (hk : ∀ b w',St W F (pts b (.cells (bv (List.replicate c 0)).toArray T) :: rs) w' → K ((d,.slice (some ⟨b,0,none⟩) c c) :: σ) w') : X P o N ds σ w K :=
 X_make ho hx hy (by omega) (Int.le_refl _) (by rw [← Int.natCast_mul]; omega) (by omega) hd hN hS fun b w' hS' _ => hk b w' (by
  have e1 : (Value.int .u8 0).cells = #[Value.int .u8 0] := rfl
  rw [e1,Zob,Int.toNat_natCast,Nat.mul_one,Zg5] at hS'
  exact hS')
theorem Zqk {N : Nat} {ds : Md} {K : Env → World → Prop} {b off j : Nat} {c : UInt8} {L : List UInt8} {T : TypeId} {W : World} {F : Nat → Prop} {rs rs' : List Res} (ho : o.op = .store t x y) (hx : ev σ x = some (.pointer (some (adr (some ⟨b,off,none⟩) j)))) (hy : ev σ y = some (.int .u8 (c.toNat : Int))) [hs : Siz P t 1]
  (hd : o.dst = none) (hS : St W F rs w) [hh : Has rs b (.cells (bv L).toArray T (0,0))] (hfit : off + j < L.length) [hu : Upd rs b (.cells (bv (L.set (off + j) c)).toArray T (0,0)) rs']
  (h : ∀ w',St W F rs' w' → K σ w') : X P o N ds σ w K := Zou (off := off + j) ho hx hy hd hS hfit h
end
def rds (l : List Bs) : Res := Sep (l.map fun x => bytes x.a x.s)
theorem St.rdsNil {W : World} {F : Nat → Prop} {rs : List Res} {w : World} (hS : St W F rs w) : St W F (rds [] :: rs) w := by
 obtain ⟨h,hs,s⟩ := hS
 exact ⟨h,⟨fun _ => none,h,fun _ => rfl,hs,fun _ => .inl rfl,fun _ => by simp⟩,s⟩
theorem St.rdsCons {W : World} {F : Nat → Prop} {rs : List Res} {w : World} {x : Bs} {l : List Bs} (hS : St W F (bytes x.a x.s :: rds l :: rs) w) : St W F (rds (l ++ [x]) :: rs) w := by
 obtain ⟨h,hs,s⟩ := hS
 refine ⟨h,?_,s⟩
 obtain ⟨h1,h2,a,⟨h3,h4,b,c,d',u'⟩,d,u⟩ := hs
 refine ⟨fun k => (h1 k).or (h3 k),h4,?_,c,fun k => ?_,fun k => ?_⟩
 ·have : Sep (bytes x.a x.s :: (l.map fun x => bytes x.a x.s)) (fun k => (h1 k).or (h3 k)) := ⟨h1,h3,a,b,fun k => by
   rcases d k with e | e
   ·exact .inl e
   ·rw [u'] at e; simp at e; exact .inr e.1,fun _ => rfl⟩
  have p : (bytes x.a x.s :: (l.map fun x => bytes x.a x.s)).Perm ((l ++ [x]).map fun x => bytes x.a x.s) := by
   rw [List.map_append]; exact (List.perm_append_comm (l₁ := [bytes x.a x.s]) (l₂ := l.map fun x => bytes x.a x.s))
  exact Sep.perm p _ this
 ·rcases d k with e | e
  ·rcases d' k with e' | e'
   ·left; simp [e,e']
   ·exact .inr e'
  ·rw [u'] at e; simp at e; exact .inr e.2
 ·rw [u,u']; cases e1 : h1 k <;> simp [e1]
theorem Ro.sep {W : World} {F : Nat → Prop} {rs : List Res} (H : Ro W F (Sep rs)) : ∀ r ∈ rs,Ro W F r := by
 obtain ⟨f,hs,ha⟩ := H
 induction rs generalizing f with
 | nil => intro r hr; cases hr
 | cons x rs ih =>
  obtain ⟨h1,h2,hx,hrs,hd,hu⟩ := hs
  have s1 : ∀ b o,h1 b = some o → f b = some o := fun b o e => by rw [hu,e]; rfl
  have s2 : ∀ b o,h2 b = some o → f b = some o := fun b o e => by
   rw [hu]; rcases hd b with e' | e'
   ·simp [e',e]
   ·rw [e] at e'; simp at e'
  intro r hr
  cases hr with
  | head => exact ⟨h1,hx,fun b o e => ha b o (s1 b o e)⟩
  | tail _ hr => exact ih h2 hrs (fun b o e => ha b o (s2 b o e)) r hr
theorem Ro.rds {W : World} {F : Nat → Prop} {l : List Bs} (H : Ro W F (rds l)) : ∀ x ∈ l,Ro W F (bytes x.a x.s) := fun x hx => Ro.sep H _ (List.mem_map.2 ⟨x,hx,rfl⟩)
end Cr
namespace Cr
open Go
set_option maxRecDepth 10000
section
variable {P : Program} {w : World} {t e : TypeId}
theorem Zk5 (d n : Nat) [h : Und P t (.array n e)] [he : Und P e (.int .u8)] [hs : Siz P e 1] [h1 : One P e] (a b : List UInt8) (ha : a.length = n) (hb : b.length = n) :
  (Op.equalIn (d + 2) t (.agg (bv a).toArray) (.agg (bv b).toArray)).run P w = .ok (decide (a = b)) w := by
 unfold Op.equalIn
 simp only [Sem.run_bind,run_underlying h.und,Result.andThen_ok,Zb3 (n := 1),Nat.mul_one]
 simp only [Std.Legacy.Range.forIn_eq_forIn_range']
 have hp : ∀ (l : List UInt8) (i : Nat) (hi : i < l.length),(part e (bv l).toArray i).run P w = .ok (.int .u8 (l[i].toNat : Int)) w := fun l i hi => by
  have := bv_get hi
  simp [part,h1.one,List.getElem?_toArray,this]
 have key : ∀ m s,s + m = n → (forIn (List.range' s m) (none,()) (fun i (__s : Option Bool × Unit) => do
   let __do_lift ← part e (bv a).toArray i
   let __do_lift_1 ← part e (bv b).toArray i
   let __do_lift ← Op.equalIn (d + 1) e __do_lift __do_lift_1
   if (!__do_lift) = true then pure (ForInStep.done (some false,())) else pure (ForInStep.yield (none,()))) : Sem (Option Bool × Unit)).run P w = .ok (if a.drop s = b.drop s then none else some false,()) w := by
  intro m
  induction m with
  | zero =>
   intro s hs
   rw [List.drop_of_length_le (by omega),List.drop_of_length_le (by omega)]
   simp
  | succ m ih =>
   intro s hs
   have hsa : s < a.length := by omega
   have hsb : s < b.length := by omega
   rw [List.range'_succ,List.forIn_cons]
   simp only [Sem.run_bind,hp a s hsa,hp b s hsb,Result.andThen_ok,run_equalIn_int w d e .u8 .u8 _ _ he.und]
   rw [List.drop_eq_getElem_cons hsa,List.drop_eq_getElem_cons hsb]
   by_cases hc : a[s] = b[s]
   ·have e1 : ((a[s].toNat : Int) == (b[s].toNat : Int)) = true := by rw [hc]; simp
    rw [e1]
    simp only [Bool.not_true,Bool.false_eq_true,if_false,Sem.run_pure,Result.andThen_ok]
    rw [ih (s + 1) (by omega),hc]
    simp only [List.cons.injEq,true_and]
   ·have e1 : ((a[s].toNat : Int) == (b[s].toNat : Int)) = false := by
     simp only [beq_eq_false_iff_ne,ne_eq]
     intro h
     exact hc (UInt8.toNat_inj.1 (by omega))
    rw [e1]
    simp only [Bool.not_false,if_true,Sem.run_pure,Result.andThen_ok]
    rw [if_neg (fun h => hc (List.cons.inj h).1)]
 have hz : [:n].size = n := by simp [Std.Legacy.Range.size]
 rw [hz,key n 0 (by omega)]
 by_cases hab : a = b <;> simp [hab]
end
section
variable {P : Program} {o : Oper} {σ : Env} {w : World} {x y : Operand} {t ty e : TypeId}
class NoGuard (P : Program) (t : TypeId) : Prop where
 no : P.eqGuardType P.depth t = false
theorem Zf4 {n : Nat} {a b : List UInt8} (ho : o.op = .binOp .neq t x y ty) (hx : ev σ x = some (.agg (bv a).toArray)) (hy : ev σ y = some (.agg (bv b).toArray)) [h : Und P t (.array n e)] [he : Und P e (.int .u8)] [hs : Siz P e 1] [h1 : One P e] [hg : NoGuard P t] (ha : a.length = n) (hb : b.length = n) :
  Yl P o σ w (.bool (decide (¬ a = b))) := ⟨fun N ds f hf => by
 have h2 := run_eqGuard_agg (P := P) (w := w) .neq t x y (bv a).toArray (bv b).toArray hg.no
 have h3 := run_neq_struct (P := P) (w := w) t (bv a).toArray (bv b).toArray
 have h4 := Zk5 (P := P) (w := w) (t := t) (e := e) 9998 n a b ha hb
 have e1 : (!(decide (a = b))) = decide (¬ a = b) := by by_cases q : a = b <;> simp [q]
 simp only [execOp,ho,hf.eval hx,hf.eval hy,Sem.run_bind,h2,h3,h4,Result.andThen_ok,e1]
 rfl⟩
end
end Cr
namespace Cr
open Go
section
variable {P : Program} {Q : Exit → Act → World → Prop} {N : Nat} {ds : Md} {σ : Env} {w : World} {x y : Code}
theorem Zhw {F : Fence} {n : Nat} {c : Code} {Q Q' : Exit → Act → World → Prop} {a : Act} (hq : ∀ e a w,Q e a w → Q' e a w) (h : c.wpIn F n P Q a w) : c.wpIn F n P Q' a w := by
 intro b k cs hro hb hr
 obtain ⟨e,a',w',hQ,harr⟩ := h b k cs hro hb hr
 exact ⟨e,a',w',hq _ _ _ hQ,harr⟩
def Mid {α : Type} (S : α → Env) (R : α → World → Prop) (N : Nat) (ds : Md) : Act → World → Prop := fun a w => ∃ z,Fr (S z) N ds a ∧ R z w
theorem C_join {α : Type} (S : α → Env) (R : α → World → Prop) (h1 : C P x (Exit.then (Mid S R N ds) Q) N ds σ w) (h2 : ∀ z w,R z w → C P y Q N ds (S z) w) : C P x (Exit.then (y.wpIn (Fc ds) 0 P Q) Q) N ds σ w := ⟨fun a ha =>
 Zhw (fun e a w hh => by
  cases e with
  | normal => obtain ⟨z,hF,hR⟩ := hh; exact (h2 z w hR).run a hF
  | exit id => exact hh
  | goto l => exact hh
  | ret => exact hh
  | panic ch => exact hh
  | outgrown => exact hh) (h1.run a ha)⟩
theorem Zpq {Q1 Q2 : Exit → Act → World → Prop} {id : Nat} (hq : ∀ e a w,Q1 e a w → Q2 e a w) : ∀ e a w,Exit.inBlock id Q1 e a w → Exit.inBlock id Q2 e a w := fun e a w h => by
 cases e with
 | exit id' =>
  by_cases he : id' = id
  ·simp only [Exit.inBlock,if_pos he] at h ⊢; exact hq _ _ _ h
  ·simp only [Exit.inBlock,if_neg he] at h ⊢; exact hq _ _ _ h
 | _ => exact hq _ _ _ h
theorem Zg8 {α : Type} {id : Nat} (S : α → Env) (R : α → World → Prop) (h1 : C P x (Exit.inBlock id (Exit.then (Mid S R N ds) Q)) N ds σ w) (h2 : ∀ z w,R z w → C P y Q N ds (S z) w) : C P x (Exit.inBlock id (Exit.then (y.wpIn (Fc ds) 0 P Q) Q)) N ds σ w := ⟨fun a ha =>
 Zhw (Zpq fun e a w hh => by
  cases e with
  | normal => obtain ⟨z,hF,hR⟩ := hh; exact (h2 z w hR).run a hF
  | exit id => exact hh
  | goto l => exact hh
  | ret => exact hh
  | panic ch => exact hh
  | outgrown => exact hh) (h1.run a ha)⟩
theorem Ziz {α : Type} {S : α → Env} {R : α → World → Prop} (z : α) (hσ : subs σ (S z)) (hR : R z w) : E (Exit.then (Mid S R N ds) Q) .normal N ds σ w := ⟨fun _ ha => ⟨z,ha.sub hσ,hR⟩⟩
end
section
variable {P : Program} {o : Oper} {σ : Env} {w : World} {t e : TypeId}
end
theorem St.ownRd {W : World} {F : Nat → Prop} {rs rest : List Res} {w : World} {a : Option Addr} {T e c : Nat} {cs : List Value} (hS : St W F rs w) [hh : HasOwn rs a T e c cs rest] : Rd w (row a cs) := ((hS.perm hh.has).rd (List.mem_cons_self ..)).own_row
/-! ### resources in another order -/
class Take1 (rs : List Res) (r : Res) (rest : outParam (List Res)) : Prop where
 perm : rs.Perm (r :: rest)
instance Take1.there (q r : Res) (rs rest : List Res) [h : Take1 rs r rest] : Take1 (q :: rs) r (q :: rest) := ⟨(List.Perm.cons q h.perm).trans (.swap ..)⟩
instance Take1.here (r : Res) (rs : List Res) : Take1 (r :: rs) r rs := ⟨.refl _⟩
class Takes (rs out : List Res) : Prop where
 took : ∀ {W F w},St W F rs w → St W F out w
instance Takes.nil (rs : List Res) : Takes rs [] := ⟨fun h => h.drops⟩
instance Takes.cons (rs rest out : List Res) (r : Res) [h : Take1 rs r rest] [h2 : Takes rest out] : Takes rs (r :: out) := ⟨fun hS => (hS.perm h.perm).under h2.took⟩
theorem St.took {W : World} {F : Nat → Prop} {rs out : List Res} {w : World} (hS : St W F rs w) [h : Takes rs out] : St W F out w := h.took hS
end Cr
namespace Cr
open Go Go.Proofs
set_option maxRecDepth 100000
set_option maxHeartbeats 8000000
attribute [local irreducible] Calls

def Zfh : List UInt8 := [99,104,97,105,110]
theorem start_ (rd fs : List Int) (W : World) (hG : Gl W noF rd fs) : Calls Tryz.prog 11 #[] W (Ret fun v w => v = .agg (bv (Zd7 rd fs Zfh)).toArray ∧ St W noF [] w) := by
 have hS := St.start W
 have hcl : bv Zfh = [.int .u8 99,.int .u8 104,.int .u8 97,.int .u8 105,.int .u8 110] := rfl
 refine Zas Tryz.func11 rfl Tryz.ntmps11 rfl ?_
 repeat (first|(refine G_id ?_;first|refine Zah ?_|refine Zab rfl rfl ?_)|(refine X_id ?_;first|refine Zbe rfl rfl rfl hS (fun _ _ hS _ => ?_)|refine Za6 rfl rfl rfl rfl rfl rfl rfl rfl hS (fun _ _ hS _ => ?_))|(refine C_id ?_;first|refine Zak ?_|refine Zaa ?_)|(refine E_id ?_;first|refine Zae ?_))
 rename_i b0 _ _
 refine Zjj rfl rfl rfl rfl hS (by simp) (fun w hS => ?_)
 repeat (first|(refine G_id ?_;first|refine Zab rfl rfl ?_)|(refine X_id ?_;first|refine Za6 rfl rfl rfl rfl rfl rfl rfl rfl hS (fun _ _ hS _ => ?_)))
 rename_i b1 w1 _
 have hB : Bss w1 noF (some ⟨b1,0,none⟩) [⟨some ⟨b0,0,none⟩,5,Zfh⟩] := ⟨(show Rd w1 (row (some ⟨b1,0,none⟩) _) by simpa [Bs.val,Zfh] using hS.ownRd (a := some ⟨b1,0,none⟩)).ro,fun x hx => by
  rw [List.mem_singleton] at hx
  subst hx
  exact (hS.rd (r := bytes (some ⟨b0,0,none⟩) Zfh) (by simp [bytes,← hcl])).ro⟩
 have hl32 : LenO (bv (Zd7 rd fs (Zbd [⟨some ⟨b0,0,none⟩,5,Zfh⟩]))) 32 := ⟨by rw [Za4]; exact Zds _ _ _⟩
 refine Zbm _ rfl rfl rfl rfl rfl hS (dof_ _ 1 _ rd fs _ (by simp [Zbd,Zfh]) (by simp) (hG.mono fun r hr => (hr.rd hS).ro) hB) ?_
 rintro _ w rfl hS
 clear hB
 repeat (first|(refine G_id ?_;first|refine Zah ?_|refine Zab rfl rfl ?_)|(refine X_id ?_;first|refine Za1 rfl rfl rfl rfl hS (fun _ hS _ => ?_))|(refine C_id ?_;first|refine Za2 ?_)|(refine E_id ?_;first|refine Zae ?_|refine Zax rfl (by first|exact Zap rfl|exact Zay rfl (Zba hS.cell)|exact Zay rfl (Za9 hS.cellsN)) (Ret.mk ?_)))
 exact ⟨by rw [show Zbd [⟨some ⟨b0,0,none⟩,5,Zfh⟩] = Zfh by simp [Zbd]],hS.drops⟩
end Cr
namespace Cr
open Go Go.Proofs
set_option maxRecDepth 100000
set_option maxHeartbeats 4000000
attribute [local irreducible] Calls

theorem Zsz (a b : Option Addr) (n m c c' : Nat) (s t : List UInt8) (W : World) (ha : Rd W (bytes a s)) (hb : Rd W (bytes b t)) (hn : s.length = n) (hm : t.length = m) :
  Calls Tryz.prog 119 #[.slice a n c,.slice b m c'] W (Ret fun v w => v = .bool (decide (s = t)) ∧ W = w) := by
 refine Zas Tryz.func119 rfl Tryz.ntmps119 rfl ?_
 repeat (first|(refine G_id ?_;first|refine Zah ?_|refine Zab rfl rfl ?_)|(refine X_id ?_;first|refine X_yl (Zad rfl rfl) rfl rfl ?_|refine X_yl (Zac rfl rfl) rfl rfl ?_)|(refine C_id ?_;first|refine Zak ?_|refine Zaa ?_)|(refine E_id ?_;first|refine Zae ?_))
 refine X_yl (Zia rfl rfl ha hn) rfl rfl ?_
 repeat (first|(refine G_id ?_;first|refine Zab rfl rfl ?_)|(refine X_id ?_;first|refine X_yl (Zad rfl rfl) rfl rfl ?_))
 refine X_yl (Zia rfl rfl hb hm) rfl rfl ?_
 repeat (first|(refine G_id ?_;first|refine Zab rfl rfl ?_))
 refine X_yl (Zqh rfl rfl rfl) rfl rfl ?_
 repeat (first|(refine G_id ?_;first|refine Zah ?_|refine Zab rfl rfl ?_)|(refine X_id ?_;first|refine X_yl (Zac rfl rfl) rfl rfl ?_)|(refine C_id ?_;first|refine Za2 ?_)|(refine E_id ?_;first|refine Zae ?_|refine Zax rfl (Zap rfl) (Ret.mk ?_)))
 exact ⟨rfl,rfl⟩

theorem mkNoZero (n : Nat) (w : World) (hn : n ≤ 281474976710656) : ∃ cs : Array Value,(callFunc 111 #[.int .i64 n]).run Tryz.prog w = .ok (.value (.slice (some ⟨w.heap.size,0,none⟩) n cs.size)) (w.drew.drew.alloc (.cells cs 5)) ∧ n ≤ cs.size := by
 obtain ⟨cs,hrun,hle,_⟩ := Lib.run_makeNoZero (P := Tryz.prog) (w := w) #[3] 36 5 (Und.und (P := Tryz.prog) (t := 36) (d := .slice 5)) n hn
 refine ⟨cs,?_,hle⟩
 rw [run_callFunc_extern Tryz.func111 (by kernel_rfl) (by kernel_rfl) (by kernel_rfl) (e := Extern.BytealgMakeNoZero.makeNoZero #[3] #[36]) (by kernel_rfl),hrun]
 rfl
theorem St.alloc2 {W : World} {F : Nat → Prop} {rs : List Res} {w : World} (hS : St W F rs w) (o : Obj) : St W F (pts w.heap.size o :: rs) (w.drew.drew.alloc o) := hS.drew.drew.alloc o

theorem join_ (ab ao c : Nat) (l : List Bs) (W : World) (hB : Bss W noF (some ⟨ab,ao,none⟩) l) (h2 : 2 ≤ l.length) (hc : l.length ≤ c) (hl : l.length ≤ 1099511627776) (hn : (Zbd l).length ≤ 1099511627776) :
  Calls Tryz.prog 233 #[.slice (some ⟨ab,ao,none⟩) l.length c,.slice none 0 0] W (Ret fun v w => ∃ p,v = .slice (some ⟨p,0,none⟩) (Zbd l).length (Zbd l).length ∧ St W noF [bytes (some ⟨p,0,none⟩) (Zbd l)] w) := by
 have hS := St.start W
 refine Zas Tryz.func233 rfl Tryz.ntmps233 rfl ?_
 repeat (first|(refine G_id ?_;first|refine Zah ?_|refine Zab rfl rfl ?_)|(refine X_id ?_;first|refine X_yl (Zad rfl rfl) rfl rfl ?_|refine X_yl (Zac rfl rfl) rfl rfl ?_|refine X_yl (Zbt rfl rfl) rfl rfl ?_|refine X_yl (Zd9 rfl rfl rfl (by omega)) rfl rfl ?_|refine X_yl (Zdl rfl rfl rfl (by omega)) rfl rfl ?_)|(refine C_id ?_;first|refine Zak ?_|refine Zaa ?_|refine Zaq ?_|refine Zaw ?_|refine Zaj rfl ?_)|(refine E_id ?_;first|refine Zae ?_))
 refine Zb7 (α := Nat) (fun i => [(0,.slice (some ⟨ab,ao,none⟩) l.length c),(1,.slice none 0 0),(5,.int .i64 ((Zbd (l.take i)).length : Nat)),(42,.slice (some ⟨ab,ao,none⟩) l.length c),(43,.int .i64 (l.length : Nat)),(44,.int .i64 (i : Nat))])
  (fun i w => i ≤ l.length ∧ St W noF [] w) (fun i => l.length - i) 0 ⟨rfl,rfl,rfl,rfl,rfl,rfl,trivial⟩ ⟨Nat.zero_le _,hS⟩ ?_
 clear hS
 rintro i w ⟨hi,hS⟩
 have hr := hB.row
 by_cases hlt : i < l.length
 ·have hx0 : l[i]? = some l[i] := List.getElem?_eq_getElem hlt
  generalize l[i] = x at hx0
  have hx : (l.map Bs.val)[i]? = some (.slice x.a x.s.length x.c) := by simp [hx0,Bs.val]
  have hj := Zeb hx0
  have hle := Zc2 l (i + 1)
  have hjl : (Zbd (l.take (i + 1))).length = (Zbd (l.take i)).length + x.s.length := by rw [hj]; simp
  rw [hjl] at hle
  clear hj
  repeat (first|(refine G_id ?_;first|refine Zah ?_|refine Zab rfl rfl ?_)|(refine X_id ?_;first|refine X_yl (Zad rfl rfl) rfl rfl ?_|refine X_yl (Zac rfl rfl) rfl rfl ?_|refine X_yl (Zbt rfl rfl) rfl rfl ?_|refine X_yl (Za3 rfl rfl rfl (by omega)) rfl rfl ?_|refine X_yl (Zdl rfl rfl rfl (by omega)) rfl rfl ?_|refine X_yl (Zau rfl rfl rfl (by omega) (by omega) (by first|assumption|exact ⟨_,_,rfl⟩)) rfl rfl ?_|refine X_yl (Zbk rfl rfl rfl (w64 (by omega) (by omega))) rfl rfl ?_|refine X_yl (Zdn rfl rfl rfl (w64 (by omega) (by omega))) rfl rfl ?_|refine X_yl (Zao rfl rfl ((hr.rd hS).cellX (by omega) hx)) rfl rfl ?_)|(refine C_id ?_;first|refine Zak ?_|refine Zaa ?_|refine Zaq ?_|refine Zaw ?_|refine Zam rfl ?_|refine Zaj rfl ?_)|(refine E_id ?_;first|refine Zae ?_|refine Zbf ?_))
  refine Zbu (i + 1) ⟨rfl,rfl,by rw [hjl]; rfl,rfl,rfl,rfl,trivial⟩ ⟨by omega,hS⟩ (by omega)
 ·obtain rfl : i = l.length := by omega
  rw [List.take_length]
  repeat (first|(refine G_id ?_;first|refine Zah ?_|refine Zab rfl rfl ?_)|(refine X_id ?_;first|refine X_yl (Zad rfl rfl) rfl rfl ?_|refine X_yl (Za7 rfl rfl rfl (by omega)) rfl rfl ?_)|(refine C_id ?_;first|refine Zak ?_|refine Zaa ?_|refine Zb0 ?_|refine Zaj rfl ?_)|(refine E_id ?_;first|refine Zae ?_|refine Zav ?_|refine Zaz ?_))
  obtain ⟨cs,hrun,hcs⟩ := mkNoZero (Zbd l).length w (by omega)
  refine Zql rfl rfl rfl hrun rfl rfl ?_
  replace hS := hS.alloc2 (.cells cs 5)
  generalize w.drew.drew.alloc (.cells cs 5) = w2 at hS ⊢
  generalize w.heap.size = p at hS ⊢
  clear hrun
  obtain ⟨T,hT⟩ : ∃ T,T = (Zbd l).length := ⟨_,rfl⟩
  have hjt := Zc2 l
  rw [← hT] at hcs hn hjt ⊢
  repeat (first|(refine G_id ?_;first|refine Zab rfl rfl ?_)|(refine X_id ?_;first|refine X_yl (Zad rfl rfl) rfl rfl ?_))
  refine X_yl (Zme (l := 0) (h := T) (k := T) rfl rfl rfl rfl rfl ⟨_,_,rfl,by omega,by omega,hcs⟩ ⟨_,_,rfl,by omega,by omega,Nat.le_refl _⟩ (.inl ⟨rfl,rfl⟩)) rfl rfl ?_
  rw [sub_zero,Nat.sub_zero]
  obtain ⟨x,hx0⟩ : ∃ x,l[0]? = some x := ⟨_,List.getElem?_eq_getElem (by omega)⟩
  have hx : (l.map Bs.val)[0]? = some (.slice x.a x.s.length x.c) := by simp [hx0,Bs.val]
  have hbx := hB.all x (List.mem_of_getElem? hx0)
  have hj0 := Zeb hx0
  simp only [List.take_zero,Nat.zero_add] at hj0
  replace hj0 : Zbd (l.take 1) = x.s := by rw [hj0]; rfl
  have hx1 := hjt 1
  rw [hj0] at hx1
  obtain ⟨c0,rfl⟩ : ∃ c0 : List Value,cs = c0.toArray := ⟨cs.toList,by simp⟩
  have hc0 : T ≤ c0.length := by simpa using hcs
  repeat (first|(refine G_id ?_;first|refine Zah ?_|refine Zab rfl rfl ?_)|(refine X_id ?_;first|refine X_yl (Zad rfl rfl) rfl rfl ?_|refine X_yl (Zac rfl rfl) rfl rfl ?_|refine X_yl (Zau rfl rfl rfl (by omega) (by omega) (by first|assumption|exact ⟨_,_,rfl⟩)) rfl rfl ?_|refine X_yl (Zao rfl rfl ((hr.rd hS).cellX (by omega) hx)) rfl rfl ?_)|(refine C_id ?_;first|refine Zak ?_|refine Zaa ?_)|(refine E_id ?_;first|refine Zae ?_))
  refine Zqo rfl rfl rfl rfl rfl hS (hbx.rd hS) (by simp) Zfm (by omega) (fun w hS => ?_)
  rw [List.take_of_length_le (by simp; omega)] at hS
  replace hS : St W noF [pts p (.cells (bv (Zbd (l.take 1)) ++ c0.drop x.s.length).toArray 5)] w := by
   rw [hj0]; simpa [Zby] using hS
  have hmin : min x.s.length T = (Zbd (l.take 1)).length := by rw [hj0]; omega
  rw [hmin]
  have hjx : (Zbd (l.take 1)).length = x.s.length := by rw [hj0]
  clear hmin hx hx0 hbx hj0
  repeat (first|(refine G_id ?_;first|refine Zah ?_|refine Zab rfl rfl ?_)|(refine X_id ?_;first|refine X_yl (Zad rfl rfl) rfl rfl ?_|refine X_yl (Zac rfl rfl) rfl rfl ?_)|(refine C_id ?_;first|refine Zak ?_|refine Zaa ?_)|(refine E_id ?_;first|refine Zae ?_))
  refine X_yl (Zcw (l := 1) (h := l.length) rfl rfl rfl rfl (.inl ⟨rfl,rfl⟩) (.inr ⟨_,_,rfl,by omega,by omega,by omega⟩)) rfl rfl ?_
  rw [show sub (some ⟨ab,ao,none⟩) 1 1 c = some ⟨ab,ao + 1,none⟩ by unfold sub; rw [if_neg (by omega)]; simp [Zcn]]
  have hr' : Ro W noF (row (some ⟨ab,ao + 1,none⟩) ((l.map Bs.val).drop 1)) := hr.mono fun h hh => by
   have := row.part (a := some ⟨ab,ao,none⟩) (cs' := (l.map Bs.val).drop 1) (i := 1) (fun j v hv => by simpa [Nat.add_comm] using hv) h hh
   simpa [adr] using this
  clear hr
  repeat (first|(refine G_id ?_;first|refine Zah ?_|refine Zab rfl rfl ?_)|(refine X_id ?_;first|refine X_yl (Zad rfl rfl) rfl rfl ?_|refine X_yl (Zbt rfl rfl) rfl rfl ?_)|(refine C_id ?_;first|refine Zaq ?_)|(refine E_id ?_;first|refine Zae ?_))
  refine Zb7 (α := Nat) (fun i => [(1,.slice none 0 0),(8,.slice (some ⟨p,0,none⟩) T T),(9,.int .i64 ((Zbd (l.take (i + 1))).length : Nat)),(70,.slice (some ⟨ab,ao + 1,none⟩) (l.length - 1) (c - 1)),(71,.int .i64 ((l.length - 1 : Nat) : Int)),(72,.int .i64 (i : Nat))])
   (fun i w => i ≤ l.length - 1 ∧ ∃ r,r.length + (Zbd (l.take (i + 1))).length = c0.length ∧ St W noF [pts p (.cells (bv (Zbd (l.take (i + 1))) ++ r).toArray 5)] w) (fun i => l.length - 1 - i) 0 ⟨rfl,rfl,rfl,rfl,rfl,rfl,trivial⟩ ⟨Nat.zero_le _,_,by simp; omega,hS⟩ ?_
  clear hS
  rintro i w ⟨hi,r,hrl,hS⟩
  have hjt1 := hjt (i + 1)
  obtain ⟨J,hJ⟩ : ∃ J,J = Zbd (l.take (i + 1)) := ⟨_,rfl⟩
  rw [← hJ] at hS hrl hjt1 ⊢
  by_cases hlt : i < l.length - 1
  ·obtain ⟨x,hx0⟩ : ∃ x,l[i + 1]? = some x := ⟨_,List.getElem?_eq_getElem (by omega)⟩
   have hbx := hB.all x (List.mem_of_getElem? hx0)
   have hj0 := Zeb hx0
   have hx : ((l.map Bs.val).drop 1)[i]? = some (.slice x.a x.s.length x.c) := by simp [hx0,Bs.val]
   have hx1 := hjt (i + 1 + 1)
   rw [hj0,← hJ,List.length_append] at hx1
   have hr := hr'
   repeat (first|(refine G_id ?_;first|refine Zah ?_|refine Zab rfl rfl ?_)|(refine X_id ?_;first|refine X_yl (Zad rfl rfl) rfl rfl ?_|refine X_yl (Zac rfl rfl) rfl rfl ?_|refine X_yl (Za3 rfl rfl rfl (by omega)) rfl rfl ?_|refine X_yl (Zau rfl rfl rfl (by omega) (by omega) (by first|assumption|exact ⟨_,_,rfl⟩)) rfl rfl ?_|refine X_yl (Zao rfl rfl ((hr.rd hS).cellX (by omega) hx)) rfl rfl ?_)|(refine C_id ?_;first|refine Zak ?_|refine Zaa ?_|refine Zaq ?_|refine Zaw ?_|refine Zam rfl ?_)|(refine E_id ?_;first|refine Zae ?_))
   refine X_yl (Zcw (l := J.length) (h := T) rfl rfl rfl rfl (.inl ⟨rfl,rfl⟩) (.inr ⟨_,_,rfl,by omega,by omega,by omega⟩)) rfl rfl ?_
   obtain ⟨off,hoff,hof⟩ : ∃ off,sub (some ⟨p,0,none⟩) J.length 1 T = some ⟨p,off,none⟩ ∧ (off = J.length ∨ (T = J.length ∧ off = 0)) := by
    unfold sub
    by_cases e : T = J.length
    ·exact ⟨0,by rw [if_pos e],.inr ⟨e,rfl⟩⟩
    ·exact ⟨J.length,by rw [if_neg e]; simp [Zcn],.inl rfl⟩
   rw [hoff]
   repeat (first|(refine G_id ?_;first|refine Zab rfl rfl ?_)|(refine X_id ?_;first|refine X_yl (Zad rfl rfl) rfl rfl ?_))
   refine Zqo (news := []) rfl rfl rfl rfl rfl hS (Zka _ _) rfl (fun _ h => by cases h) (by simp; omega) (fun w hS => ?_)
   rw [show Zby (bv J ++ r) off (([] : List Value).take (T - J.length)) = bv J ++ r by simp [Zby]] at hS
   rw [show ((min 0 (T - J.length) : Nat) : Int) = 0 by omega]
   repeat (first|(refine G_id ?_;first|refine Zah ?_|refine Zab rfl rfl ?_)|(refine X_id ?_;first|refine X_yl (Zad rfl rfl) rfl rfl ?_|refine X_yl (Zac rfl rfl) rfl rfl ?_|refine X_yl (Zbk rfl rfl rfl (w64 (by omega) (by omega))) rfl rfl ?_)|(refine C_id ?_;first|refine Zaa ?_)|(refine E_id ?_;first|refine Zae ?_))
   rw [show (J.length : Int) + 0 = (J.length : Nat) by omega]
   refine X_yl (Zcw (l := J.length) (h := T) rfl rfl rfl rfl (.inl ⟨rfl,rfl⟩) (.inr ⟨_,_,rfl,by omega,by omega,by omega⟩)) rfl rfl ?_
   rw [hoff]
   repeat (first|(refine G_id ?_;first|refine Zab rfl rfl ?_)|(refine X_id ?_;first|refine X_yl (Zad rfl rfl) rfl rfl ?_))
   refine Zqo rfl rfl rfl rfl rfl hS (hbx.rd hS) (by simp) Zfm (by simp; omega) (fun w hS => ?_)
   repeat (first|(refine G_id ?_;first|refine Zah ?_|refine Zab rfl rfl ?_)|(refine X_id ?_;first|refine X_yl (Zad rfl rfl) rfl rfl ?_|refine X_yl (Zac rfl rfl) rfl rfl ?_|refine X_yl (Zbk rfl rfl rfl (w64 (by omega) (by omega))) rfl rfl ?_)|(refine C_id ?_;first|refine Zaa ?_)|(refine E_id ?_;first|refine Zae ?_|refine Zbf ?_))
   refine Zbu (i + 1) ⟨rfl,rfl,?_,rfl,rfl,rfl,trivial⟩ ⟨by omega,r.drop x.s.length,by rw [hj0,← hJ]; simp; omega,?_⟩ (by omega)
   ·show some _ = some _
    rw [hj0,← hJ]
    congr 2
    simp
    omega
   ·rw [hj0,← hJ,Zf3]
    rcases hof with rfl | ⟨e,rfl⟩
    ·rw [List.take_of_length_le (by simp; omega)] at hS
     have : Zby (bv J ++ r) J.length (bv x.s) = bv J ++ bv x.s ++ r.drop x.s.length := by
      have := Zto (l := bv J) (m := r) (vs := bv x.s) (k := J.length) (n := 0) (by simp)
      rw [Nat.add_zero] at this
      rw [this]; simp [Zby]
     rw [this] at hS
     exact hS
    ·have h0 : x.s = [] := List.length_eq_zero_iff.1 (by omega)
     rw [h0] at hS ⊢
     simpa [Zby,bv] using hS
  ·obtain rfl : i = l.length - 1 := by omega
   have hJj : J = Zbd l := by rw [hJ,show l.length - 1 + 1 = l.length by omega,List.take_length]
   repeat (first|(refine G_id ?_;first|refine Zah ?_|refine Zab rfl rfl ?_)|(refine X_id ?_;first|refine X_yl (Zad rfl rfl) rfl rfl ?_|refine X_yl (Zac rfl rfl) rfl rfl ?_|refine X_yl (Za7 rfl rfl rfl (by omega)) rfl rfl ?_)|(refine C_id ?_;first|refine Zak ?_|refine Zaa ?_|refine Za2 ?_|refine Zb0 ?_|refine Zaj rfl ?_)|(refine E_id ?_;first|refine Zae ?_|refine Zav ?_|refine Zaz ?_|refine Zax rfl (Zap rfl) (Ret.mk ?_)))
   refine ⟨p,rfl,hS.head fun h hh => Zhc (n := J.length) ?_ h hh⟩
   rw [← hJj]; simp
end Cr
namespace Cr
open Go Go.Proofs
set_option maxRecDepth 100000
set_option maxHeartbeats 4000000
attribute [local irreducible] Calls

/-! ### big -/
def bigAt (n : Int) (c i : Nat) : UInt8 := b8 (ishr .u64 (IntKind.u64.wrap n) (8 * (c - 1 - i)))
def Zma (n : Int) (c : Nat) : Nat → List UInt8
 | 0 => List.replicate c 0
 | i + 1 => (Zma n c i).set i (bigAt n c i)
theorem Zfn (n : Int) (c : Nat) : ∀ i,(Zma n c i).length = c
 | 0 => by simp [Zma]
 | i + 1 => by simp [Zma,Zfn n c i]
def bigB (n : Int) (c : Nat) : List UInt8 := Zma n c c
theorem Za0 (n : Int) (c : Nat) : (bigB n c).length = c := Zfn n c c
attribute [irreducible] bigB
theorem big_ (n : Int) (c : Nat) (W : World) (hc : c ≤ 1048576) :
  Calls Tryz.prog 206 #[.int .i64 n,.int .i64 (c : Nat)] W (Ret fun v w => ∃ p,v = .slice (some ⟨p,0,none⟩) c c ∧ St W noF [pts p (.cells (bv (bigB n c)).toArray 5)] w) := by
 have hS := St.start W
 refine Zas Tryz.func206 rfl Tryz.ntmps206 rfl ?_
 repeat (first|(refine G_id ?_;first|refine Zah ?_|refine Zab rfl rfl ?_)|(refine X_id ?_;first|refine X_yl (Zad rfl rfl) rfl rfl ?_|refine X_yl (Zac rfl rfl) rfl rfl ?_|refine X_yl (Zbt rfl rfl) rfl rfl ?_|refine Zmj rfl rfl rfl (by omega) (by omega) rfl rfl hS (fun _ _ hS => ?_))|(refine C_id ?_;first|refine Zak ?_|refine Zaa ?_|refine Zaq ?_)|(refine E_id ?_;first|refine Zae ?_))
 rename_i p w0
 refine Zb7 (α := Nat) (fun i => [(0,.int .i64 n),(1,.int .i64 (c : Nat)),(5,.slice (some ⟨p,0,none⟩) c c),(10,.int .i64 (c : Nat)),(11,.int .i64 (i : Nat))])
  (fun i w => i ≤ c ∧ St W noF [pts p (.cells (bv (Zma n c i)).toArray 5)] w) (fun i => c - i) 0 ⟨rfl,rfl,rfl,rfl,rfl,trivial⟩ ⟨Nat.zero_le _,hS⟩ ?_
 clear hS
 rintro i w ⟨hi,hS⟩
 obtain ⟨L,hLe⟩ : ∃ L,L = Zma n c i := ⟨_,rfl⟩
 have hL : L.length = c := by rw [hLe]; exact Zfn n c i
 rw [← hLe] at hS
 by_cases hlt : i < c
 ·repeat (first|(refine G_id ?_;first|refine Zah ?_|refine Zab rfl rfl ?_)|(refine X_id ?_;first|refine X_yl (Zad rfl rfl) rfl rfl ?_|refine X_yl (Zac rfl rfl) rfl rfl ?_|refine X_yl (Za3 rfl rfl rfl (by omega)) rfl rfl ?_|refine X_yl (Zau rfl rfl rfl (by omega) (by omega) (by first|assumption|exact ⟨_,_,rfl⟩)) rfl rfl ?_|refine X_yl (Zbk rfl rfl rfl (w64 (by omega) (by omega))) rfl rfl ?_|refine X_yl (Zdn rfl rfl rfl (w64 (by omega) (by omega))) rfl rfl ?_|refine X_yl (Zfi rfl rfl rfl (w64 (by omega) (by omega))) rfl rfl ?_|refine X_yl (Zf5 rfl rfl) rfl rfl ?_|refine X_yl (Zd2 rfl rfl rfl) rfl rfl ?_|refine X_yl (Zj6 rfl rfl rfl (by omega)) rfl rfl ?_|refine Zqk rfl rfl rfl rfl hS (by omega) (fun _ hS => ?_))|(refine C_id ?_;first|refine Zak ?_|refine Zaa ?_|refine Zaq ?_|refine Zaw ?_|refine Zam rfl ?_)|(refine E_id ?_;first|refine Zae ?_|refine Zbf ?_))
  refine Zbu (i + 1) ⟨rfl,rfl,rfl,rfl,rfl,trivial⟩ ⟨by omega,?_⟩ (by omega)
  simp only [Zma,bigAt]
  rw [← hLe]
  rw [show 0 + (i : Int).toNat * 1 = i by omega,show (8 * ((c : Int) - 1 - (i : Int))).toNat = 8 * (c - 1 - i) by omega] at hS
  exact hS
 ·obtain rfl : i = c := by omega
  repeat (first|(refine G_id ?_;first|refine Zah ?_|refine Zab rfl rfl ?_)|(refine X_id ?_;first|refine X_yl (Zad rfl rfl) rfl rfl ?_|refine X_yl (Zac rfl rfl) rfl rfl ?_|refine X_yl (Za7 rfl rfl rfl (by omega)) rfl rfl ?_)|(refine C_id ?_;first|refine Zak ?_|refine Zaa ?_|refine Za2 ?_|refine Zb0 ?_|refine Zaj rfl ?_)|(refine E_id ?_;first|refine Zae ?_|refine Zav ?_|refine Zaz ?_|refine Zax rfl (Zap rfl) (Ret.mk ?_)))
  refine ⟨p,rfl,?_⟩
  unfold bigB
  rw [← hLe]
  exact hS

/-! ### small -/
def Zn0 (s : List UInt8) : Nat → Int
 | 0 => 0
 | i + 1 => ior .i64 (ishl .i64 (Zn0 s i) 8) ((s.getD i 0).toNat : Int)
def Zea (s : List UInt8) : Int := Zn0 s s.length
theorem small_ (a : Option Addr) (c : Nat) (s : List UInt8) (W : World) (hs : Rd W (bytes a s)) (hl : s.length ≤ 1048576) :
  Calls Tryz.prog 203 #[.slice a s.length c] W (Ret fun v w => v = .int .i64 (Zea s) ∧ W = w) := by
 have hS := St.start W
 have hso := hs.ro
 refine Zas Tryz.func203 rfl Tryz.ntmps203 rfl ?_
 repeat (first|(refine G_id ?_;first|refine Zah ?_|refine Zab rfl rfl ?_)|(refine X_id ?_;first|refine X_yl (Zad rfl rfl) rfl rfl ?_|refine X_yl (Zac rfl rfl) rfl rfl ?_|refine X_yl (Zbt rfl rfl) rfl rfl ?_)|(refine C_id ?_;first|refine Zak ?_|refine Zaa ?_|refine Zaq ?_)|(refine E_id ?_;first|refine Zae ?_))
 refine Zb7 (α := Nat) (fun i => [(3,.int .i64 (Zn0 s i)),(6,.slice a s.length c),(7,.int .i64 (s.length : Nat)),(8,.int .i64 (i : Nat))])
  (fun i w => i ≤ s.length ∧ w = W) (fun i => s.length - i) 0 ⟨rfl,rfl,rfl,rfl,trivial⟩ ⟨Nat.zero_le _,rfl⟩ ?_
 rintro i w ⟨hi,rfl⟩
 by_cases hlt : i < s.length
 ·obtain ⟨xb,xo,rfl⟩ := hs.base (by intro e; have := Za4 s; rw [e] at this; simp at this; omega)
  have hb : Ro w noF (bytes (some ⟨xb,xo,none⟩) s) := hso
  have h256 := UInt8.toNat_lt (s.getD ((i : Int).toNat * 1) 0)
  repeat (first|(refine G_id ?_;first|refine Zah ?_|refine Zab rfl rfl ?_)|(refine X_id ?_;first|refine X_yl (Zad rfl rfl) rfl rfl ?_|refine X_yl (Zac rfl rfl) rfl rfl ?_|refine X_yl (Za3 rfl rfl rfl (by omega)) rfl rfl ?_|refine X_yl (Zau rfl rfl rfl (by omega) (by omega) (by first|assumption|exact ⟨_,_,rfl⟩)) rfl rfl ?_|refine X_yl (Zbk rfl rfl rfl (w64 (by omega) (by omega))) rfl rfl ?_|refine X_yl (Zd2 rfl rfl (w64 (by omega) (by omega))) rfl rfl ?_|refine X_yl (Yl_or rfl rfl rfl) rfl rfl ?_|refine X_yl (Yl_shl rfl rfl rfl (by omega)) rfl rfl ?_|refine X_yl (Zao rfl rfl ((hb.rd hS).cellB' (by omega))) rfl rfl ?_)|(refine C_id ?_;first|refine Zak ?_|refine Zaa ?_|refine Zaq ?_|refine Zaw ?_|refine Zam rfl ?_)|(refine E_id ?_;first|refine Zae ?_|refine Zbf ?_))
  refine Zbu (i + 1) ⟨?_,rfl,rfl,rfl,trivial⟩ ⟨by omega,rfl⟩ (by omega)
  show some _ = some _
  simp only [Zn0]
  rw [show (i : Int).toNat * 1 = i by omega]
  rfl
 ·obtain rfl : i = s.length := by omega
  repeat (first|(refine G_id ?_;first|refine Zah ?_|refine Zab rfl rfl ?_)|(refine X_id ?_;first|refine X_yl (Zad rfl rfl) rfl rfl ?_|refine X_yl (Zac rfl rfl) rfl rfl ?_|refine X_yl (Za7 rfl rfl rfl (by omega)) rfl rfl ?_)|(refine C_id ?_;first|refine Zak ?_|refine Zaa ?_|refine Za2 ?_|refine Zb0 ?_|refine Zaj rfl ?_)|(refine E_id ?_;first|refine Zae ?_|refine Zav ?_|refine Zaz ?_|refine Zax rfl (Zap rfl) (Ret.mk ?_)))
  exact ⟨rfl,rfl⟩
end Cr
namespace Cr
open Go Go.Proofs
set_option maxRecDepth 100000
set_option maxHeartbeats 8000000
attribute [local irreducible] Calls

theorem Zld {w : World} {b : Nat} {t : TypeId} {s : List UInt8} (h : Rd w (pts b (.cells (bv s).toArray t (0,0)))) : Rd w (bytes (some ⟨b,0,none⟩) s) :=
 let ⟨g,hg,ha⟩ := h
 ⟨g,.inr ⟨b,0,(bv s).toArray,t,_,rfl,hg,fun i v hv => by simpa using hv⟩,ha⟩
def mkAt (no : Int) (i : Nat) : UInt8 := b8 (ishr .u64 (IntKind.u64.wrap no) (8 * i))
def mkTo (no : Int) : Nat → List UInt8
 | 0 => List.replicate 8 0
 | i + 1 => (mkTo no i).set (7 - i) (mkAt no i)
theorem Zlj (no : Int) : ∀ i,(mkTo no i).length = 8
 | 0 => by simp [mkTo]
 | i + 1 => by simp [mkTo,Zlj no i]
def be8 (no : Int) : List UInt8 := mkTo no 8
attribute [irreducible] be8
theorem mark_ (ah : List UInt8) (no : Int) (a : Option Addr) (c : Nat) (b : List UInt8) (rd fs : List Int) (W : World) (hah : ah.length = 32) (hG : Gl W noF rd fs) (hb : Ro W noF (bytes a b)) (hbl : b.length < 1000000000) :
  Calls Tryz.prog 16 #[.agg (bv ah).toArray,.int .i64 no,.slice a b.length c] W (Ret fun v w => v = .agg (bv (digest rd fs [ah,be8 no,b])).toArray ∧ St W noF [] w) := by
 have hS := St.start W
 have ha32 : LenO (bv ah) 32 := ⟨by rw [Za4]; exact hah⟩
 refine Zas Tryz.func16 rfl Tryz.ntmps16 rfl ?_
 repeat (first|(refine G_id ?_;first|refine Zah ?_|refine Zab rfl rfl ?_)|(refine X_id ?_;first|refine Zeg rfl rfl rfl rfl hS (fun _ _ hS _ => ?_)|refine Zbe rfl rfl rfl hS (fun _ _ hS _ => ?_))|(refine C_id ?_;first|refine Zak ?_|refine Zaa ?_)|(refine E_id ?_;first|refine Zae ?_))
 rename_i b3 _ _ _ b6 _ _
 refine Zmj (c := 8) rfl rfl rfl (by omega) (by omega) rfl rfl hS (fun p w hS => ?_)
 repeat (first|(refine G_id ?_;first|refine Zah ?_|refine Zab rfl rfl ?_)|(refine X_id ?_;first|refine X_yl (Zad rfl rfl) rfl rfl ?_|refine X_yl (Zac rfl rfl) rfl rfl ?_|refine X_yl (Zbt rfl rfl) rfl rfl ?_)|(refine C_id ?_;first|refine Zak ?_|refine Zaa ?_|refine Zaq ?_)|(refine E_id ?_;first|refine Zae ?_))
 refine Zb7 (α := Nat) (fun i => [(1,.int .i64 no),(2,.slice a b.length c),(3,.pointer (some ⟨b3,0,none⟩)),(6,.pointer (some ⟨b6,0,none⟩)),(7,.slice (some ⟨p,0,none⟩) 8 8),(11,.int .i64 8),(12,.int .i64 (i : Nat))])
  (fun i w => i ≤ 8 ∧ St W noF [pts p (.cells (bv (mkTo no i)).toArray 5),pts b6 (.cells (List.replicate 32 (Value.int .u8 0)).toArray 23),pts b3 (.cells (bv ah).toArray 23)] w) (fun i => 8 - i) 0 ⟨rfl,rfl,rfl,rfl,rfl,rfl,rfl,trivial⟩ ⟨Nat.zero_le _,hS⟩ ?_
 clear hS
 rintro i w ⟨hi,hS⟩
 obtain ⟨L,hLe⟩ : ∃ L,L = mkTo no i := ⟨_,rfl⟩
 have hL : L.length = 8 := by rw [hLe]; exact Zlj no i
 rw [← hLe] at hS
 by_cases hlt : i < 8
 ·repeat (first|(refine G_id ?_;first|refine Zah ?_|refine Zab rfl rfl ?_)|(refine X_id ?_;first|refine X_yl (Zad rfl rfl) rfl rfl ?_|refine X_yl (Zac rfl rfl) rfl rfl ?_|refine X_yl (Za3 rfl rfl rfl (by omega)) rfl rfl ?_|refine X_yl (Zau rfl rfl rfl (by omega) (by omega) (by first|assumption|exact ⟨_,_,rfl⟩)) rfl rfl ?_|refine X_yl (Zbk rfl rfl rfl (w64 (by omega) (by omega))) rfl rfl ?_|refine X_yl (Zdn rfl rfl rfl (w64 (by omega) (by omega))) rfl rfl ?_|refine X_yl (Zfi rfl rfl rfl (w64 (by omega) (by omega))) rfl rfl ?_|refine X_yl (Zf5 rfl rfl) rfl rfl ?_|refine X_yl (Zd2 rfl rfl rfl) rfl rfl ?_|refine X_yl (Zj6 rfl rfl rfl (by omega)) rfl rfl ?_|refine Zqk rfl rfl rfl rfl hS (by omega) (fun _ hS => ?_))|(refine C_id ?_;first|refine Zak ?_|refine Zaa ?_|refine Zaq ?_|refine Zaw ?_|refine Zam rfl ?_)|(refine E_id ?_;first|refine Zae ?_|refine Zbf ?_))
  refine Zbu (i + 1) ⟨rfl,rfl,rfl,rfl,rfl,rfl,rfl,trivial⟩ ⟨by omega,?_⟩ (by omega)
  simp only [mkTo,mkAt]
  rw [← hLe]
  rw [show 0 + (7 - (i : Int)).toNat * 1 = 7 - i by omega,show (8 * (i : Int)).toNat = 8 * i by omega] at hS
  exact hS
 ·obtain rfl : i = 8 := by omega
  repeat (first|(refine G_id ?_;first|refine Zah ?_|refine Zab rfl rfl ?_)|(refine X_id ?_;first|refine X_yl (Zad rfl rfl) rfl rfl ?_|refine X_yl (Za7 rfl rfl rfl (by omega)) rfl rfl ?_|refine X_yl (Zcq rfl rfl) rfl rfl ?_|refine Za6 rfl rfl rfl rfl rfl rfl rfl rfl hS (fun _ _ hS _ => ?_))|(refine C_id ?_;first|refine Zak ?_|refine Zaa ?_|refine Zb0 ?_|refine Zaj rfl ?_)|(refine E_id ?_;first|refine Zae ?_|refine Zav ?_|refine Zaz ?_))
  rename_i s3 w1 _
  have e32 : ((ah.length : Nat) : Int) = 32 := by omega
  have hB : Bss w1 noF (some ⟨s3,0,none⟩) [⟨some ⟨b3,0,none⟩,32,ah⟩,⟨some ⟨p,0,none⟩,8,L⟩,⟨a,c,b⟩] := ⟨(show Rd w1 (row (some ⟨s3,0,none⟩) _) by simpa [Bs.val,hah,hL] using hS.ownRd (a := some ⟨s3,0,none⟩)).ro,fun x hx => by
   simp only [List.mem_cons,List.not_mem_nil,or_false] at hx
   rcases hx with rfl | rfl | rfl
   ·exact (Zld (hS.rd (r := pts b3 (.cells (bv ah).toArray 23)) (by simp))).ro
   ·exact (Zld (hS.rd (r := pts p (.cells (bv L).toArray 5)) (by simp))).ro
   ·exact (hb.rd hS).ro⟩
  have hn : (Zcv (Zbs [⟨some ⟨b3,0,none⟩,32,ah⟩,⟨some ⟨p,0,none⟩,8,L⟩,⟨a,c,b⟩])).length < 1152921504606846976 := by
   simp [Zbs,Zcv,Zc7,hah,hL]; omega
  have hl32 : LenO (bv (digest rd fs (Zbs [⟨some ⟨b3,0,none⟩,32,ah⟩,⟨some ⟨p,0,none⟩,8,L⟩,⟨a,c,b⟩]))) 32 := ⟨by rw [Za4]; exact Zb2 _ _ _⟩
  refine Zbm _ rfl rfl rfl rfl rfl hS (Zlv _ 3 _ rd fs _ hn (by simp) (hG.mono fun r hr => (hr.rd hS).ro) hB) ?_
  rintro _ w rfl hS
  clear hB
  repeat (first|(refine G_id ?_;first|refine Zah ?_|refine Zab rfl rfl ?_)|(refine X_id ?_;first|refine Za1 rfl rfl rfl rfl hS (fun _ hS _ => ?_))|(refine C_id ?_;first|refine Za2 ?_)|(refine E_id ?_;first|refine Zae ?_|refine Zax rfl (by first|exact Zap rfl|exact Zay rfl (Zba hS.cell)|exact Zay rfl (Za9 hS.cellsN)) (Ret.mk ?_)))
  refine ⟨?_,hS.drops⟩
  unfold be8
  rw [← hLe]
  rfl
end Cr
namespace Cr
open Go Go.Proofs
set_option maxRecDepth 100000
set_option maxHeartbeats 4000000

theorem Zj2 {F : Fence} {n : Nat} {P : Program} {f : FuncId} {args : Array Value} {w : World} {R R' : Value → World → Prop} (h : CallsIn F n P f args w (Ret R)) (hm : ∀ v w,R v w → R' v w) : CallsIn F n P f args w (Ret R') := by
 obtain ⟨h1,h2⟩ := h
 refine ⟨h1,fun cs hr => ?_⟩
 obtain ⟨e,w3,fr,⟨v,he,hR⟩,hrest⟩ := h2 cs hr
 exact ⟨e,w3,fr,⟨v,he,hm _ _ hR⟩,hrest⟩
theorem Fr.round2 {σ : Env} {N : Nat} {tm : Array Value} (hsz : tm.size = N) (h : ∀ n v,look σ n = some v → tm[n]? = some v) (l : Nat) {a b : Nat} (x y : Value) (ha : a < N) (hb : b < N) :
  Fr ((b,y) :: (a,x) :: σ) N ⟨[],some l⟩ { tmps := (#[a,b].zip #[x,y]).foldl (fun tmps (t,v) => tmps.setIfInBounds t v) tm,defers := [] } := by
 have := ((Fr.round hsz h l).put ha x).put hb y
 simpa [Act.put] using this
theorem Zhe {T : TypeId} {e c : Nat} {a : Option Addr} {cs : List Value} : ∀ h,own T e a c cs h → row a cs h := fun h hh => by
 obtain ⟨h1,_,⟨rfl,h0⟩ | ⟨b,cells,rfl,rfl,hc,ht⟩⟩ := hh
 ·exact .inl ⟨by rw [Nat.zero_mul] at h1; exact List.length_eq_zero_iff.1 (by omega),h0⟩
 ·refine .inr ⟨b,0,cells,T,(0,0),rfl,rfl,fun i v hv => ?_⟩
  rw [← ht,List.getElem?_take] at hv
  split at hv
  ·simpa using hv
  ·cases hv
theorem Zp1 {α : Type} {l : List α} {k : Nat} {x : α} (hk : k ≠ 0) (hx : l[k - 1]? = some x) : l.drop (k - 1) = x :: l.drop k := by
 obtain ⟨h,rfl⟩ := List.getElem?_eq_some_iff.1 hx
 have := List.drop_eq_getElem_cons h
 rwa [show k - 1 + 1 = k by omega] at this
theorem find_none {α : Type} {l : List α} {k : Nat} {x : α} {f : α → Bool} (hk : k ≠ 0) (hx : l[k - 1]? = some x) (hf : (l.drop k).reverse.find? f = none) (h : f x = false) : (l.drop (k - 1)).reverse.find? f = none := by
 rw [Zp1 hk hx,List.reverse_cons,List.find?_append,hf]
 simp [h]
theorem find_last {α : Type} {l : List α} {k : Nat} {x : α} {f : α → Bool} (hk : k ≠ 0) (hx : l[k - 1]? = some x) (hf : (l.drop k).reverse.find? f = none) (h : f x = true) : l.reverse.find? f = some x := by
 have e : l = l.take (k - 1) ++ (x :: l.drop k) := by rw [← Zp1 hk hx]; simp
 rw [e,List.reverse_append,List.reverse_cons,List.find?_append,List.find?_append,hf]
 simp [h]
theorem Rd.slide {w : World} {b o : Nat} {cs : List Value} (H : Rd w (row (some ⟨b,o,none⟩) cs)) (k n : Nat) : Rd w (row (some ⟨b,o + k,none⟩) ((cs.drop k).take n)) :=
 H.mono fun h hr => by
  rcases hr with ⟨rfl,h0⟩ | ⟨b',off,cells,T,fz,hb,rfl,hc⟩
  ·exact ⟨h,.inl ⟨by simp,h0⟩,fun _ _ e => e⟩
  ·obtain ⟨rfl,rfl⟩ : b = b' ∧ o = off := by simpa using hb
   refine ⟨_,.inr ⟨b,o + k,cells,T,fz,rfl,rfl,fun i v hv => ?_⟩,fun _ _ e => e⟩
   rw [List.getElem?_take] at hv
   split at hv
   ·rw [List.getElem?_drop] at hv
    have := hc _ _ hv
    rwa [Nat.add_assoc]
   ·cases hv
theorem read_ (p : Nat) (D : DiskM) (no : Int) (W : World) (hd : Rd W (disk p D)) (hline : D.line.length < 1073741824) :
  Calls Tryz.prog 160 #[.pointer (some ⟨p,0,none⟩),.int .i64 no] W (Ret fun v w => ∃ a c,v = .tuple #[.slice a (D.read no).2.length c,.int .i64 (D.read no).1] ∧ (D.read no).2.length ≤ c ∧ St W noF [bytes a (D.read no).2] w) := by
 have hS := St.start W
 obtain ⟨hok,al,cl,ai,ci,c1,c2,hcd,hrl,hri⟩ := hd.disk
 have hdo := hd.ro
 cases hoff : D.off
 ·cases hin : Zeq D no
  ·refine Zas Tryz.func160 rfl Tryz.ntmps160 rfl ?_
   repeat (first|(refine G_id ?_;first|refine Zah ?_|refine Zab rfl rfl ?_)|(refine X_id ?_;first|(refine Zan 112 rfl rfl rfl rfl rfl (on_b p D _ hoff _ (hdo.rd hS)) ?_;rintro _ _ ⟨rfl,rfl⟩)|(refine Zan 200 rfl rfl rfl rfl rfl (has_b p D no _ hin _ (hdo.rd hS)) ?_;rintro _ _ ⟨rfl,rfl⟩)|refine X_yl (Zad rfl rfl) rfl rfl ?_|refine X_yl (Zac rfl rfl) rfl rfl ?_|refine X_yl (Zbl rfl rfl) rfl rfl ?_|refine X_yl (Zb8 rfl rfl) rfl rfl ?_|refine X_yl (Zao rfl rfl hS.cell) rfl rfl ?_|refine Za1 rfl rfl rfl rfl hS (fun _ hS _ => ?_)|refine Zeg rfl rfl rfl rfl hS (fun _ _ hS _ => ?_)|refine Zbe rfl rfl rfl hS (fun _ _ hS _ => ?_))|(refine C_id ?_;first|refine Zak ?_|refine Zaa ?_|refine Zaq ?_|refine Za2 ?_|refine Zam rfl ?_|refine Zaj rfl ?_)|(refine E_id ?_;first|refine Zae ?_|refine Zat ?_|refine Zbh ?_|refine Zdb rfl (by first|exact Zap rfl|exact Zay rfl (Zba hS.cell)|exact Zay rfl (Za9 hS.cellsN)) (by first|exact Zap rfl|exact Zay rfl (Zba hS.cell)|exact Zay rfl (Za9 hS.cellsN)) (Ret.mk ?_)))
   rw [show D.read no = (1,[]) by simp [DiskM.read,hoff,hin]]
   exact ⟨none,0,rfl,Nat.le_refl _,hS.drops.row_none⟩
  ·refine Zas Tryz.func160 rfl Tryz.ntmps160 rfl ?_
   repeat (first|(refine G_id ?_;first|refine Zah ?_|refine Zab rfl rfl ?_)|(refine X_id ?_;first|(refine Zan 112 rfl rfl rfl rfl rfl (on_b p D _ hoff _ (hdo.rd hS)) ?_;rintro _ _ ⟨rfl,rfl⟩)|(refine Zan 200 rfl rfl rfl rfl rfl (has_b p D no _ hin _ (hdo.rd hS)) ?_;rintro _ _ ⟨rfl,rfl⟩)|refine X_yl (Zad rfl rfl) rfl rfl ?_|refine X_yl (Zac rfl rfl) rfl rfl ?_|refine X_yl (Zai rfl rfl) rfl rfl ?_|refine X_yl (Zaf rfl rfl rfl) rfl rfl ?_|refine X_yl (Zbl rfl rfl) rfl rfl ?_|refine X_yl (Zao rfl rfl hS.cell) rfl rfl ?_|refine Zeg rfl rfl rfl rfl hS (fun _ _ hS _ => ?_)|refine Zbe rfl rfl rfl hS (fun _ _ hS _ => ?_))|(refine C_id ?_;first|refine Zak ?_|refine Zaa ?_|refine Zaq ?_|refine Zaw ?_|refine Zaj rfl ?_)|(refine E_id ?_;first|refine Zae ?_|refine Zbf ?_))
   have hcd1 := hS.kept hcd
   repeat (first|(refine G_id ?_;first|refine Zab rfl rfl ?_)|(refine X_id ?_;first|refine X_yl (Zao rfl rfl (Zal (by assumption))) rfl rfl ?_))
   obtain ⟨_,hc,hr,hw,hbk⟩ := hS.call []
   refine Zan _ rfl rfl rfl rfl rfl (Zrr _ _ _ _) ?_
   rintro _ w ⟨bx,rfl,hS⟩
   replace hS := hbk hS.more
   clear hc hr hw hbk
   repeat (first|(refine G_id ?_;first|refine Zah ?_)|(refine C_id ?_;first|refine Zaq ?_)|(refine E_id ?_;first|refine Zae ?_))
   rename_i b3 _ _ _ b4 _ _ _ b5 _ _ _ _
   refine Zmk (first := []) (captured := [.pointer (some ⟨bx,0,none⟩)])
    (fun l r j w => (j = none ∧ D.line.reverse.find? (fun x => x.1 == no) = none ∧ ∃ lo,St W noF [pts l lo,pts r (.deferred (some [])),pts bx (.cells #[.slice ai D.line.length ci] 218),pts b5 (.cells #[.int .i64 0] 43),pts b4 (.cells #[.slice none 0 0] 36),pts b3 (.cells #[.int .i64 no] 3)] w) ∨
     (j = some .ret ∧ ∃ x tb,D.line.reverse.find? (fun x => x.1 == no) = some x ∧ ∃ lo,St W noF [pts l lo,pts r (.deferred (some [])),pts tb (.cells (.int .i64 x.1 :: bv x.2).toArray 334),pts b5 (.cells #[.int .i64 0] 43),pts b4 (.cells #[.slice (some ⟨tb,1,none⟩) 64 64] 36)] w))
    rfl rfl hS ?_ ?_ ?_
   ·intro A B hA hB fn tm l r w1 htm hlook hS
    have hln : ∀ x ∈ D.line,(Value.int .i64 x.1 :: bv x.2).length = 65 := fun x hx => by simp [(hok.line64 x hx).1]
    have hll := Zeu fun x hx => (hok.line64 x hx).1
    have hW := fun (w : World) rs (h : St W noF rs w) => hri.ro.rd h
    refine Zj2 (Zkm l bx D.line.length ci ai (Zch D.line) w1 218 (by omega) hll
     (fun k w => k ≤ D.line.length ∧ (D.line.drop k).reverse.find? (fun x => x.1 == no) = none ∧ St W noF [pts l (.loop (recd fn tm #[22,23] A B r .ready none)),pts r (.deferred (some [])),pts bx (.cells #[.slice ai D.line.length ci] 218),pts b5 (.cells #[.int .i64 0] 43),pts b4 (.cells #[.slice none 0 0] 36),pts b3 (.cells #[.int .i64 no] 3)] w)
     (fun w => ∃ x tb,D.line.reverse.find? (fun x => x.1 == no) = some x ∧ St W noF [pts l (.loop (recd fn tm #[22,23] A B r .done (some .ret))),pts r (.deferred (some [])),pts tb (.cells (.int .i64 x.1 :: bv x.2).toArray 334),pts b5 (.cells #[.int .i64 0] 43),pts b4 (.cells #[.slice (some ⟨tb,1,none⟩) 64 64] 36)] w)
     (fun k w h => h.2.2.has) (fun k w h => hW _ _ h.2.2) ?_ ⟨Nat.le_refl _,by rw [List.drop_length]; rfl,hS⟩) ?_
    ·rintro k w ⟨hkl,hf,hS⟩
     refine ⟨_,rfl,hS.has,fun hk => ?_⟩
     obtain ⟨x,hx⟩ : ∃ x,D.line[k - 1]? = some x := by
      have : k - 1 < D.line.length := by omega
      exact ⟨_,List.getElem?_eq_getElem this⟩
     have hxm := List.mem_of_getElem? hx
     have hlen : LenIs (bv x.2) 64 := ⟨by simp [(hok.line64 x hxm).1]⟩
     have hagg : ((Zch D.line).drop ((k - 1) * 65)).take 65 = .int .i64 x.1 :: bv x.2 := Zdy hln hx
     rw [hagg]
     show RoundIn Fence.wide 0 Tryz.prog l fn ((#[22,23].zip _).foldl _ tm) A B w _
     refine round_C (Fr.round2 htm hlook l (.int .i64 ((k - 1 : Nat) : Int)) (.agg (.int .i64 x.1 :: bv x.2).toArray) (by decide) (by decide)) ?_
     refine C_eq hA ?_
     by_cases hno : x.1 = no
     ·repeat (first|(refine G_id ?_;first|refine Zah ?_|refine Zab rfl rfl ?_)|(refine X_id ?_;first|refine Za1 rfl rfl rfl rfl hS (fun _ hS _ => ?_)|refine Zbe rfl rfl rfl hS (fun _ _ hS _ => ?_))|(refine C_id ?_;first|refine Zaa ?_))
      refine Zrz hS.has (fun w hset => ?_)
      replace hS := hS.upd hset
      refine C_eq hB ?_
      repeat (first|(refine G_id ?_;first|refine Zah ?_|refine Zab rfl rfl ?_)|(refine X_id ?_;first|refine X_yl (Zaf rfl rfl rfl) rfl rfl ?_|refine X_yl (Zej rfl rfl rfl (by omega)) rfl rfl ?_|refine X_yl (Zcq rfl rfl) rfl rfl ?_|refine X_yl (Zao rfl rfl hS.cell) rfl rfl ?_|refine Za1 rfl rfl rfl rfl hS (fun _ hS _ => ?_))|(refine C_id ?_;first|refine Zak ?_|refine Zaa ?_|refine Zaq ?_|refine Za2 ?_|refine Zam rfl ?_)|(refine E_id ?_;first|refine Zae ?_|refine Zbh ?_))
      refine Zry hS.has (fun w hset => ⟨_,rfl,.inr ⟨rfl,x,_,?_,(hS.upd hset).pick [1,1,0,1,1]⟩⟩)
      exact find_last hk hx hf (by simpa using hno)
     ·repeat (first|(refine G_id ?_;first|refine Zah ?_|refine Zab rfl rfl ?_)|(refine X_id ?_;first|refine Za1 rfl rfl rfl rfl hS (fun _ hS _ => ?_)|refine Zbe rfl rfl rfl hS (fun _ _ hS _ => ?_))|(refine C_id ?_;first|refine Zaa ?_))
      refine Zrz hS.has (fun w hset => ?_)
      replace hS := hS.upd hset
      refine C_eq hB ?_
      repeat (first|(refine G_id ?_;first|refine Zah ?_|refine Zab rfl rfl ?_)|(refine X_id ?_;first|refine X_yl (Zaf rfl rfl rfl) rfl rfl ?_|refine X_yl (Zd9 rfl rfl rfl (by omega)) rfl rfl ?_|refine X_yl (Zao rfl rfl hS.cell) rfl rfl ?_)|(refine C_id ?_;first|refine Zak ?_|refine Zaa ?_|refine Zaq ?_|refine Zaw ?_|refine Zaj rfl ?_)|(refine E_id ?_;first|refine Zae ?_|refine Zbf ?_))
      refine Zqp hS.has (fun w hset => ⟨_,rfl,.inl ⟨rfl,by omega,?_,(hS.upd hset).pick [1,1,1,1,1,1]⟩⟩)
      exact find_none hk hx hf (by simpa using hno)
    ·rintro _ w3 (⟨_,hf,hS⟩ | ⟨x,tb,hf,hS⟩)
     ·exact ⟨_,_,by simp,hS.has,fun w4 hset => .inl ⟨rfl,by simpa using hf,_,hS.upd hset⟩⟩
     ·exact ⟨_,_,by simp,hS.has,fun w4 hset => .inr ⟨rfl,x,tb,hf,_,hS.upd hset⟩⟩
   ·intro l r w4 hJ
    rcases hJ with ⟨_,hf,lo,hS⟩ | ⟨h,_⟩
    ·repeat (first|(refine C_id ?_;first|refine Zak ?_)|(refine E_id ?_;first|refine Zox rfl ?_|refine Zbf ?_))
     have hin2 : 0 ≤ no ∧ no < D.laid.length := by simpa [Zeq] using hin
     have hin0 := hin2.1
     have hin1 := hin2.2
     obtain ⟨lb,lo,rfl⟩ := hrl.base (by intro e; have h := Zev hok.laid64; rw [e] at h; simp at h; omega)
     refine Zci (.s 0 (.s 1 (.s 2 (.s 3 (.s 4 (.s 5 (.s 6 (.h 7 (.h 8 (.h 9 .nil .no) .no) .no)))))))) mixed (by kernel_rfl) rfl ?_
     have hS := hS.drew
     have hcd3 := hS.kept hcd
     repeat (first|(refine Zbj ?_;first|refine Zag rfl rfl (fun _ => Zad rfl rfl) rfl rfl ?_|refine Zag rfl rfl (fun _ => Zai rfl rfl) rfl rfl ?_|refine Zag rfl rfl (fun _ => Zaf rfl rfl rfl) rfl rfl ?_|refine Zag rfl rfl (fun _ => Zcq rfl rfl) rfl rfl ?_|refine Zag rfl rfl (fun _ => Zau rfl rfl rfl (by omega) (by omega) (by first|assumption|exact ⟨_,_,rfl⟩)) rfl rfl ?_|refine Zbi (fun w' => w'.cell? _ = some _) rfl rfl hS.cell (fun _ hc => Zao rfl rfl hc) rfl rfl ?_|refine Zbi (fun w' => w'.cell? _ = some _) rfl rfl (Zal (by assumption)) (fun _ hc => Zao rfl rfl hc) rfl rfl ?_|refine Za8 rfl rfl ?_))
     have hseg : ((Zck D.laid).drop (no.toNat * 64)).take 64 = bv (D.laid.getD no.toNat []) := by
      obtain ⟨s,hs⟩ : ∃ s,D.laid[no.toNat]? = some s := ⟨_,List.getElem?_eq_getElem (by omega)⟩
      rw [List.getD_eq_getElem?_getD,hs]
      exact Zdy (fun x hx => by simp [hok.laid64 x hx]) hs
     have hrs := (hrl.ro.rd hS).slide (no.toNat * 64) 64
     rw [hseg] at hrs
     have h64 : (D.laid.getD no.toNat []).length = 64 := by rw [← Za4,← hseg,List.length_take,List.length_drop,Zev hok.laid64]; omega
     obtain ⟨_,hc,hr,hw,hbk⟩ := hS.call []
     refine Zan _ rfl rfl rfl rfl rfl (clone_ _ 64 _ (D.laid.getD no.toNat []) _ hrs h64 (by omega)) ?_
     rintro _ w ⟨a',c',rfl,_,hcc,hS⟩
     replace hS := hbk hS.more
     clear hc hr hw hbk
     have hcd4 := hS.kept hcd
     refine And.intro (by repeat (first|exact trivial|refine And.intro (.inl (by decide +kernel)) ?_|refine And.intro (.inr (by first|exact hS.cell|exact Zal hcd4)) ?_)) ?_
     repeat (first|(refine X_id ?_;first|refine Za1 rfl rfl rfl rfl hS (fun _ hS _ => ?_))|(refine C_id ?_;first|refine Za2 ?_)|(refine E_id ?_;first|refine Zae ?_)|(refine Zbj ?_;first|refine Zbw ?_|refine Za8 rfl rfl ?_)|(refine Za5 ?_;first|refine And.intro (by repeat (first|exact trivial|refine And.intro (.inl (by decide +kernel)) ?_|refine And.intro (.inr (by first|assumption|exact hS.cell|exact Zal (by assumption)|exact hS.cellI (by omega)|exact hS.cellIP (by omega)|exact hS.cellsN|exact ((hr.rd hS).cellX (by omega) hx)|exact hS.cellB (by omega)|exact hS.cellBA (by omega)|exact ((hr.rd hS).cellF (by first|omega|(dsimp only;omega)) hx)|exact hS.cellO 0 (by omega)|exact hS.cellO 1 (by omega)|exact hS.cellIA (by omega)|exact Zal (hc.rd hS).pts|exact hS.cellO 4 (by omega)|exact hS.cellO 5 (by omega)|exact hS.cellO 6 (by omega)|exact hS.cellO 7 (by omega)|exact hS.cellO 8 (by omega)|exact hS.cellO 9 (by omega)|exact hS.cellO 10 (by omega)|exact hS.cellO 11 (by omega)|exact hS.cellO 12 (by omega)|exact hS.cellO 13 (by omega)|exact hS.cellO 2 (by omega)|exact hS.cellO 3 (by omega))) ?_)) ?_))
     refine E_mark (.inl rfl) hS.has (fun w hset => ?_)
     replace hS := hS.upd hset
     repeat (first|(refine E_id ?_;first|refine Zdb rfl (by first|exact Zap rfl|exact Zay rfl (Zba hS.cell)|exact Zay rfl (Za9 hS.cellsN)) (by first|exact Zap rfl|exact Zay rfl (Zba hS.cell)|exact Zay rfl (Za9 hS.cellsN)) (Ret.mk ?_)))
     rw [show D.read no = (0,D.laid.getD no.toNat []) by simp only [DiskM.read,hoff,hin,DiskM.find,hf]; rfl]
     refine ⟨a',c',by rw [h64],by rw [h64]; exact hcc,(hS.pick [0]).head fun h hh => ?_⟩
     exact Zhe h hh
    ·cases h
   ·intro l r c w4 hJ
    rcases hJ with ⟨h,_⟩ | ⟨h,x,tb,hf,lo,hS⟩
    ·cases h
    ·cases h
     repeat (first|(refine C_id ?_;first|refine Za2 ?_)|(refine E_id ?_;first|refine Zat ?_|refine Zbh ?_))
     refine E_mark (.inl rfl) hS.has (fun w hset => ?_)
     replace hS := hS.upd hset
     repeat (first|(refine E_id ?_;first|refine Zdb rfl (by first|exact Zap rfl|exact Zay rfl (Zba hS.cell)|exact Zay rfl (Za9 hS.cellsN)) (by first|exact Zap rfl|exact Zay rfl (Zba hS.cell)|exact Zay rfl (Za9 hS.cellsN)) (Ret.mk ?_)))
     have hx64 : x.2.length = 64 := (hok.line64 x (by simpa using List.mem_of_find?_eq_some hf)).1
     rw [show D.read no = (0,x.2) by simp only [DiskM.read,hoff,hin,DiskM.find,hf]; rfl]
     refine ⟨some ⟨tb,1,none⟩,64,by rw [hx64],by rw [hx64]; exact Nat.le_refl _,(hS.pick [2]).head (Zqz (n := 64) ?_)⟩
     simp [← hx64,← Za4]
 ·refine Zas Tryz.func160 rfl Tryz.ntmps160 rfl ?_
  repeat (first|(refine G_id ?_;first|refine Zah ?_|refine Zab rfl rfl ?_)|(refine X_id ?_;first|(refine Zan 112 rfl rfl rfl rfl rfl (on_b p D _ hoff _ (hdo.rd hS)) ?_;rintro _ _ ⟨rfl,rfl⟩)|refine X_yl (Zad rfl rfl) rfl rfl ?_|refine X_yl (Zac rfl rfl) rfl rfl ?_|refine X_yl (Zb8 rfl rfl) rfl rfl ?_|refine Za1 rfl rfl rfl rfl hS (fun _ hS _ => ?_)|refine Zeg rfl rfl rfl rfl hS (fun _ _ hS _ => ?_)|refine Zbe rfl rfl rfl hS (fun _ _ hS _ => ?_))|(refine C_id ?_;first|refine Zak ?_|refine Zaa ?_|refine Zaq ?_|refine Za2 ?_|refine Zam rfl ?_)|(refine E_id ?_;first|refine Zae ?_|refine Zat ?_|refine Zbh ?_|refine Zdb rfl (by first|exact Zap rfl|exact Zay rfl (Zba hS.cell)|exact Zay rfl (Za9 hS.cellsN)) (by first|exact Zap rfl|exact Zay rfl (Zba hS.cell)|exact Zay rfl (Za9 hS.cellsN)) (Ret.mk ?_)))
  rw [show D.read no = (9,[]) by simp [DiskM.read,hoff]]
  exact ⟨none,0,rfl,Nat.le_refl _,hS.drops.row_none⟩
end Cr
namespace Cr
open Go Go.Proofs
set_option maxRecDepth 100000
set_option maxHeartbeats 4000000
attribute [local irreducible] Calls

def Zec (l : List UInt8) : List UInt8 := (l ++ List.replicate 64 0).take 64
theorem Zc5 (l : List UInt8) : (Zec l).length = 64 := by simp [Zec]
theorem own_part {T e c : Nat} {a : Option Addr} {cs cs' : List Value} (n : Nat) (h : cs.take n = cs') : ∀ g,own T e a c cs g → row a cs' g := fun g hg => by
 have := Zhe g hg
 subst h
 rcases this with ⟨rfl,h0⟩ | ⟨b,off,cells,T',fz,hb,hp,hc⟩
 ·exact .inl ⟨by simp,h0⟩
 ·refine .inr ⟨b,off,cells,T',fz,hb,hp,fun i v hv => ?_⟩
  rw [List.getElem?_take] at hv
  split at hv
  ·exact hc i v hv
  ·cases hv
theorem full_ (ab ao c : Nat) (l : List Bs) (W : World) (hB : Bss W noF (some ⟨ab,ao,none⟩) l) (h2 : 2 ≤ l.length) (hc : l.length ≤ c) (hl : l.length ≤ 1099511627776) (hn : (Zbd l).length ≤ 1099511627776) :
  Calls Tryz.prog 208 #[.slice (some ⟨ab,ao,none⟩) l.length c] W (Ret fun v w => ∃ p k,v = .slice (some ⟨p,0,none⟩) 64 k ∧ St W noF [bytes (some ⟨p,0,none⟩) (Zec (Zbd l))] w) := by
 have hS := St.start W
 refine Zas Tryz.func208 rfl Tryz.ntmps208 rfl ?_
 repeat (first|(refine G_id ?_;first|refine Zah ?_|refine Zab rfl rfl ?_)|(refine X_id ?_;first|refine X_yl (Zad rfl rfl) rfl rfl ?_|refine X_yl (Zac rfl rfl) rfl rfl ?_)|(refine C_id ?_;first|refine Zak ?_|refine Zaa ?_)|(refine E_id ?_;first|refine Zae ?_))
 refine Zan _ rfl rfl rfl rfl rfl (join_ ab ao c l _ hB h2 hc hl hn) ?_
 rintro _ w ⟨p,rfl,hS'⟩
 replace hS := hS.plus hS'
 clear hS'
 repeat (first|(refine G_id ?_;first|refine Zab rfl rfl ?_))
 refine Zmr (m := 64) rfl rfl rfl rfl rfl rfl hS (hS.rd (List.mem_cons_self ..)) (by simp) (by omega) (by omega) (by omega) (by simp only [maxLen]; omega) (fun b k w hS hk => ?_)
 repeat (first|(refine G_id ?_;first|refine Zab rfl rfl ?_))
 refine X_yl (Zcw (l := 0) (h := 64) rfl rfl rfl rfl (.inr ⟨_,_,rfl,by omega,by omega,by omega⟩) (.inl ⟨rfl,rfl⟩)) rfl rfl ?_
 rw [sub_zero]
 repeat (first|(refine G_id ?_;first|refine Zah ?_|refine Zab rfl rfl ?_)|(refine X_id ?_;first|refine X_yl (Zac rfl rfl) rfl rfl ?_)|(refine C_id ?_;first|refine Za2 ?_)|(refine E_id ?_;first|refine Zae ?_|refine Zax rfl (Zap rfl) (Ret.mk ?_)))
 refine ⟨b,k,rfl,(hS.pick [0]).head fun h hh => own_part 64 ?_ h hh⟩
 unfold Zec
 rw [Zg5,← Zf3,← Zl7]
theorem Bss.ofRd {w : World} {a : Option Addr} {l : List Bs} (hr : Rd w (Cr.row a (l.map Bs.val))) (hall : ∀ x ∈ l,Rd w (bytes x.a x.s)) : Bss w noF a l := ⟨hr.ro,fun x hx => (hall x hx).ro⟩
theorem Rd.ptsB {w : World} {b : Nat} {s : List UInt8} {T : TypeId} (h : Rd w (Cr.pts b (.cells (bv s).toArray T))) : Rd w (bytes (some ⟨b,0,none⟩) s) := h.mono fun g hg => ⟨g,Zn5 g hg,fun _ _ e => e⟩

/-! ### front -/
def Zfz (rd fs : List Int) (n : Int) : List UInt8 := Zec (bigB n 8 ++ digest rd fs [bigB n 8])
theorem Ziq (rd fs : List Int) (n : Int) : (Zfz rd fs n).length = 64 := Zc5 _
theorem front_ (n : Int) (rd fs : List Int) (W : World) (hG : Gl W noF rd fs) :
  Calls Tryz.prog 204 #[.int .i64 n] W (Ret fun v w => ∃ p k,v = .slice (some ⟨p,0,none⟩) 64 k ∧ St W noF [bytes (some ⟨p,0,none⟩) (Zfz rd fs n)] w) := by
 have hS := St.start W
 refine Zas Tryz.func204 rfl Tryz.ntmps204 rfl ?_
 repeat (first|(refine G_id ?_;first|refine Zah ?_|refine Zab rfl rfl ?_)|(refine X_id ?_;first|refine X_yl (Zad rfl rfl) rfl rfl ?_|refine X_yl (Zac rfl rfl) rfl rfl ?_)|(refine C_id ?_;first|refine Zak ?_|refine Zaa ?_)|(refine E_id ?_;first|refine Zae ?_))
 refine Zan _ rfl rfl rfl rfl rfl (big_ n 8 _ (by omega)) ?_
 rintro _ w ⟨p,rfl,hS'⟩
 replace hS := hS.plus hS'
 clear hS'
 repeat (first|(refine G_id ?_;first|refine Zah ?_|refine Zab rfl rfl ?_)|(refine X_id ?_;first|refine X_yl (Zad rfl rfl) rfl rfl ?_|refine X_yl (Zac rfl rfl) rfl rfl ?_|refine Za6 rfl rfl rfl rfl rfl rfl rfl rfl hS (fun _ _ hS _ => ?_))|(refine C_id ?_;first|refine Zak ?_|refine Zaa ?_)|(refine E_id ?_;first|refine Zae ?_))
 rename_i q wq _
 have hB := Bss.ofRd (w := wq) (a := some ⟨q,0,none⟩) (l := [⟨some ⟨p,0,none⟩,8,bigB n 8⟩]) (by simpa [Bs.val,Za0] using (hS.rd (List.mem_cons_self ..)).own_row) (fun x hx => by
  simp only [List.mem_singleton] at hx
  subst hx
  exact (hS.rd (List.mem_cons_of_mem _ (List.mem_cons_self ..))).ptsB)
 have hfl : (Zcv (Zbs [⟨some ⟨p,0,none⟩,8,bigB n 8⟩])).length < 1152921504606846976 := by simp [Zcv,Zbs,Zc7,Za0]
 have hl32 : LenO (bv (digest rd fs (Zbs [⟨some ⟨p,0,none⟩,8,bigB n 8⟩]))) 32 := ⟨by rw [Za4]; exact Zb2 _ _ _⟩
 refine Zbm _ rfl rfl rfl rfl rfl hS (Zlv _ 1 _ rd fs _ hfl (by simp) (hG.mono fun r hr => (hr.rd hS).ro) hB) ?_
 rintro _ w rfl hS
 clear hB hfl
 repeat (first|(refine G_id ?_;first|refine Zah ?_|refine Zab rfl rfl ?_)|(refine X_id ?_;first|refine X_yl (Zad rfl rfl) rfl rfl ?_|refine X_yl (Zcq rfl rfl) rfl rfl ?_|refine Za1 rfl rfl rfl rfl hS (fun _ hS _ => ?_)|refine Zbe rfl rfl rfl hS (fun _ _ hS _ => ?_)|refine Za6 rfl rfl rfl rfl rfl rfl rfl rfl hS (fun _ _ hS _ => ?_))|(refine C_id ?_;first|refine Zak ?_|refine Zaa ?_)|(refine E_id ?_;first|refine Zae ?_))
 rename_i b4 _ _ _ _ _ _ b6 w6 _
 have hB := Bss.ofRd (w := w6) (a := some ⟨b6,0,none⟩) (l := [⟨some ⟨p,0,none⟩,8,bigB n 8⟩,⟨some ⟨b4,0,none⟩,32,digest rd fs [bigB n 8]⟩]) (by simpa [Bs.val,Za0,Zb2] using (hS.rd (List.mem_cons_self ..)).own_row) (fun x hx => by
  simp only [List.mem_cons,List.not_mem_nil,or_false] at hx
  rcases hx with rfl | rfl
  ·exact (hS.rd (by simp)).ptsB (T := 5)
  ·exact (hS.rd (List.mem_cons_of_mem _ (List.mem_cons_self ..))).ptsB)
 refine Zan _ rfl rfl rfl rfl rfl (full_ b6 0 2 _ _ hB (by simp) (by simp) (by simp) (by simp [Zbd,Za0,Zb2])) ?_
 rintro _ w ⟨r,k,rfl,hS'⟩
 replace hS := hS.plus hS'
 clear hS' hB
 repeat (first|(refine G_id ?_;first|refine Zah ?_|refine Zab rfl rfl ?_)|(refine X_id ?_;first|refine X_yl (Zac rfl rfl) rfl rfl ?_)|(refine C_id ?_;first|refine Za2 ?_)|(refine E_id ?_;first|refine Zae ?_|refine Zax rfl (Zap rfl) (Ret.mk ?_)))
 refine ⟨r,k,rfl,?_⟩
 have := hS.pick [0]
 unfold Zfz
 simpa [Zbd] using this

/-! ### note -/
def Zil (number at_ count no : Int) (d : List UInt8) : List UInt8 := Zec (bigB number 8 ++ (bigB at_ 4 ++ (bigB count 4 ++ (bigB no 4 ++ d))))
theorem Zgz (number at_ count no : Int) (d : List UInt8) : (Zil number at_ count no d).length = 64 := Zc5 _
theorem note_ (number at_ count no : Int) (d : List UInt8) (hd : d.length = 32) (W : World) :
  Calls Tryz.prog 171 #[.int .i64 number,.int .i64 at_,.int .i64 count,.int .i64 no,.agg (bv d).toArray] W (Ret fun v w => ∃ p k,v = .slice (some ⟨p,0,none⟩) 64 k ∧ St W noF [bytes (some ⟨p,0,none⟩) (Zil number at_ count no d)] w) := by
 have hS := St.start W
 have hl32 : LenO (bv d) 32 := ⟨by rw [Za4]; exact hd⟩
 refine Zas Tryz.func171 rfl Tryz.ntmps171 rfl ?_
 repeat (first|(refine G_id ?_;first|refine Zah ?_|refine Zab rfl rfl ?_)|(refine X_id ?_;first|refine X_yl (Zac rfl rfl) rfl rfl ?_|refine Zeg rfl rfl rfl rfl hS (fun _ _ hS _ => ?_))|(refine C_id ?_;first|refine Zak ?_|refine Zaa ?_)|(refine E_id ?_;first|refine Zae ?_))
 rename_i bd _ _
 refine Zci (.s 0 (.s 2 (.s 4 (.s 6 (.s 8 (.h 1 (.h 3 (.h 5 (.h 7 (.h 9 (.h 10 (.s 11 .nil) .no) .no) .no) .no) .no) .no)))))) mixed (by kernel_rfl) rfl ?_
 have hS := hS.drew
 repeat (first|(refine Zbj ?_;first|refine Zag rfl rfl (fun _ => Zad rfl rfl) rfl rfl ?_|refine Zag rfl rfl (fun _ => Zcq rfl rfl) rfl rfl ?_|refine Za8 rfl rfl ?_))
 refine Zan _ rfl rfl rfl rfl rfl (big_ number 8 _ (by omega)) ?_
 rintro _ w ⟨p1,rfl,hS'⟩
 replace hS := hS.plus hS'
 clear hS'
 repeat (first|(refine Zbj ?_;first|refine Za8 rfl rfl ?_)|(refine Za5 ?_;first|refine And.intro (by repeat (first|exact trivial|refine And.intro (.inl (by decide +kernel)) ?_|refine And.intro (.inr (by first|assumption|exact hS.cell|exact Zal (by assumption)|exact hS.cellI (by omega)|exact hS.cellIP (by omega)|exact hS.cellsN|exact hS.cellB (by omega)|exact hS.cellBA (by omega)|exact hS.cellO 0 (by omega)|exact hS.cellO 1 (by omega)|exact hS.cellIA (by omega)|exact hS.cellO 4 (by omega)|exact hS.cellO 5 (by omega)|exact hS.cellO 6 (by omega)|exact hS.cellO 7 (by omega)|exact hS.cellO 8 (by omega)|exact hS.cellO 9 (by omega)|exact hS.cellO 10 (by omega)|exact hS.cellO 11 (by omega)|exact hS.cellO 12 (by omega)|exact hS.cellO 13 (by omega)|exact hS.cellO 2 (by omega)|exact hS.cellO 3 (by omega))) ?_)) ?_))
 refine Zan _ rfl rfl rfl rfl rfl (big_ at_ 4 _ (by omega)) ?_
 rintro _ w ⟨p2,rfl,hS'⟩
 replace hS := hS.plus hS'
 clear hS'
 repeat (first|(refine Zbj ?_;first|refine Za8 rfl rfl ?_)|(refine Za5 ?_;first|refine And.intro (by repeat (first|exact trivial|refine And.intro (.inl (by decide +kernel)) ?_|refine And.intro (.inr (by first|assumption|exact hS.cell|exact Zal (by assumption)|exact hS.cellI (by omega)|exact hS.cellIP (by omega)|exact hS.cellsN|exact hS.cellB (by omega)|exact hS.cellBA (by omega)|exact hS.cellO 0 (by omega)|exact hS.cellO 1 (by omega)|exact hS.cellIA (by omega)|exact hS.cellO 4 (by omega)|exact hS.cellO 5 (by omega)|exact hS.cellO 6 (by omega)|exact hS.cellO 7 (by omega)|exact hS.cellO 8 (by omega)|exact hS.cellO 9 (by omega)|exact hS.cellO 10 (by omega)|exact hS.cellO 11 (by omega)|exact hS.cellO 12 (by omega)|exact hS.cellO 13 (by omega)|exact hS.cellO 2 (by omega)|exact hS.cellO 3 (by omega))) ?_)) ?_))
 refine Zan _ rfl rfl rfl rfl rfl (big_ count 4 _ (by omega)) ?_
 rintro _ w ⟨p3,rfl,hS'⟩
 replace hS := hS.plus hS'
 clear hS'
 repeat (first|(refine Zbj ?_;first|refine Za8 rfl rfl ?_)|(refine Za5 ?_;first|refine And.intro (by repeat (first|exact trivial|refine And.intro (.inl (by decide +kernel)) ?_|refine And.intro (.inr (by first|assumption|exact hS.cell|exact Zal (by assumption)|exact hS.cellI (by omega)|exact hS.cellIP (by omega)|exact hS.cellsN|exact hS.cellB (by omega)|exact hS.cellBA (by omega)|exact hS.cellO 0 (by omega)|exact hS.cellO 1 (by omega)|exact hS.cellIA (by omega)|exact hS.cellO 4 (by omega)|exact hS.cellO 5 (by omega)|exact hS.cellO 6 (by omega)|exact hS.cellO 7 (by omega)|exact hS.cellO 8 (by omega)|exact hS.cellO 9 (by omega)|exact hS.cellO 10 (by omega)|exact hS.cellO 11 (by omega)|exact hS.cellO 12 (by omega)|exact hS.cellO 13 (by omega)|exact hS.cellO 2 (by omega)|exact hS.cellO 3 (by omega))) ?_)) ?_))
 refine Zan _ rfl rfl rfl rfl rfl (big_ no 4 _ (by omega)) ?_
 rintro _ w ⟨p4,rfl,hS'⟩
 replace hS := hS.plus hS'
 clear hS'
 repeat (first|(refine X_id ?_;first|refine Za6 rfl rfl rfl rfl rfl rfl rfl rfl hS (fun _ _ hS _ => ?_))|(refine Zbj ?_;first|refine Za8 rfl rfl ?_)|(refine Za5 ?_;first|refine And.intro (by repeat (first|exact trivial|refine And.intro (.inl (by decide +kernel)) ?_|refine And.intro (.inr (by first|assumption|exact hS.cell|exact Zal (by assumption)|exact hS.cellI (by omega)|exact hS.cellIP (by omega)|exact hS.cellsN|exact hS.cellB (by omega)|exact hS.cellBA (by omega)|exact hS.cellO 0 (by omega)|exact hS.cellO 1 (by omega)|exact hS.cellIA (by omega)|exact hS.cellO 4 (by omega)|exact hS.cellO 5 (by omega)|exact hS.cellO 6 (by omega)|exact hS.cellO 7 (by omega)|exact hS.cellO 8 (by omega)|exact hS.cellO 9 (by omega)|exact hS.cellO 10 (by omega)|exact hS.cellO 11 (by omega)|exact hS.cellO 12 (by omega)|exact hS.cellO 13 (by omega)|exact hS.cellO 2 (by omega)|exact hS.cellO 3 (by omega))) ?_)) ?_))
 rename_i b6 w6 _
 have hB := Bss.ofRd (w := w6) (a := some ⟨b6,0,none⟩) (l := [⟨some ⟨p1,0,none⟩,8,bigB number 8⟩,⟨some ⟨p2,0,none⟩,4,bigB at_ 4⟩,⟨some ⟨p3,0,none⟩,4,bigB count 4⟩,⟨some ⟨p4,0,none⟩,4,bigB no 4⟩,⟨some ⟨bd,0,none⟩,32,d⟩])
  (by simpa [Bs.val,Za0,hd] using (hS.rd (List.mem_cons_self ..)).own_row) (fun x hx => by
   simp only [List.mem_cons,List.not_mem_nil,or_false] at hx
   rcases hx with rfl | rfl | rfl | rfl | rfl
   ·exact (hS.rd (by simp)).ptsB (T := 5)
   ·exact (hS.rd (by simp)).ptsB (T := 5)
   ·exact (hS.rd (by simp)).ptsB (T := 5)
   ·exact (hS.rd (by simp)).ptsB (T := 5)
   ·exact (hS.rd (by simp)).ptsB (T := 23))
 refine Zan _ rfl rfl rfl rfl rfl (full_ b6 0 5 _ _ hB (by simp) (by simp) (by simp) (by simp [Zbd,Za0,hd])) ?_
 rintro _ w ⟨r,k,rfl,hS'⟩
 replace hS := hS.plus hS'
 clear hS' hB
 repeat (first|(refine C_id ?_;first|refine Za2 ?_)|(refine E_id ?_;first|refine Zae ?_|refine Zax rfl (Zap rfl) (Ret.mk ?_))|(refine Zbj ?_;first|refine Zbw ?_|refine Zag rfl rfl (fun _ => Zac rfl rfl) rfl rfl ?_)|(refine Za5 ?_;first|refine And.intro (by repeat (first|exact trivial|refine And.intro (.inl (by decide +kernel)) ?_|refine And.intro (.inr (by first|assumption|exact hS.cell|exact Zal (by assumption)|exact hS.cellI (by omega)|exact hS.cellIP (by omega)|exact hS.cellsN|exact hS.cellB (by omega)|exact hS.cellBA (by omega)|exact hS.cellO 0 (by omega)|exact hS.cellO 1 (by omega)|exact hS.cellIA (by omega)|exact hS.cellO 4 (by omega)|exact hS.cellO 5 (by omega)|exact hS.cellO 6 (by omega)|exact hS.cellO 7 (by omega)|exact hS.cellO 8 (by omega)|exact hS.cellO 9 (by omega)|exact hS.cellO 10 (by omega)|exact hS.cellO 11 (by omega)|exact hS.cellO 12 (by omega)|exact hS.cellO 13 (by omega)|exact hS.cellO 2 (by omega)|exact hS.cellO 3 (by omega))) ?_)) ?_))
 refine ⟨r,k,rfl,?_⟩
 have := hS.pick [0]
 unfold Zil
 simpa [Zbd] using this
end Cr
namespace Cr
open Go Go.Proofs
set_option maxRecDepth 10000
theorem b8_ofNat (n : Nat) : b8 (n : Int) = UInt8.ofNat n := by
 apply UInt8.toNat_inj.1
 have := b8_nat (n : Int)
 rw [UInt8.toNat_ofNat']
 omega
theorem ishr_u64 {n : Nat} (k : Nat) (hk : k ≤ 64) : ishr .u64 (n : Int) k = ((n / 2 ^ k : Nat) : Int) := by
 unfold ishr
 rw [show IntKind.u64.bits = 64 from rfl,Nat.min_eq_left hk,Int.fdiv_eq_ediv_of_nonneg _ (Int.le_of_lt (Int.pow_pos (by omega)))]
 simp
theorem bigAt_nat {n : Nat} (hn : n < 9223372036854775808) (c i : Nat) (hc : c ≤ 8) : bigAt (n : Int) c i = UInt8.ofNat (n / 2 ^ (8 * (c - 1 - i))) := by
 unfold bigAt
 have e : IntKind.u64.wrap (n : Int) = (n : Int) := by simp only [IntKind.wrap,IntKind.bits,IntKind.signed]; simp; omega
 rw [e,ishr_u64 _ (by omega),b8_ofNat]
theorem Zl9 (n : Int) (c i : Nat) (hi : i < c) : ∀ j,j ≤ c → (Zma n c j).getD i 0 = if i < j then bigAt n c i else 0
 | 0,_ => by simp [Zma,List.getD_eq_getElem?_getD,hi]
 | j + 1,hj => by
  have ih := Zl9 n c i hi j (by omega)
  rw [Zma,List.getD_eq_getElem?_getD,List.getElem?_set]
  by_cases h : j = i
  ·rw [if_pos h,if_pos (by rw [Zfn]; omega),if_pos (by omega),h]; rfl
  ·rw [if_neg h,← List.getD_eq_getElem?_getD,ih]
   by_cases h2 : i < j
   ·rw [if_pos h2,if_pos (by omega)]
   ·rw [if_neg h2,if_neg (by omega)]
theorem bigB_get {n : Nat} (hn : n < 9223372036854775808) {c i : Nat} (hc : c ≤ 8) (hi : i < c) : (bigB (n : Int) c).getD i 0 = UInt8.ofNat (n / 2 ^ (8 * (c - 1 - i))) := by
 unfold bigB
 rw [Zl9 _ _ _ hi c (Nat.le_refl _),if_pos hi,bigAt_nat hn c i hc]
def Zpn (s : List UInt8) : Nat → Nat
 | 0 => 0
 | i + 1 => Zpn s i * 256 + (s.getD i 0).toNat
theorem natTo_big' {n c : Nat} (hn : n < 256 ^ c) (hc : c ≤ 8) (hn2 : n < 9223372036854775808) : ∀ i,i ≤ c → Zpn (bigB (n : Int) c) i = n / 2 ^ (8 * (c - i)) := by
 intro i
 induction i with
 | zero => intro _; rw [Zpn,Nat.sub_zero,Nat.pow_mul]; exact (Nat.div_eq_of_lt hn).symm
 | succ i ih =>
  intro hi
  rw [Zpn,ih (by omega),bigB_get hn2 hc (by omega),UInt8.toNat_ofNat',show 8 * (c - i) = 8 * (c - 1 - i) + 8 by omega,Nat.pow_add,← Nat.div_div_eq_div_mul,show c - (i + 1) = c - 1 - i by omega]
  omega
def Zkn (s : List UInt8) : Nat → Int
 | 0 => 0
 | i + 1 => IntKind.i64.wrap (IntKind.i64.wrap (Zkn s i * 256) + ((s.getD i 0).toNat : Int))
def smallI (s : List UInt8) : Int := Zkn s s.length
theorem Zjm (s : List UInt8) : ∀ i,Zpn s i < 9223372036854775808 → Zkn s i = (Zpn s i : Nat)
 | 0,_ => rfl
 | i + 1,h => by
  have e : Zpn s (i + 1) = Zpn s i * 256 + (s.getD i 0).toNat := rfl
  rw [Zkn,Zjm s i (by omega),IntKind.wrap_i64,IntKind.wrap_i64,e]
  omega
theorem Ztp {n c : Nat} (hn : n < 256 ^ c) (hc : c ≤ 8) (hn2 : n < 9223372036854775808) : smallI (bigB (n : Int) c) = (n : Int) := by
 unfold smallI
 have h := natTo_big' hn hc hn2 c (Nat.le_refl _)
 rw [Nat.sub_self,Nat.mul_zero,Nat.pow_zero,Nat.div_one] at h
 rw [Za0,Zjm _ _ (by rw [h]; exact hn2),h]
theorem Zsv {l : List UInt8} (h : l.length ≤ 64) : Zec l = l ++ List.replicate (64 - l.length) 0 := by
 unfold Zec
 rw [List.take_append,List.take_of_length_le h,List.take_replicate,show min (64 - l.length) 64 = 64 - l.length by omega]
end Cr
namespace Cr
open Go
theorem Rd.cellsX {w : World} {a : Option Addr} {cs seg : List Value} {i' i n : Nat} (H : Rd w (Cr.row a cs)) (hi : i' = i) (h : (cs.drop i).take n = seg) (hn : seg.length = n) : Zdj w (adr a i') n seg := by
 subst hi; subst h
 exact ⟨H.seg _ _,hn⟩
end Cr
namespace Cr
open Go Go.Proofs
set_option maxRecDepth 100000
set_option maxHeartbeats 4000000
attribute [local irreducible] Calls

/-! ### number -/
def Zi9 (rd fs : List Int) (b : List UInt8) : Bool := decide (0 ≤ Zea (b.take 8)) && decide (Zea (b.take 8) ≤ 1152921504606846976) && decide (b = Zfz rd fs (Zea (b.take 8)))
def Zcj (rd fs : List Int) (b : List UInt8) : Int × Bool := if b = List.replicate 64 0 then (0,true) else (Zea (b.take 8),Zi9 rd fs b)
theorem number_ (a : Option Addr) (c : Nat) (b : List UInt8) (rd fs : List Int) (W : World) (hG : Gl W noF rd fs) (hb : Rd W (bytes a b)) (h64 : b.length = 64) (hc : 64 ≤ c) :
  Calls Tryz.prog 161 #[.slice a 64 c] W (Ret fun v w => v = .tuple #[.int .i64 (Zcj rd fs b).1,.bool (Zcj rd fs b).2] ∧ St W noF [] w) := by
 have hS := St.start W
 have hbo := hb.ro
 obtain ⟨ab,ao,rfl⟩ := hb.base (by intro e; have := Za4 b; rw [e] at this; simp at this; omega)
 have hb8 : Rd W (bytes (some ⟨ab,ao,none⟩) (b.take 8)) := by
  have := hb.subBytes (l := 0) (h := 8) (c := c) (by omega) (by omega)
  rw [sub_zero] at this
  simpa using this
 have h8 : (b.take 8).length = 8 := by simp [h64]
 have hsm := small_ (some ⟨ab,ao,none⟩) c (b.take 8) W hb8 (by omega)
 rw [h8] at hsm
 obtain ⟨n,hn⟩ : ∃ n,n = Zea (b.take 8) := ⟨_,rfl⟩
 rw [← hn] at hsm
 refine Zas Tryz.func161 rfl Tryz.ntmps161 rfl ?_
 repeat (first|(refine G_id ?_;first|refine Zah ?_|refine Zab rfl rfl ?_)|(refine X_id ?_;first|refine X_yl (Zad rfl rfl) rfl rfl ?_|refine X_yl (Zac rfl rfl) rfl rfl ?_)|(refine C_id ?_;first|refine Zak ?_|refine Zaa ?_)|(refine E_id ?_;first|refine Zae ?_))
 refine X_yl (Zcw (l := 0) (h := 8) rfl rfl rfl rfl (.inr ⟨_,_,rfl,by omega,by omega,by omega⟩) (.inl ⟨rfl,rfl⟩)) rfl rfl ?_
 rw [sub_zero,Nat.sub_zero,Nat.sub_zero]
 repeat (first|(refine G_id ?_;first|refine Zah ?_|refine Zab rfl rfl ?_)|(refine X_id ?_;first|(refine Zan 203 rfl rfl rfl rfl rfl hsm ?_;rintro _ _ ⟨rfl,rfl⟩)|refine X_yl (Zad rfl rfl) rfl rfl ?_|refine X_yl (Zac rfl rfl) rfl rfl ?_|refine X_yl (Zbt rfl rfl) rfl rfl ?_|refine Zmj rfl rfl rfl (by omega) (by omega) rfl rfl hS (fun _ _ hS => ?_))|(refine C_id ?_;first|refine Zak ?_|refine Zaa ?_)|(refine E_id ?_;first|refine Zae ?_))
 refine Zan _ rfl rfl rfl rfl rfl (Zsz _ _ _ _ _ _ b (List.replicate 64 0) _ (hbo.rd hS) ((hS.rd (List.mem_cons_self ..)).ptsB) h64 (by simp)) ?_
 rintro _ _ ⟨rfl,rfl⟩
 by_cases hz : b = List.replicate 64 0
 ·repeat (first|(refine G_id ?_;first|refine Zah ?_|refine Zab rfl rfl ?_)|(refine X_id ?_;first|refine X_yl (Zac rfl rfl) rfl rfl ?_)|(refine C_id ?_;first|refine Zak ?_|refine Zaa ?_|refine Za2 ?_|refine C_cond_dt rfl (by first|assumption|omega) ?_)|(refine E_id ?_;first|refine Zae ?_|refine Zat ?_|refine Zdb rfl (Zap rfl) (Zap rfl) (Ret.mk ?_)))
  exact ⟨by rw [Zcj,if_pos hz],hS.drops⟩
 ·have e2 : Zcj rd fs b = (n,Zi9 rd fs b) := by rw [Zcj,if_neg hz,hn]
  by_cases h0 : 0 ≤ n
  ·by_cases h1 : n ≤ 1152921504606846976
   ·repeat (first|(refine G_id ?_;first|refine Zah ?_|refine Zab rfl rfl ?_|refine Zcu rfl rfl rfl rfl ?_)|(refine X_id ?_;first|refine X_yl (Zad rfl rfl) rfl rfl ?_|refine X_yl (Zbr rfl rfl rfl) rfl rfl ?_|refine X_yl (Ztd rfl rfl rfl (by omega)) rfl rfl ?_|refine X_yl (Zda rfl rfl rfl (by omega)) rfl rfl ?_)|(refine C_id ?_;first|refine Zak ?_|refine Zaa ?_|refine Zaw ?_|refine Zml rfl (by first|assumption|omega) ?_)|(refine E_id ?_;first|refine Zae ?_))
    refine Zan _ rfl rfl rfl rfl rfl (front_ n rd fs _ (hG.mono fun r hr => (hr.rd hS).ro)) ?_
    rintro _ w ⟨p,k,rfl,hS'⟩
    replace hS := hS.plus hS'
    clear hS'
    repeat (first|(refine G_id ?_;first|refine Zcu rfl rfl rfl rfl ?_))
    refine Zan _ rfl rfl rfl rfl rfl (Zsz _ _ _ _ _ _ b (Zfz rd fs n) _ (hbo.rd hS) (hS.rd (List.mem_cons_self ..)) h64 (Ziq ..)) ?_
    rintro _ _ ⟨rfl,rfl⟩
    repeat (first|(refine G_id ?_;first|refine Zah ?_|refine Zab rfl rfl ?_)|(refine X_id ?_;first|refine X_yl (Zac rfl rfl) rfl rfl ?_|refine X_yl (Zbr rfl rfl rfl) rfl rfl ?_)|(refine C_id ?_;first|refine Za2 ?_)|(refine E_id ?_;first|refine Zae ?_|refine Zdb rfl (Zap rfl) (Zap rfl) (Ret.mk ?_)))
    refine ⟨?_,hS.drops⟩
    rw [e2]
    simp [Zi9,← hn,h0,h1]
   ·repeat (first|(refine G_id ?_;first|refine Zah ?_|refine Zab rfl rfl ?_|refine Zcu rfl rfl rfl rfl ?_|refine G_no rfl rfl rfl rfl rfl rfl ?_)|(refine X_id ?_;first|refine X_yl (Zad rfl rfl) rfl rfl ?_|refine X_yl (Zac rfl rfl) rfl rfl ?_|refine X_yl (Zbr rfl rfl rfl) rfl rfl ?_|refine X_yl (Zbb rfl rfl rfl) rfl rfl ?_|refine X_yl (Yl_leq_f rfl rfl rfl (by omega)) rfl rfl ?_|refine X_yl (Zda rfl rfl rfl (by omega)) rfl rfl ?_)|(refine C_id ?_;first|refine Zak ?_|refine Zaa ?_|refine Za2 ?_|refine Zaw ?_|refine Zml rfl (by first|assumption|omega) ?_)|(refine E_id ?_;first|refine Zae ?_|refine Zdb rfl (Zap rfl) (Zap rfl) (Ret.mk ?_)))
    refine ⟨?_,hS.drops⟩
    rw [e2]
    simp [Zi9,← hn,h1]
  ·repeat (first|(refine G_id ?_;first|refine Zah ?_|refine Zab rfl rfl ?_|refine G_no rfl rfl rfl rfl rfl rfl ?_)|(refine X_id ?_;first|refine X_yl (Zad rfl rfl) rfl rfl ?_|refine X_yl (Zac rfl rfl) rfl rfl ?_|refine X_yl (Zbb rfl rfl rfl) rfl rfl ?_|refine X_yl (Zdv rfl rfl rfl (by omega)) rfl rfl ?_)|(refine C_id ?_;first|refine Zak ?_|refine Zaa ?_|refine Za2 ?_|refine Zaw ?_|refine Zml rfl (by first|assumption|omega) ?_)|(refine E_id ?_;first|refine Zae ?_|refine Zdb rfl (Zap rfl) (Zap rfl) (Ret.mk ?_)))
   refine ⟨?_,hS.drops⟩
   rw [e2]
   simp [Zi9,← hn,h0]
end Cr
namespace Cr
open Go Go.Proofs
set_option maxRecDepth 100000
set_option maxHeartbeats 4000000
attribute [local irreducible] Calls

structure Wr where
 no : Int
 x : Bs
def Wr.cells (v : Wr) : List Value := [.int .i64 v.no,.slice v.x.a v.x.s.length v.x.c]
def Wr.data (v : Wr) : Int × List UInt8 := (v.no,v.x.s)
structure Wrs (W : World) (F : Nat → Prop) (a : Option Addr) (l : List Wr) : Prop where
 row : Ro W F (row a (l.flatMap Wr.cells))
 all : ∀ v ∈ l,Ro W F (bytes v.x.a v.x.s)
theorem Wrs.mono {W w : World} {F F' : Nat → Prop} {a : Option Addr} {l : List Wr} (h : Wrs W F a l) (hw : ∀ r,Ro W F r → Ro w F' r) : Wrs w F' a l := ⟨hw _ h.row,fun x hx => hw _ (h.all x hx)⟩
theorem Zoz {l : List Wr} {i : Nat} {v : Wr} (h : l[i]? = some v) : ((l.flatMap Wr.cells).drop (i * 2)).take 2 = v.cells := Zdy (f := Wr.cells) (fun _ _ => rfl) h
theorem wr_len (l : List Wr) : (l.flatMap Wr.cells).length = l.length * 2 := Zfd (fun _ _ => rfl)
def Zg9 (number : Int) (l : List (Int × List UInt8)) : List (List UInt8) := [bigB number 8,bigB (l.length : Nat) 4] ++ l.flatMap fun v => [bigB v.1 4,v.2]
def sumB (rd fs : List Int) (number : Int) (l : List (Int × List UInt8)) : List UInt8 := digest rd fs (Zg9 number l)
theorem Zkx (rd fs : List Int) (number : Int) (l : List (Int × List UInt8)) : (sumB rd fs number l).length = 32 := Zb2 _ _ _
attribute [irreducible] sumB
theorem St.rdsPut {W : World} {F : Nat → Prop} {rs : List Res} {w : World} {b : Nat} {T : TypeId} {s : List UInt8} {l : List Bs} (k : Nat) (hS : St W F (pts b (.cells (bv s).toArray T) :: rds l :: rs) w) : St W F (rds (l ++ [⟨some ⟨b,0,none⟩,k,s⟩]) :: rs) w :=
 St.rdsCons (x := ⟨some ⟨b,0,none⟩,k,s⟩) (hS.head fun h hh => Zn5 h hh)
theorem wsum_ (number : Int) (a : Option Addr) (c : Nat) (l : List Wr) (rd fs : List Int) (W : World) (hG : Gl W noF rd fs) (hW : Wrs W noF a l) (hl : l.length ≤ 1048576) (hn : (Zcv (Zg9 number (l.map Wr.data))).length < 1152921504606846976) :
  Calls Tryz.prog 169 #[.int .i64 number,.slice a l.length c] W (Ret fun v w => v = .agg (bv (sumB rd fs number (l.map Wr.data))).toArray ∧ St W noF [] w) := by
 have hS := St.start W
 refine Zas Tryz.func169 rfl Tryz.ntmps169 rfl ?_
 repeat (first|(refine G_id ?_;first|refine Zah ?_|refine Zab rfl rfl ?_)|(refine X_id ?_;first|refine X_yl (Zad rfl rfl) rfl rfl ?_|refine Zbe rfl rfl rfl hS (fun _ _ hS _ => ?_))|(refine C_id ?_;first|refine Zak ?_|refine Zaa ?_)|(refine E_id ?_;first|refine Zae ?_))
 rename_i b4 _ _
 refine Zan _ rfl rfl rfl rfl rfl (big_ number 8 _ (by omega)) ?_
 rintro _ w ⟨p1,rfl,hS'⟩
 replace hS := hS.plus hS'
 clear hS'
 repeat (first|(refine G_id ?_;first|refine Zab rfl rfl ?_)|(refine X_id ?_;first|refine X_yl (Zad rfl rfl) rfl rfl ?_|refine X_yl (Zbt rfl rfl) rfl rfl ?_))
 refine Zan _ rfl rfl rfl rfl rfl (big_ (l.length : Nat) 4 _ (by omega)) ?_
 rintro _ w ⟨p2,rfl,hS'⟩
 replace hS := hS.plus hS'
 clear hS'
 repeat (first|(refine G_id ?_;first|refine Zah ?_|refine Zab rfl rfl ?_)|(refine X_id ?_;first|refine X_yl (Zad rfl rfl) rfl rfl ?_|refine X_yl (Zac rfl rfl) rfl rfl ?_|refine X_yl (Zbt rfl rfl) rfl rfl ?_|refine Za6 rfl rfl rfl rfl rfl rfl rfl rfl hS (fun _ _ hS _ => ?_))|(refine C_id ?_;first|refine Zak ?_|refine Zaa ?_|refine Zaq ?_)|(refine E_id ?_;first|refine Zae ?_))
 rename_i b5 w5 _
 refine Zb7 (α := Nat × Option Addr × Nat × List Bs × List Bs) (fun z => [(4,.pointer (some ⟨b4,0,none⟩)),(5,.slice z.2.1 z.2.2.2.1.length z.2.2.1),(14,.slice a l.length c),(15,.int .i64 (l.length : Nat)),(16,.int .i64 (z.1 : Nat))])
  (fun z w => z.1 ≤ l.length ∧ Zbs z.2.2.2.1 = [bigB number 8,bigB (l.length : Nat) 4] ++ (l.take z.1).flatMap (fun v => [bigB v.no 4,v.x.s]) ∧ z.2.2.2.1.length = 2 + 2 * z.1 ∧ z.2.2.2.1.length ≤ z.2.2.1 ∧ (∀ x ∈ z.2.2.2.1,x ∈ z.2.2.2.2 ∨ ∃ v ∈ l,x = v.x) ∧
   St W noF [own 36 1 z.2.1 z.2.2.1 (z.2.2.2.1.map Bs.val),rds z.2.2.2.2,pts b4 (.cells (List.replicate 32 (.int .u8 0)).toArray 23)] w) (fun z => l.length - z.1)
  (0,some ⟨b5,0,none⟩,2,[⟨some ⟨p1,0,none⟩,8,bigB number 8⟩,⟨some ⟨p2,0,none⟩,4,bigB (l.length : Nat) 4⟩],[⟨some ⟨p2,0,none⟩,4,bigB (l.length : Nat) 4⟩,⟨some ⟨p1,0,none⟩,8,bigB number 8⟩])
  ⟨rfl,rfl,rfl,rfl,rfl,trivial⟩ ⟨Nat.zero_le _,rfl,rfl,Nat.le_refl _,by simp,?_⟩ ?_
 ·replace hS := hS.rdsNil
  have hS := hS.pick [2,0,1,0,0]
  replace hS := hS.rdsPut 4
  have hS := hS.pick [1,0,0,0]
  replace hS := hS.rdsPut 8
  have hS := hS.pick [1,0,0]
  simpa [Bs.val,Za0] using hS
 clear hS
 rintro ⟨i,a5,c5,L,O⟩ w ⟨hi,hT,hL,hLc,hO,hS⟩
 simp only at hi hT hL hLc hO hS ⊢
 by_cases hlt : i < l.length
 ·have hx0 : l[i]? = some l[i] := List.getElem?_eq_getElem hlt
  generalize l[i] = v at hx0
  have hr := hW.row
  have hxs : ((l.flatMap Wr.cells).drop (i * 2)).take 2 = [.int .i64 v.no,.slice v.x.a v.x.s.length v.x.c] := Zoz hx0
  obtain ⟨ab,ao,rfl⟩ := (hW.row.rd hS).base (by intro e; rw [e] at hxs; simp at hxs)
  repeat (first|(refine G_id ?_;first|refine Zah ?_|refine Zab rfl rfl ?_)|(refine X_id ?_;first|refine X_yl (Za3 rfl rfl rfl (by omega)) rfl rfl ?_|refine X_yl (Zau rfl rfl rfl (by omega) (by omega) (by first|assumption|exact ⟨_,_,rfl⟩)) rfl rfl ?_|refine X_yl (Zbc rfl rfl ((hr.rd hS).cellsX (by omega) hxs rfl)) rfl rfl ?_|refine Za1 rfl rfl rfl rfl hS (fun _ hS _ => ?_)|refine Zbe rfl rfl rfl hS (fun _ _ hS _ => ?_))|(refine C_id ?_;first|refine Zak ?_|refine Zaa ?_|refine Zaq ?_|refine Zaw ?_|refine Zam rfl ?_)|(refine E_id ?_;first|refine Zae ?_))
  refine Zci (.s 0 (.s 1 (.s 2 (.s 4 (.s 5 (.h 3 (.h 6 (.h 7 (.s 8 .nil) .no) .no) .no)))))) mixed (by kernel_rfl) rfl ?_
  have hS := hS.drew
  repeat (first|(refine Zbj ?_;first|refine Zag rfl rfl (fun _ => Zad rfl rfl) rfl rfl ?_|refine Zag rfl rfl (fun _ => Zaf rfl rfl rfl) rfl rfl ?_|refine Zbi (fun w' => w'.cell? _ = some _) rfl rfl hS.cell (fun _ hc => Zao rfl rfl hc) rfl rfl ?_|refine Za8 rfl rfl ?_))
  refine Zan _ rfl rfl rfl rfl rfl (big_ v.no 4 _ (by omega)) ?_
  rintro _ w ⟨p,rfl,hS'⟩
  replace hS := hS.plus hS'
  clear hS'
  repeat (first|(refine X_id ?_;first|refine Za6 rfl rfl rfl rfl rfl rfl rfl rfl hS (fun _ _ hS _ => ?_))|(refine Zbj ?_;first|refine Za8 rfl rfl ?_)|(refine Za5 ?_;first|refine And.intro (by repeat (first|exact trivial|refine And.intro (.inl (by decide +kernel)) ?_|refine And.intro (.inr (by first|assumption|exact hS.cell|exact Zal (by assumption)|exact hS.cellI (by omega)|exact hS.cellIP (by omega)|exact hS.cellsN|exact ((hr.rd hS).cellX (by omega) hx)|exact hS.cellB (by omega)|exact hS.cellBA (by omega)|exact ((hr.rd hS).cellF (by first|omega|(dsimp only;omega)) hx)|exact hS.cellO 0 (by omega)|exact hS.cellO 1 (by omega)|exact hS.cellIA (by omega)|exact Zal (hc.rd hS).pts|exact hS.cellO 4 (by omega)|exact hS.cellO 5 (by omega)|exact hS.cellO 6 (by omega)|exact hS.cellO 7 (by omega)|exact hS.cellO 8 (by omega)|exact hS.cellO 9 (by omega)|exact hS.cellO 10 (by omega)|exact hS.cellO 11 (by omega)|exact hS.cellO 12 (by omega)|exact hS.cellO 13 (by omega)|exact hS.cellO 2 (by omega)|exact hS.cellO 3 (by omega))) ?_)) ?_))
  refine Zc4 rfl rfl rfl rfl rfl hS (by simp) hLc (hS.rd (List.mem_cons_self ..)).own_row rfl (fun u hu => by
   simp only [List.mem_cons,List.not_mem_nil,or_false] at hu
   rcases hu with rfl | rfl <;> rfl) (by omega) (by simp only [maxLen]; omega) (fun a' c' w hS hc' hnil => ?_)
  repeat (first|(refine G_id ?_;first|refine Zah ?_|refine Zab rfl rfl ?_)|(refine X_id ?_;first|refine X_yl (Zad rfl rfl) rfl rfl ?_|refine X_yl (Zbk rfl rfl rfl (w64 (by omega) (by omega))) rfl rfl ?_)|(refine C_id ?_;first|refine Zaa ?_)|(refine E_id ?_;first|refine Zae ?_|refine Zbf ?_)|(refine Zbj ?_;first|refine Zbw ?_|refine Zag rfl rfl (fun _ => Zac rfl rfl) rfl rfl ?_)|(refine Za5 ?_;first|refine And.intro (by repeat (first|exact trivial|refine And.intro (.inl (by decide +kernel)) ?_|refine And.intro (.inr (by first|assumption|exact hS.cell|exact Zal (by assumption)|exact hS.cellI (by omega)|exact hS.cellIP (by omega)|exact hS.cellsN|exact ((hr.rd hS).cellX (by omega) hx)|exact hS.cellB (by omega)|exact hS.cellBA (by omega)|exact ((hr.rd hS).cellF (by first|omega|(dsimp only;omega)) hx)|exact hS.cellO 0 (by omega)|exact hS.cellO 1 (by omega)|exact hS.cellIA (by omega)|exact Zal (hc.rd hS).pts|exact hS.cellO 4 (by omega)|exact hS.cellO 5 (by omega)|exact hS.cellO 6 (by omega)|exact hS.cellO 7 (by omega)|exact hS.cellO 8 (by omega)|exact hS.cellO 9 (by omega)|exact hS.cellO 10 (by omega)|exact hS.cellO 11 (by omega)|exact hS.cellO 12 (by omega)|exact hS.cellO 13 (by omega)|exact hS.cellO 2 (by omega)|exact hS.cellO 3 (by omega))) ?_)) ?_))
  refine Zbu (z := (i,a5,c5,L,O)) (i + 1,a',c',L ++ [(⟨some ⟨p,0,none⟩,4,bigB v.no 4⟩ : Bs),v.x],O ++ [(⟨some ⟨p,0,none⟩,4,bigB v.no 4⟩ : Bs)]) ⟨rfl,?_,rfl,rfl,rfl,trivial⟩ ⟨by simp only; omega,?_,by simp; omega,by simp; omega,?_,?_⟩ (by simp only; omega)
  ·show some _ = some _
   simp
  ·have hi : i < l.length := hlt
   rw [List.take_succ_eq_append_getElem hi]
   have hv : l[i] = v := by
    have := List.getElem?_eq_getElem hi
    rw [hx0] at this
    exact (Option.some.inj this).symm
   rw [hv]
   simp only [Zbs,List.map_append,List.flatMap_append,List.flatMap_cons,List.flatMap_nil,List.map_cons,List.map_nil] at hT ⊢
   rw [hT]
   simp
  ·intro x hx
   simp only [List.mem_append,List.mem_cons,List.not_mem_nil,or_false] at hx ⊢
   rcases hx with hx | rfl | rfl
   ·rcases hO x hx with h | h
    ·exact .inl (.inl h)
    ·exact .inr h
   ·exact .inl (.inr rfl)
   ·exact .inr ⟨v,List.mem_of_getElem? hx0,rfl⟩
  ·skip
   have hS := hS.pick [2,3,0,2]
   replace hS := hS.rdsPut 4
   have hS := hS.pick [1,0,0]
   simpa [Bs.val,Za0] using hS
 ·obtain rfl : i = l.length := by omega
  repeat (first|(refine G_id ?_;first|refine Zah ?_|refine Zab rfl rfl ?_)|(refine X_id ?_;first|refine X_yl (Zad rfl rfl) rfl rfl ?_|refine X_yl (Za7 rfl rfl rfl (by omega)) rfl rfl ?_)|(refine C_id ?_;first|refine Zak ?_|refine Zaa ?_|refine Zb0 ?_|refine Zaj rfl ?_)|(refine E_id ?_;first|refine Zae ?_|refine Zav ?_|refine Zaz ?_))
  have hB := Bss.ofRd (w := w) (a := a5) (l := L) ((hS.rd (List.mem_cons_self ..)).own_row) (fun x hx => by
   rcases hO x hx with h | ⟨v,hv,rfl⟩
   ·have h1 : Ro w noF (rds O) := (hS.rd (by simp)).ro
    exact (h1.rds x h).start
   ·exact (hW.all v hv).rd hS)
  have hTT : Zbs L = Zg9 number (l.map Wr.data) := by
   rw [hT,List.take_length]
   simp [Zg9,Wr.data,List.flatMap_map]
  have hl32 : LenO (bv (digest rd fs (Zbs L))) 32 := ⟨by rw [Za4]; exact Zb2 _ _ _⟩
  refine Zbm _ rfl rfl rfl rfl rfl hS (Zlv _ c5 L rd fs _ (by rw [hTT]; exact hn) (by omega) (hG.mono fun r hr => (hr.rd hS).ro) hB) ?_
  rintro _ w rfl hS
  clear hB
  repeat (first|(refine G_id ?_;first|refine Zah ?_|refine Zab rfl rfl ?_)|(refine X_id ?_;first|refine Za1 rfl rfl rfl rfl hS (fun _ hS _ => ?_))|(refine C_id ?_;first|refine Za2 ?_)|(refine E_id ?_;first|refine Zae ?_|refine Zax rfl (by first|exact Zap rfl|exact Zay rfl (Zba hS.cell)|exact Zay rfl (Za9 hS.cellsN)) (Ret.mk ?_)))
  refine ⟨?_,hS.drops⟩
  rw [hTT]
  unfold sumB
  rfl
end Cr
