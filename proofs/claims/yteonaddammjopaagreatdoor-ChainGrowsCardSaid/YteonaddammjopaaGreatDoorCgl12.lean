/-
  Closed runs,3: the operations that touch no memory: the evaluator's value is the run's. Over any program.
  Arrays of strings,structs of strings and numbers,errors that may be nil: compared. Over any program.
  Closed runs,4: the other operations that touch no memory. Over any program.
  Closed runs,5: all operations that touch no memory ('pureOp_ok'). Over any program.
  Closed runs,6: the operations that read memory,and those that make an object of their own. Over any program.
  Closed runs,7: the operations that make an object of their own. Over any program.
  Closed runs,8: the operations that change memory: stores,and append. Over any program.
-/
import Derived.Test.YteonaddammjopaaGreatDoorCgl11
import Derived.Test.YteonaddammjopaaGreatDoorCgl3
import Derived.Laws.StructEq
import Derived.Test.YteonaddammjopaaGreatDoorCgl9
namespace Cr.Cl
open Go
set_option maxRecDepth 4000

structure TyOk (P : Program) (t : TypeId) (ti : TI) : Prop where
 und : P.underlying t = some ti.und
 inf : ∃ z,Inf P t z ti.size ti.bytes ∧ ofVs z.cells.toList = some ti.zero ∧ (ti.agg = true → ∃ l,z = .agg l) ∧ (ti.agg = false → z.cells = #[z])
 agg : ∀ w,(isAgg t).run P w = .ok ti.agg w
 str : ∀ fs,ti.und = .struct fs → Str P t ti.pl
 ng : ti.ng = true → P.eqGuardType P.depth t = false
def Zd0 (P : Program) (Γ : Ctx) : Prop := ∀ t ti,Γ.ty.get t = some ti → TyOk P t ti

theorem Zj4 (l : List Nat) : bs l = str (l.map UInt8.ofNat) := rfl
theorem Zta {l : List Nat} (h : ∀ x ∈ l,x < 256) : (l.map UInt8.ofNat).map UInt8.toNat = l := by
 rw [List.map_map]
 conv => rhs; rw [← List.map_id l]
 apply List.map_congr_left
 intro x hx
 simp [Nat.mod_eq_of_lt (h x hx)]
theorem bs_inj {a b : List Nat} (ha : ∀ x ∈ a,x < 256) (hb : ∀ x ∈ b,x < 256) (h : a.map UInt8.ofNat = b.map UInt8.ofNat) : a = b := by
 rw [← Zta ha,← Zta hb,h]

section
variable {ρ : Rho}
mutual
theorem ofV_ok : ∀ (v : Value) (s : SV),ofV v = some s → Rep ρ s v
 | .bool b,s,h => by simp only [ofV,Option.some.injEq] at h; subst h; rfl
 | .int k n,s,h => by simp only [ofV,Option.some.injEq] at h; subst h; rfl
 | .string x,s,h => by
  simp only [ofV,Option.some.injEq] at h; subst h
  refine ⟨fun y hy => ?_,?_⟩
  ·obtain ⟨c,_,rfl⟩ := List.mem_map.1 hy; exact c.toNat_lt
  ·obtain ⟨⟨l⟩⟩ := x
   simp [bs,List.map_map,Function.comp_def]
 | .pointer none,s,h => by simp only [ofV,Option.some.injEq] at h; subst h; rfl
 | .slice none 0 0,s,h => by simp only [ofV,Option.some.injEq] at h; subst h; rfl
 | .map none,s,h => by simp only [ofV,Option.some.injEq] at h; subst h; rfl
 | .nilFunc,s,h => by simp only [ofV,Option.some.injEq] at h; subst h; rfl
 | .nilIface,s,h => by simp only [ofV,Option.some.injEq] at h; subst h; rfl
 | .agg ⟨l⟩,s,h => by
  simp only [ofV] at h
  split at h
  ·rename_i r hr; cases h; exact ⟨l,Zfa l r hr,rfl⟩
  ·cases h
 | .tuple ⟨l⟩,s,h => by
  simp only [ofV] at h
  split at h
  ·rename_i r hr; cases h; exact ⟨l,Zfa l r hr,rfl⟩
  ·cases h
 | .float ..,s,h => by simp [ofV] at h
 | .complex ..,s,h => by simp [ofV] at h
 | .pointer (some _),s,h => by simp [ofV] at h
 | .slice (some _) _ _,s,h => by simp [ofV] at h
 | .slice none (_ + 1) _,s,h => by simp [ofV] at h
 | .slice none 0 (_ + 1),s,h => by simp [ofV] at h
 | .map (some _),s,h => by simp [ofV] at h
 | .chan _,s,h => by simp [ofV] at h
 | .func ..,s,h => by simp [ofV] at h
 | .iface ..,s,h => by simp [ofV] at h
theorem Zfa : ∀ (l : List Value) (r : List SV),ofVs l = some r → RepL ρ r l
 | [],r,h => by simp only [ofVs,Option.some.injEq] at h; subst h; rfl
 | v :: l,r,h => by
  simp only [ofVs] at h
  split at h
  ·rename_i a ha
   split at h
   ·rename_i b hb; cases h; exact RepL.cons (ofV_ok v a ha) (Zfa l b hb)
   ·cases h
  ·cases h
end
theorem Zbo {e : Envs} {σ : Env} (he : EnvR ρ e σ) {x : Operand} {s : SV} (h : opnd e x = some s) : ∃ v,Rep ρ s v ∧ ev σ x = some v := by
 cases x with
 | tmp t => exact he t s h
 | const v => exact ⟨v,ofV_ok v s h,rfl⟩
 | global g => simp only [opnd,Option.some.injEq] at h; subst h; exact ⟨_,rfl,rfl⟩
 | func f => simp only [opnd,Option.some.injEq] at h; subst h; exact ⟨_,⟨[],[],rfl,rfl,rfl⟩,rfl⟩
theorem Zij {e : Envs} {σ : Env} (he : EnvR ρ e σ) : ∀ {xs : List Operand} {s : List SV},Zkf e xs = some s → ∃ vs,RepL ρ s vs ∧ evs σ xs = some vs
 | [],s,h => by simp only [Zkf,Option.some.injEq] at h; subst h; exact ⟨[],rfl,rfl⟩
 | x :: l,s,h => by
  simp only [Zkf] at h
  split at h
  ·rename_i a ha
   split at h
   ·rename_i b hb
    cases h
    obtain ⟨v,hv,e1⟩ := Zbo he ha
    obtain ⟨vs,hvs,e2⟩ := Zij he hb
    exact ⟨v :: vs,RepL.cons hv hvs,by simp [evs,e1,e2]⟩
   ·cases h
  ·cases h
theorem Rep.cells {s : SV} {v : Value} (h : Rep ρ s v) : RepL ρ (cells s) v.cells.toList := by
 cases s <;> simp only [Cl.cells]
 case agg l => obtain ⟨vs,h1,rfl⟩ := h; simpa [Value.cells] using h1
 case b => cases h; exact RepL.cons rfl rfl
 case i => cases h; exact RepL.cons rfl rfl
 case s => obtain ⟨h1,rfl⟩ := h; exact RepL.cons ⟨h1,rfl⟩ rfl
 case p0 => cases h; exact RepL.cons rfl rfl
 case p => obtain ⟨L,h1,rfl⟩ := h; exact RepL.cons ⟨L,h1,rfl⟩ rfl
 case pg => cases h; exact RepL.cons rfl rfl
 case sl0 => cases h; exact RepL.cons rfl rfl
 case sl => obtain ⟨L,h1,h2,rfl⟩ := h; exact RepL.cons ⟨L,h1,h2,rfl⟩ rfl
 case slu => obtain ⟨L,h1,h2,rfl⟩ := h; exact RepL.cons ⟨L,h1,h2,rfl⟩ rfl
 case sle => obtain ⟨a,c,rfl⟩ := h; exact RepL.cons ⟨a,c,rfl⟩ rfl
 case m0 => cases h; exact RepL.cons rfl rfl
 case m => obtain ⟨L,h1,rfl⟩ := h; exact RepL.cons ⟨L,h1,rfl⟩ rfl
 case fn => obtain ⟨a,c,h1,h2,rfl⟩ := h; exact RepL.cons ⟨a,c,h1,h2,rfl⟩ rfl
 case f0 => cases h; exact RepL.cons rfl rfl
 case ifc => obtain ⟨u,h1,rfl⟩ := h; exact RepL.cons ⟨u,h1,rfl⟩ rfl
 case ifc0 => cases h; exact RepL.cons rfl rfl
 case tup => obtain ⟨vs,h1,rfl⟩ := h; exact RepL.cons ⟨vs,h1,rfl⟩ rfl
theorem Rep.one {s : SV} {v : Value} (h : Rep ρ s v) (h1 : one1 s = true) : v.oneCell' = true := by
 cases s
 case agg => cases h1
 case tup => cases h1
 case b => cases h; rfl
 case i => cases h; rfl
 case s => obtain ⟨_,rfl⟩ := h; rfl
 case p0 => cases h; rfl
 case p => obtain ⟨L,_,rfl⟩ := h; rfl
 case pg => cases h; rfl
 case sl0 => cases h; rfl
 case sl => obtain ⟨L,_,_,rfl⟩ := h; rfl
 case slu => obtain ⟨L,_,_,rfl⟩ := h; rfl
 case sle => obtain ⟨a,c,rfl⟩ := h; rfl
 case m0 => cases h; rfl
 case m => obtain ⟨L,_,rfl⟩ := h; rfl
 case fn => obtain ⟨a,c,_,_,rfl⟩ := h; rfl
 case f0 => cases h; rfl
 case ifc => obtain ⟨u,_,rfl⟩ := h; rfl
 case ifc0 => cases h; rfl
theorem RepL.ones : ∀ {s : List SV} {l : List Value},RepL ρ s l → s.all one1 = true → ∀ u ∈ l,u.oneCell' = true
 | [],_,h,_,u,hu => by cases h; cases hu
 | a :: r,_,⟨v,l',h1,h2,e⟩,ha,u,hu => by
  subst e
  simp only [List.all_cons,Bool.and_eq_true] at ha
  rcases List.mem_cons.1 hu with rfl | hu
  ·exact Rep.one h1 ha.1
  ·exact RepL.ones h2 ha.2 u hu
theorem RepL.lput {a b : List SV} {l m : List Value} (h : RepL ρ a l) (h' : RepL ρ b m) (k : Nat) : RepL ρ (lput a k b) (Zby l k m) := by
 unfold Cl.lput Zby
 rw [RepL.length h']
 exact RepL.append (RepL.append (RepL.take k h) h') (RepL.drop _ h)
theorem RepL.seg {a : List SV} {l : List Value} (h : RepL ρ a l) (k n : Nat) : RepL ρ (seg a k n) ((l.drop k).take n) := RepL.take n (RepL.drop k h)
end

theorem Zjy (a b : Int) : ieq a b = decide (a = b) := by
 cases a <;> cases b <;> simp only [ieq,nbeq] <;> first | (apply decide_eq_decide.2; rw [Int.ofNat.injEq]) | (apply decide_eq_decide.2; rw [Int.negSucc.injEq]) | (symm; apply decide_eq_false; intro h; cases h)
theorem Znc (a b : Int) : ilt a b = decide (a < b) := by
 cases a <;> cases b <;> simp only [ilt,nblt,Int.ofNat_eq_natCast] <;> first | (apply decide_eq_decide.2; omega) | (symm; apply decide_eq_true; omega) | (symm; apply decide_eq_false; omega)
theorem Zsl : ∀ a b : List Nat,leq a b = decide (a = b)
 | [],[] => rfl
 | [],_ :: _ => rfl
 | _ :: _,[] => rfl
 | a :: x,b :: y => by
  simp only [leq,nbeq,Zsl x y]
  by_cases h : a = b <;> simp [h]
theorem Zja {a b : IntKind} (h : ikeq a b = true) : a = b := by
 unfold ikeq at h; cases a <;> cases b <;> first | rfl | (exact absurd h (by decide))
theorem llt_ok : ∀ {a b : List Nat},(∀ x ∈ a,x < 256) → (∀ x ∈ b,x < 256) → llt a b = Op.bytesLess (a.map UInt8.ofNat) (b.map UInt8.ofNat)
 | _,[],_,_ => by unfold llt; rw [List.map_nil]; unfold Op.bytesLess; rfl
 | [],_ :: _,_,_ => rfl
 | a :: x,b :: y,ha,hb => by
  have ih := llt_ok (a := x) (b := y) (fun z hz => ha z (List.mem_cons_of_mem _ hz)) (fun z hz => hb z (List.mem_cons_of_mem _ hz))
  have h1 := ha a (List.mem_cons_self ..)
  have h2 := hb b (List.mem_cons_self ..)
  simp only [llt,nbeq,nblt,List.map_cons,Op.bytesLess,ih]
  have e1 : decide (UInt8.ofNat a < UInt8.ofNat b) = decide (a < b) := by
   apply decide_eq_decide.2; rw [UInt8.lt_iff_toNat_lt]; simp [Nat.mod_eq_of_lt h1,Nat.mod_eq_of_lt h2]
  have e2 : (UInt8.ofNat a == UInt8.ofNat b) = decide (a = b) := by
   by_cases h : a = b
   ·simp [h]
   ·have : UInt8.ofNat a ≠ UInt8.ofNat b := fun e => h (by have := congrArg UInt8.toNat e; simpa [Nat.mod_eq_of_lt h1,Nat.mod_eq_of_lt h2] using this)
    simp [h,this]
  rw [e1,e2]
  by_cases h3 : a < b <;> by_cases h4 : a = b <;> simp [h3,h4]
theorem Zs8 {a b : List Nat} (ha : ∀ x ∈ a,x < 256) (hb : ∀ x ∈ b,x < 256) : decide (a.map UInt8.ofNat = b.map UInt8.ofNat) = leq a b := by
 rw [Zsl]; apply decide_eq_decide.2; exact ⟨bs_inj ha hb,fun h => by rw [h]⟩

section
variable {P : Program} {Γ : Ctx} {ρ : Rho} {o : Oper} {σ : Env} {w : World} {e : Envs}

def Zms (P : Program) (ρ : Rho) (o : Oper) (σ : Env) (w : World) (s : SV) : Prop := ∃ v,Rep ρ s v ∧ Yl P o σ w v

theorem Zcb (hΓ : Zd0 P Γ) {t : TypeId} {d : TypeDesc} (h : und Γ t = some d) : Und P t d := by
 unfold und at h; split at h
 ·rename_i i hi; cases h; exact ⟨(hΓ t i hi).und⟩
 ·cases h
theorem Zr6 (hΓ : Zd0 P Γ) {t : TypeId} {ti : TI} (h : Γ.ty.get t = some ti) : Siz P t ti.size := by
 obtain ⟨z,hi,_⟩ := (hΓ t ti h).inf
 exact Inf.siz P t z ti.size ti.bytes
theorem Zjo (hΓ : Zd0 P Γ) {t : TypeId} {n : Nat} (h : siz Γ t = some n) : Siz P t n := by
 unfold siz at h; split at h
 ·rename_i i hi; cases h; exact Zr6 hΓ hi
 ·cases h
theorem Zcc {α : Type} {b : Bool} {x y : Option α} {s : α} (h : (bif b then x else y) = some s) : (b = true ∧ x = some s) ∨ (b = false ∧ y = some s) := by
 cases b
 ·exact .inr ⟨rfl,h⟩
 ·exact .inl ⟨rfl,h⟩
theorem Zar {α : Type} {b : Bool} {x : Option α} {s : α} (h : (bif b then x else none) = some s) : b = true ∧ x = some s := by
 cases b
 ·cases h
 ·exact ⟨rfl,h⟩
theorem Zli {α : Type} {b : Bool} {y : Option α} {s : α} (h : (bif b then none else y) = some s) : b = false ∧ y = some s := by
 cases b
 ·exact ⟨rfl,h⟩
 ·cases h
theorem Zcd {a b : Nat} (h : Nat.ble a b = true) : a ≤ b := Nat.le_of_ble_eq_true h
theorem Zcx {a b : Nat} (h : Nat.blt a b = true) : a < b := Nat.le_of_ble_eq_true h
theorem Zce {a b : Nat} (h : Nat.beq a b = true) : a = b := Nat.eq_of_beq_eq_true h

/-! ### two operands -/
section
variable {x y : Operand} {t ty : TypeId} {op : BinOp}
theorem bitsOf_ok (k : IntKind) (n : Int) : (BitVec.ofInt k.bits n).toNat = Zl8 k n := by
 rw [BitVec.toNat_ofInt]; rfl
theorem binI_ok {k : IntKind} {a b : Int} {s : SV} (ho : o.op = .binOp op t x y ty) (hx : ev σ x = some (.int k a)) (hy : ev σ y = some (.int k b)) (h1 : op ≠ .shl) (h2 : op ≠ .shr) (h : binI op k a b = some s) : Zms P ρ o σ w s := by
 cases op <;> simp only [binI] at h
 case shl => exact absurd rfl h1
 case shr => exact absurd rfl h2
 case andNot => cases h
 case add => cases h; exact ⟨_,rfl,Zbk ho hx hy rfl⟩
 case sub => cases h; exact ⟨_,rfl,Zdn ho hx hy rfl⟩
 case mul => cases h; exact ⟨_,rfl,Zfi ho hx hy rfl⟩
 case quo =>
  replace h := Zli h; obtain ⟨hb,h⟩ := h; cases h
  rw [Zjy] at hb
  exact ⟨_,rfl,Yl_quo ho hx hy (of_decide_eq_false hb) rfl⟩
 case rem =>
  replace h := Zli h; obtain ⟨hb,h⟩ := h; cases h
  rw [Zjy] at hb
  exact ⟨_,rfl,Yl_rem ho hx hy (of_decide_eq_false hb) rfl⟩
 case eql => cases h; exact ⟨_,rfl,by rw [Zjy]; exact Ztf ho hx hy⟩
 case neq => cases h; exact ⟨_,rfl,by rw [Zjy,← decide_not]; exact Ztc ho hx hy⟩
 case lss => cases h; exact ⟨_,rfl,by rw [Znc]; exact Zqf ho hx hy⟩
 case gtr => cases h; exact ⟨_,rfl,by rw [Znc]; exact Yl_gtr ho hx hy⟩
 case leq => cases h; exact ⟨_,rfl,by rw [Znc,show (!decide (b < a)) = decide (a ≤ b) by rw [← decide_not]; apply decide_eq_decide.2; omega]; exact Yl_leq ho hx hy⟩
 case geq => cases h; exact ⟨_,rfl,by rw [Znc,show (!decide (a < b)) = decide (b ≤ a) by rw [← decide_not]; apply decide_eq_decide.2; omega]; exact Zte ho hx hy⟩
 all_goals
  cases h
  refine ⟨_,rfl,⟨fun N ds f ha => ?_⟩⟩
  simp only [execOp,ho,ha.eval hx,ha.eval hy,binOp,eqGuard,Op.intBits,ne_eq,not_true_eq_false,if_false]
  simp only [BitVec.toNat_and,BitVec.toNat_or,BitVec.toNat_xor,bitsOf_ok]
  rfl
theorem binS_ok {a b : List Nat} {s : SV} (ho : o.op = .binOp op t x y ty) (ha' : ∀ z ∈ a,z < 256) (hb' : ∀ z ∈ b,z < 256) (hx : ev σ x = some (.string (bs a))) (hy : ev σ y = some (.string (bs b))) (h : binS op a b = some s) : Zms P ρ o σ w s := by
 rw [Zj4] at hx hy
 have e1 := Zs8 ha' hb'
 have e2 := llt_ok ha' hb'
 cases op <;> simp only [binS] at h
 case add =>
  replace h := Zar h; obtain ⟨hb,h⟩ := h; cases h
  have := Zcx hb
  refine ⟨_,⟨fun z hz => ?_,rfl⟩,?_⟩
  ·rcases List.mem_append.1 hz with hz | hz
   ·exact ha' z hz
   ·exact hb' z hz
  ·rw [Zj4,List.map_append]
   exact Yl_addStr ho hx hy (by simp; omega)
 case eql => cases h; exact ⟨_,rfl,by rw [← e1]; exact Zqh ho hx hy⟩
 case neq => cases h; exact ⟨_,rfl,by rw [← e1,← decide_not]; exact Yl_neqStr ho hx hy⟩
 all_goals first | (cases h; done) | skip
 all_goals
  cases h
  refine ⟨_,rfl,⟨fun N ds f hf => ?_⟩⟩
  have e3 : ((a.map UInt8.ofNat) == (b.map UInt8.ofNat)) = leq a b := by rw [← e1]; by_cases q : a.map UInt8.ofNat = b.map UInt8.ofNat <;> simp [q]
  simp only [execOp,ho,hf.eval hx,hf.eval hy,binOp,eqGuard,Op.stringOp,Zha,e2,e3]
  rfl
end

/-! ### is it nil? -/
theorem isNil_p {s : SV} {v : Value} {b : Bool} (h : Rep ρ s v) (hs : Zfw s = 1) (hn : Zi8 s = some b) : ∃ a,v = .pointer a ∧ a.isNone = b := by
 cases s <;> simp [Zfw] at hs <;> simp [Zi8] at hn <;> subst hn
 case p0 => exact ⟨none,h,rfl⟩
 case p => obtain ⟨L,_,rfl⟩ := h; exact ⟨_,rfl,rfl⟩
 case pg => exact ⟨_,h,rfl⟩
theorem isNil_s {s : SV} {v : Value} {b : Bool} (h : Rep ρ s v) (hs : Zfw s = 2) (hn : Zi8 s = some b) : ∃ a n c,v = .slice a n c ∧ a.isNone = b := by
 cases s <;> simp [Zfw] at hs <;> simp [Zi8] at hn <;> subst hn
 case sl0 => exact ⟨none,_,_,h,rfl⟩
 case sl => obtain ⟨L,_,_,rfl⟩ := h; exact ⟨_,_,_,rfl,rfl⟩
 case slu => obtain ⟨L,_,_,rfl⟩ := h; exact ⟨_,_,_,rfl,rfl⟩
 case sle => obtain ⟨a,c,rfl⟩ := h; exact ⟨_,_,_,rfl,rfl⟩
theorem isNil_m {s : SV} {v : Value} {b : Bool} (h : Rep ρ s v) (hs : Zfw s = 3) (hn : Zi8 s = some b) : ∃ a,v = .map a ∧ a.isNone = b := by
 cases s <;> simp [Zfw] at hs <;> simp [Zi8] at hn <;> subst hn
 case m0 => exact ⟨none,h,rfl⟩
 case m => obtain ⟨L,_,rfl⟩ := h; exact ⟨_,rfl,rfl⟩
theorem isNil_f {s : SV} {v : Value} {b : Bool} (h : Rep ρ s v) (hs : Zfw s = 4) (hn : Zi8 s = some b) : (b = true ∧ v = .nilFunc) ∨ (b = false ∧ ∃ f a c,v = .func f a c) := by
 cases s <;> simp [Zfw] at hs <;> simp [Zi8] at hn <;> subst hn
 case f0 => exact .inl ⟨rfl,h⟩
 case fn => obtain ⟨a,c,_,_,rfl⟩ := h; exact .inr ⟨rfl,_,_,_,rfl⟩
theorem eqv_ok {x y : Operand} {t : TypeId} {d : TypeDesc} {a b : SV} {u v : Value} {r : Bool} (hd : P.underlying t = some d) (hu : Rep ρ a u) (hv : Rep ρ b v) (h : eqv d (isC x || isC y) a b = some r) :
  (∀ op,(op = .eql ∨ op = .neq) → (eqGuard op t x y u v).run P w = .ok () w) ∧ (Op.equal t u v).run P w = .ok r w ∧ (∀ k n,u ≠ .int k n) ∧ (∀ l,u ≠ .string l) ∧ (∀ k n,u ≠ .float k n) ∧ (∀ k n m,u ≠ .complex k n m) := by
 unfold eqv at h
 have key : ∀ f : Sem Bool,(∀ n,Op.equalIn (n + 1) t u v = f) → Op.equal t u v = f := fun f hf => hf 9999
 split at h
 ·cases h; cases hu; cases hv
  refine ⟨fun op h => by rcases h with rfl | rfl <;> rfl,?_,by simp,by simp,by simp,by simp⟩
  show (Op.equalIn (9999 + 1) t _ _).run P w = _
  rw [Op.equalIn]; simp [run_underlying hd]
 ·cases h; cases hu; obtain ⟨v',_,rfl⟩ := hv
  refine ⟨fun op h => by rcases h with rfl | rfl <;> rfl,?_,by simp,by simp,by simp,by simp⟩
  show (Op.equalIn (9999 + 1) t _ _).run P w = _
  rw [Op.equalIn]; simp [run_underlying hd]
 ·cases h; cases hv; obtain ⟨v',_,rfl⟩ := hu
  refine ⟨fun op h => by rcases h with rfl | rfl <;> rfl,?_,by simp,by simp,by simp,by simp⟩
  show (Op.equalIn (9999 + 1) t _ _).run P w = _
  rw [Op.equalIn]; simp [run_underlying hd]
 ·replace h := Zar h; obtain ⟨hc,h⟩ := h; cases h; cases hu; cases hv
  refine ⟨fun op h => ?_,?_,by simp,by simp,by simp,by simp⟩
  ·have : (match x with | .const _ => true | _ => false) = true ∨ (match y with | .const _ => true | _ => false) = true := by
    rcases Bool.or_eq_true_iff.1 hc with q | q
    ·left; cases x <;> simp [isC] at q; rfl
    ·right; cases y <;> simp [isC] at q; rfl
   rcases h with rfl | rfl <;> (unfold eqGuard; cases x <;> cases y <;> simp_all)
  ·show (Op.equalIn (9999 + 1) t _ _).run P w = _
   rw [Op.equalIn]; simp [run_underlying hd]
 ·replace h := Zar h; obtain ⟨hs,h⟩ := h; cases hv
  obtain ⟨q,rfl,rfl⟩ := isNil_p hu (Zce hs) h
  refine ⟨fun op h => by rcases h with rfl | rfl <;> rfl,?_,by simp,by simp,by simp,by simp⟩
  exact Zgb (h := ⟨hd⟩)
 ·replace h := Zar h; obtain ⟨hs,h⟩ := h; cases hu
  obtain ⟨q,rfl,rfl⟩ := isNil_p hv (Zce hs) h
  refine ⟨fun op h => by rcases h with rfl | rfl <;> rfl,?_,by simp,by simp,by simp,by simp⟩
  show (Op.equalIn (9999 + 1) t _ _).run P w = _
  rw [Op.equalIn]; cases q <;> simp [run_underlying hd]
 ·replace h := Zar h; obtain ⟨hs,h⟩ := h; cases hv
  obtain ⟨q,n,c,rfl,rfl⟩ := isNil_s hu (Zce hs) h
  refine ⟨fun op h => by rcases h with rfl | rfl <;> rfl,?_,by simp,by simp,by simp,by simp⟩
  exact Ze6 (h := ⟨hd⟩)
 ·replace h := Zar h; obtain ⟨hs,h⟩ := h; cases hv
  obtain ⟨q,rfl,rfl⟩ := isNil_m hu (Zce hs) h
  refine ⟨fun op h => by rcases h with rfl | rfl <;> rfl,?_,by simp,by simp,by simp,by simp⟩
  exact Zig (h := ⟨hd⟩)
 ·replace h := Zar h; obtain ⟨hs,h⟩ := h; cases hv
  rcases isNil_f hu (Zce hs) h with ⟨rfl,rfl⟩ | ⟨rfl,f,a',c,rfl⟩
  ·refine ⟨fun op h => by rcases h with rfl | rfl <;> rfl,?_,by simp,by simp,by simp,by simp⟩
   show (Op.equalIn (9999 + 1) t _ _).run P w = _
   rw [Op.equalIn]; simp [run_underlying hd]
  ·refine ⟨fun op h => by rcases h with rfl | rfl <;> rfl,?_,by simp,by simp,by simp,by simp⟩
   show (Op.equalIn (9999 + 1) t _ _).run P w = _
   rw [Op.equalIn]; simp [run_underlying hd]
 ·cases h
end
end Cr.Cl
namespace Cr
open Go
set_option maxRecDepth 10000
section
variable {P : Program} {w : World} {t e : TypeId}
theorem Zke {α : Type} [DecidableEq α] (enc : α → Value) (d n : Nat) [h : Und P t (.array n e)] [hs : Siz P e 1] [h1 : One P e]
  (heq : ∀ (a b : α) (w : World),(Op.equalIn (d + 1) e (enc a) (enc b)).run P w = .ok (decide (a = b)) w) (a b : List α) (ha : a.length = n) (hb : b.length = n) :
  (Op.equalIn (d + 2) t (.agg (a.map enc).toArray) (.agg (b.map enc).toArray)).run P w = .ok (decide (a = b)) w := by
 unfold Op.equalIn
 simp only [Sem.run_bind,run_underlying h.und,Result.andThen_ok,Zb3 (n := 1),Nat.mul_one]
 simp only [Std.Legacy.Range.forIn_eq_forIn_range']
 have hp : ∀ (l : List α) (i : Nat) (hi : i < l.length),(part e (l.map enc).toArray i).run P w = .ok (enc l[i]) w := fun l i hi => by
  simp [part,h1.one,hi]
 have key : ∀ m s,s + m = n → (forIn (List.range' s m) (none,()) (fun i (__s : Option Bool × Unit) => do
   let __do_lift ← part e (a.map enc).toArray i
   let __do_lift_1 ← part e (b.map enc).toArray i
   let __do_lift ← Op.equalIn (d + 1) e __do_lift __do_lift_1
   if (!__do_lift) = true then pure (ForInStep.done (some false,())) else pure (ForInStep.yield (none,()))) : Sem (Option Bool × Unit)).run P w = .ok (if a.drop s = b.drop s then none else some false,()) w := by
  intro m
  induction m with
  | zero =>
   intro s hs
   rw [List.drop_of_length_le (by omega),List.drop_of_length_le (by omega)]
   simp
  | succ m ih =>
   intro s hs
   have hsa : s < a.length := by omega
   have hsb : s < b.length := by omega
   rw [List.range'_succ,List.forIn_cons]
   simp only [Sem.run_bind,hp a s hsa,hp b s hsb,Result.andThen_ok,heq]
   rw [List.drop_eq_getElem_cons hsa,List.drop_eq_getElem_cons hsb]
   by_cases hc : a[s] = b[s]
   ·rw [decide_eq_true hc]
    simp only [Bool.not_true,Bool.false_eq_true,if_false,Sem.run_pure,Result.andThen_ok]
    rw [ih (s + 1) (by omega),hc]
    simp only [List.cons.injEq,true_and]
   ·rw [decide_eq_false hc]
    simp only [Bool.not_false,if_true,Sem.run_pure,Result.andThen_ok]
    rw [if_neg (fun h => hc (List.cons.inj h).1)]
 have hz : [:n].size = n := by simp [Std.Legacy.Range.size]
 rw [hz,key n 0 (by omega)]
 by_cases hab : a = b <;> simp [hab]
end
section
variable {P : Program} {o : Oper} {σ : Env} {w : World} {x y : Operand} {t ty e : TypeId}
def sv (s : List UInt8) : Value := .string (str s)
inductive SF where
 | s (l : List UInt8)
 | n (k : Int)
end
end Cr
namespace Cr.Cl
open Go
set_option maxRecDepth 4000
section
variable {P : Program} {Γ : Ctx} {ρ : Rho} {o : Oper} {σ : Env} {w : World} {e : Envs}
section
variable {x y : Operand} {t ty : TypeId}
theorem Zlq {k : IntKind} : ∀ (xs : List SV) (p : List Int) (vs : List Value),Znb k xs = some p → RepL ρ xs vs → vs = p.map (Value.int k)
 | [],p,vs,h,hv => by
  simp only [Znb,Option.some.injEq] at h; subst h; cases hv; rfl
 | a :: r,p,vs,h,⟨v,l',h1,h2,hl⟩ => by
  subst hl
  unfold Znb at h
  split at h
  ·rename_i q; cases q
  ·rename_i k' n r' q
   cases q
   replace h := Zar h; obtain ⟨hk,h⟩ := h
   have := Zja hk; subst this
   split at h
   ·rename_i l hl
    cases h
    cases h1
    rw [Zlq r l l' hl h2]; rfl
   ·cases h
  ·cases h
theorem ileq_ok : ∀ a b : List Int,ileq a b = decide (a = b)
 | [],[] => rfl
 | [],_ :: _ => rfl
 | _ :: _,[] => rfl
 | a :: x,b :: y => by
  simp only [ileq,Zjy,ileq_ok x y]
  by_cases h : a = b <;> simp [h]
theorem Zs0 (hΓ : Zd0 P Γ) {a b : SV} {u v : Value} {r : Bool} (hu : Rep ρ a u) (hv : Rep ρ b v) (h : eqAll Γ t (isC x || isC y) a b = some r) :
  (∀ op,(op = .eql ∨ op = .neq) → (eqGuard op t x y u v).run P w = .ok () w) ∧ (Op.equal t u v).run P w = .ok r w ∧ (∀ k n,u ≠ .int k n) ∧ (∀ l,u ≠ .string l) ∧ (∀ k n,u ≠ .float k n) ∧ (∀ k n m,u ≠ .complex k n m) := by
 unfold eqAll at h
 split at h
 ·rename_i r' hr
  cases h
  unfold eqArr at hr
  split at hr
  ·rename_i ti hti
   replace hr := Zar hr; obtain ⟨hng,hr⟩ := hr
   split at hr
   ·rename_i n el xs ys hund
    split at hr
    ·rename_i k hel
     split at hr
     ·rename_i hsz
      split at hr
      ·rename_i p hp
       split at hr
       ·rename_i q hq
        replace hr := Zar hr; obtain ⟨hlen,hr⟩ := hr
        simp only [Bool.and_eq_true] at hlen
        have h1 := Zce hlen.1; have h2 := Zce hlen.2
        cases hr
        obtain ⟨us,g1,rfl⟩ := hu
        obtain ⟨vs,g2,rfl⟩ := hv
        have e1 := Zlq xs p us hp g1
        have e2 := Zlq ys q vs hq g2
        subst e1; subst e2
        have i1 : Und P t (.array n el) := ⟨by rw [(hΓ t ti hti).und,hund]⟩
        have i2 := Zcb hΓ hel
        have i3 := Zjo hΓ hsz
        refine ⟨fun op ho => ?_,?_,by simp,by simp,by simp,by simp⟩
        ·rcases ho with rfl | rfl <;> exact run_eqGuard_agg (P := P) (w := w) _ t x y _ _ ((hΓ t ti hti).ng hng)
        ·have := Zke (P := P) (w := w) (t := t) (e := el) (Value.int k) 9998 n (fun a b w => by
          rw [run_equalIn_int w 9998 el k k a b i2.und]
          by_cases q : a = b <;> simp [q]) p q h1 h2
         rw [ileq_ok]
         exact this
       ·cases hr
      ·cases hr
     ·cases hr
    ·cases hr
   ·cases hr
  ·cases hr
 ·split at h
  ·rename_i d hd
   exact eqv_ok (Zcb hΓ hd).und hu hv h
  ·cases h
theorem bin_ok (hΓ : Zd0 P Γ) {op : BinOp} {a b s : SV} {u v : Value} (ho : o.op = .binOp op t x y ty) (hu : Rep ρ a u) (hv : Rep ρ b v) (hx : ev σ x = some u) (hy : ev σ y = some v) (h : bin Γ op t x y a b = some s) : Zms P ρ o σ w s := by
 unfold bin at h
 split at h
 ·cases h; cases hu; cases hv
  refine ⟨_,rfl,⟨fun N ds f hf => ?_⟩⟩
  simp only [execOp,ho,hf.eval hx,hf.eval hy,binOp,eqGuard,Op.shift]
  rfl
 ·cases h; cases hu; cases hv
  refine ⟨_,rfl,⟨fun N ds f hf => ?_⟩⟩
  simp only [execOp,ho,hf.eval hx,hf.eval hy,binOp,eqGuard,Op.shift]
  rfl
 ·cases h
 ·cases h
 ·rename_i _ _ h1 h2
  replace h := Zar h; obtain ⟨hk,h⟩ := h
  have := Zja hk; subst this
  cases hu; cases hv
  exact binI_ok ho hx hy h1 h2 h
 ·obtain ⟨h1,rfl⟩ := hu; obtain ⟨h2,rfl⟩ := hv
  exact binS_ok ho h1 h2 hx hy h
 ·split at h
  ·rename_i r hr
   cases h
   obtain ⟨g,he,n1,n2,n3,n4⟩ := Zs0 (w := w) hΓ hu hv hr
   refine ⟨_,rfl,⟨fun N ds f hf => ?_⟩⟩
   have hb : binOp .eql t u v = (do pure (.bool (← Op.equal t u v))) := by
    cases u <;> first | exact absurd rfl (n1 _ _) | exact absurd rfl (n2 _) | exact absurd rfl (n3 _ _) | exact absurd rfl (n4 _ _ _) | (cases v <;> rfl)
   simp only [execOp,ho,hf.eval hx,hf.eval hy,Sem.run_bind,g .eql (.inl rfl),Result.andThen_ok,hb,he]
   rfl
  ·cases h
 ·split at h
  ·rename_i r hr
   cases h
   obtain ⟨g,he,n1,n2,n3,n4⟩ := Zs0 (w := w) hΓ hu hv hr
   refine ⟨_,rfl,⟨fun N ds f hf => ?_⟩⟩
   have hb : binOp .neq t u v = (do pure (.bool (!(← Op.equal t u v)))) := by
    cases u <;> first | exact absurd rfl (n1 _ _) | exact absurd rfl (n2 _) | exact absurd rfl (n3 _ _) | exact absurd rfl (n4 _ _ _) | (cases v <;> rfl)
   simp only [execOp,ho,hf.eval hx,hf.eval hy,Sem.run_bind,g .neq (.inr rfl),Result.andThen_ok,hb,he]
   rfl
  ·cases h
 ·cases h
theorem un_ok {op : UnOp} {a s : SV} {u : Value} (ho : o.op = .unOp op t x) (hu : Rep ρ a u) (hx : ev σ x = some u) (h : un op a = some s) : Zms P ρ o σ w s := by
 unfold un at h
 split at h
 ·cases h; cases hu; exact ⟨_,rfl,Ztb ho hx⟩
 ·cases h; cases hu; exact ⟨_,rfl,Yl_neg ho hx rfl⟩
 ·cases h
end
theorem part_ok (hΓ : Zd0 P Γ) {t : TypeId} {cs : List SV} {off : Nat} {s : SV} {vs : List Value} (hv : RepL ρ cs vs) (h : part Γ t cs off = some s) :
  ∃ v,Rep ρ s v ∧ ∀ w,(Go.part t vs.toArray off).run P w = .ok v w := by
 unfold part at h
 split at h
 ·rename_i i hi
  have hT := hΓ t i hi
  have hs : Siz P t i.size := Zr6 hΓ hi
  replace h := Zcc h; rcases h with ⟨hb,h⟩ | ⟨hb,h⟩
  ·replace h := Zar h; obtain ⟨hle,h⟩ := h; cases h
   refine ⟨.agg ((vs.drop off).take i.size).toArray,⟨_,RepL.seg hv off i.size,rfl⟩,fun w => ?_⟩
   have := hT.agg w
   rw [hb] at this
   have e : vs.toArray.extract off (off + i.size) = ((vs.drop off).take i.size).toArray := by
    simp [List.extract_eq_take_drop]
   simp [Go.part,this,Zb3 (n := i.size)]
  ·obtain ⟨v,h1,h2⟩ := RepL.get hv h
   refine ⟨v,h2,fun w => ?_⟩
   have := hT.agg w
   rw [hb] at this
   simp [Go.part,this,h1]
 ·cases h
theorem Zgo (he : EnvR ρ e σ) {d n : Nat} {x : Option Operand} (h : bnd e d x = some n) : ∃ v,evo σ x = some v ∧ ((v = none ∧ n = d) ∨ ∃ k,v = some (.int k (.ofNat n))) := by
 cases x with
 | none => simp only [bnd,Option.some.injEq] at h; exact ⟨none,rfl,.inl ⟨rfl,h.symm⟩⟩
 | some x =>
  simp only [bnd] at h
  split at h
  ·rename_i k m hk
   cases h
   obtain ⟨v,hv,hx⟩ := Zbo he hk
   cases hv
   exact ⟨some (.int k (.ofNat n)),by simp [evo,hx],.inr ⟨k,rfl⟩⟩
  ·cases h
theorem Zew {v : Option Value} {d n m : Nat} (h : (v = none ∧ n = d) ∨ ∃ k,v = some (.int k (.ofNat n))) (hn : n ≤ m) : Bnd v d m n := by
 rcases h with h | ⟨k,rfl⟩
 ·exact .inl h
 ·exact .inr ⟨k,.ofNat n,rfl,by simp,by simp,hn⟩
theorem Zks {v : Option Value} {d n m : Nat} (h : (v = none ∧ n = d) ∨ ∃ k,v = some (.int k (.ofNat n))) (hs : v ≠ none) (hn : n ≤ m) : ∃ k i,v = some (.int k i) ∧ 0 ≤ i ∧ i.toNat = n ∧ n ≤ m := by
 rcases h with ⟨h,_⟩ | ⟨k,rfl⟩
 ·exact absurd h hs
 ·exact ⟨k,.ofNat n,rfl,by simp,by simp,hn⟩
section
variable {x y : Operand} {t ty el : TypeId} {lo hi mx : Option Operand}
theorem evSlStr_ok (he : EnvR ρ e σ) (hu : Und P t .string) (ho : o.op = .slice t x lo hi mx) {l : List Nat} (h256 : ∀ z ∈ l,z < 256) (hx : ev σ x = some (.string (bs l))) {s : SV} (h : Zrj e l lo hi mx = some s) : Zms P ρ o σ w s := by
 unfold Zrj at h
 split at h
 ·cases h
 ·split at h
  ·rename_i b hb
   split at h
   ·rename_i a ha
    replace h := Zar h; obtain ⟨h1,h⟩ := h
    replace h := Zar h; obtain ⟨h2,h⟩ := h
    cases h
    obtain ⟨vh,e1,b1⟩ := Zgo he hb
    obtain ⟨vl,e2,b2⟩ := Zgo he ha
    refine ⟨_,⟨fun z hz => h256 z (List.mem_of_mem_drop (List.mem_of_mem_take hz)),rfl⟩,?_⟩
    have := Zrt (P := P) (w := w) (s := l.map UInt8.ofNat) (l := a) (h := b) ho hx e2 e1 (by simpa using Zew b1 (Zcd h2)) (Zew b2 (Zcd h1))
    rw [Zj4,List.map_take,List.map_drop]
    exact this
   ·cases h
  ·cases h
theorem sub_lit (b off l sz c : Nat) : sub (some ⟨b,off,none⟩) l sz c = some ⟨b,if c = l then off else off + l * sz,none⟩ := by
 unfold sub; split <;> simp_all [Zcn]
theorem evSl_ok (he : EnvR ρ e σ) (sz : Nat) {v : SV} {u : Value} (hv : Rep ρ v u)
    (hY : ∀ (a : Option Addr) (n c l h : Nat) (vl vh : Option Value),mx = none → u = .slice a n c → evo σ lo = some vl → evo σ hi = some vh → Bnd vh n c h → Bnd vl 0 h l → Yl P o σ w (.slice (sub a l sz c) (h - l) (c - l)))
    (hY3 : ∀ (a : Option Addr) (n c l h k : Nat) (vl vh vm : Option Value),u = .slice a n c → evo σ lo = some vl → evo σ hi = some vh → evo σ mx = some vm → (∃ k' i,vm = some (.int k' i) ∧ 0 ≤ i ∧ i.toNat = k ∧ k ≤ c) → (∃ k' i,vh = some (.int k' i) ∧ 0 ≤ i ∧ i.toNat = h ∧ h ≤ k) → Bnd vl 0 h l → Yl P o σ w (.slice (sub a l sz k) (h - l) (k - l)))
    (h3 : mx ≠ none → hi ≠ none) {s : SV} (h : evSl e sz v lo hi mx = some s) : Zms P ρ o σ w s := by
  unfold evSl at h
  have both : ∀ (L : Nat) (off n c m b a : Nat),u = .slice (some ⟨L,off,none⟩) n c → bnd e c mx = some m → bnd e n hi = some b → bnd e 0 lo = some a → a ≤ b → b ≤ m → m ≤ c → Yl P o σ w (.slice (some ⟨L,if m = a then off else off + a * sz,none⟩) (b - a) (m - a)) := by
    intro L off n c m b a hu hm hb ha h1 h2 h3'
    obtain ⟨vm,e0,b0⟩ := Zgo he hm
    obtain ⟨vh,e1,b1⟩ := Zgo he hb
    obtain ⟨vl,e2,b2⟩ := Zgo he ha
    rw [← sub_lit]
    cases mx with
    | none =>
      have : vm = none := by simpa [evo] using e0.symm
      subst this
      have hmc : m = c := by rcases b0 with ⟨_,q⟩ | ⟨k,q⟩; · exact q
                             · cases q
      subst hmc
      exact hY _ _ _ _ _ _ _ rfl hu e2 e1 (Zew b1 h2) (Zew b2 h1)
    | some q =>
      refine hY3 _ _ _ _ _ _ _ _ _ hu e2 e1 e0 (Zks b0 ?_ h3') (Zks b1 ?_ h2) (Zew b2 h1)
      · rintro rfl; simp [evo] at e0; split at e0 <;> simp at e0
      · rintro rfl
        cases hi with
        | none => exact h3 (by simp) rfl
        | some _ => simp [evo] at e1; split at e1 <;> simp at e1
  split at h
  · rename_i ob off n c
    obtain ⟨L,hL,hnc,rfl⟩ := hv
    split at h
    · rename_i m hm
      split at h
      · rename_i b hb
        split at h
        · rename_i a ha
          replace h := Zar h; obtain ⟨h1,h⟩ := h
          replace h := Zar h; obtain ⟨h2,h⟩ := h
          replace h := Zar h; obtain ⟨h4,h⟩ := h
          cases h
          have := both L.1 off n c m b a rfl hm hb ha (Zcd h1) (Zcd h2) (Zcd h4)
          refine ⟨_,⟨L,hL,by have := Zcd h2; omega,?_⟩,this⟩
          rw [nbeq]; by_cases q : m = a <;> simp [q]
        · cases h
      · cases h
    · cases h
  · cases hv
    split at h
    · rename_i hm hb ha
      cases h
      obtain ⟨vm,e0,b0⟩ := Zgo he hm
      obtain ⟨vh,e1,b1⟩ := Zgo he hb
      obtain ⟨vl,e2,b2⟩ := Zgo he ha
      cases mx with
      | none =>
        have := hY none 0 0 0 0 vl vh rfl rfl e2 e1 (Zew b1 (Nat.le_refl _)) (Zew b2 (Nat.le_refl _))
        exact ⟨_,rfl,by simpa [sub] using this⟩
      | some q =>
        have := hY3 none 0 0 0 0 0 vl vh vm rfl e2 e1 e0 (Zks b0 (by rintro rfl; simp [evo] at e0; split at e0 <;> simp at e0) (Nat.le_refl _)) (Zks b1 (by
          rintro rfl
          cases hi with
          | none => exact h3 (by simp) rfl
          | some _ => simp [evo] at e1; split at e1 <;> simp at e1) (Nat.le_refl _)) (Zew b2 (Nat.le_refl _))
        exact ⟨_,rfl,by simpa [sub] using this⟩
    · cases h
  · rename_i ob sz' k n
    obtain ⟨L,hL,hnc,rfl⟩ := hv
    split at h
    · split at h
      · rename_i b hb
        split at h
        · rename_i a ha
          replace h := Zar h; obtain ⟨h1,h⟩ := h
          replace h := Zar h; obtain ⟨h2,h⟩ := h
          replace h := Zar h; obtain ⟨h4,h⟩ := h
          have h1 := Zcd h1; have h2 := Zcd h2; have h4 := Zce h4; subst h4
          obtain ⟨vh,e1,b1⟩ := Zgo he hb
          obtain ⟨vl,e2,b2⟩ := Zgo he ha
          have hy := hY _ _ _ a b vl vh rfl rfl e2 e1 (Zew b1 (by omega)) (Zew b2 h1)
          rw [sub_lit] at hy
          replace h := Zcc h; rcases h with ⟨h5,h⟩ | ⟨h5,h⟩
          · cases h
            have h5 := Zcx h5
            rw [if_neg (by omega)] at hy
            refine ⟨_,⟨L,hL,by omega,?_⟩,hy⟩
            rw [Nat.add_mul,show L.2 - k - a = L.2 - (k + a) by omega]
          · replace h := Zcc h; rcases h with ⟨h6,h⟩ | ⟨h6,h⟩
            · cases h
              have h6 := Zce h6; subst h6
              have : (if L.2 - k = 0 then k * sz else k * sz + 0 * sz) = k * sz := by split <;> simp
              rw [this] at hy
              exact ⟨_,⟨L,hL,by omega,rfl⟩,by simpa using hy⟩
            · cases h
              have : ¬ a < n := by intro q; rw [nblt] at h5; simp at h5; omega
              have hab : b - a = 0 := by omega
              rw [hab] at hy
              exact ⟨_,⟨_,_,rfl⟩,hy⟩
        · cases h
      · cases h
    · rename_i q
      split at h
      · rename_i k' m hm
        split at h
        · rename_i b hb
          split at h
          · rename_i a ha
            replace h := Zar h; obtain ⟨h1,h⟩ := h
            replace h := Zar h; obtain ⟨h2,h⟩ := h
            replace h := Zar h; obtain ⟨h4,h⟩ := h
            replace h := Zar h; obtain ⟨h5,h⟩ := h
            cases h
            have h1 := Zcd h1; have h2 := Zcd h2; have h4 := Zcd h4; have h5 := Zce h5; subst h5
            have hm' : bnd e (L.2 - k) (some q) = some m := by simp [bnd,hm]
            have := both L.1 (k * sz) n (L.2 - k) m b a rfl hm' hb ha h1 h2 (by omega)
            refine ⟨_,⟨L,hL,by omega,?_⟩,this⟩
            rw [nbeq]; by_cases q : m = a <;> simp [q]
          · cases h
        · cases h
      · cases h
  · obtain ⟨a,c,rfl⟩ := hv
    split at h
    · rename_i hb ha
      cases h
      obtain ⟨vh,e1,b1⟩ := Zgo he hb
      obtain ⟨vl,e2,b2⟩ := Zgo he ha
      have := hY (some a) 0 c 0 0 vl vh rfl rfl e2 e1 (Zew b1 (by omega)) (Zew b2 (Nat.le_refl _))
      refine ⟨_,?_,this⟩
      have e : ∃ a',sub (some a) 0 sz c = some a' := by unfold sub; split <;> simp
      obtain ⟨a',e⟩ := e
      exact ⟨a',c - 0,by rw [e]⟩
    · cases h
  · cases h
theorem Zos {b off n m l h k : Nat} {vl vh vm : Option Value} (ho : o.op = .slice t x lo hi mx) (hx : ev σ x = some (.pointer (some ⟨b,off,none⟩))) (hlo : evo σ lo = some vl) (hhi : evo σ hi = some vh) (hmx : evo σ mx = some vm) (hu : Und P t (.array n el)) (hs : Siz P el m)
  (hm : ∃ k' i,vm = some (.int k' i) ∧ 0 ≤ i ∧ i.toNat = k ∧ k ≤ n) (hh : ∃ k' i,vh = some (.int k' i) ∧ 0 ≤ i ∧ i.toNat = h ∧ h ≤ k) (hl : Bnd vl 0 h l) :
  Yl P o σ w (.slice (sub (some ⟨b,off,none⟩) l m k) (h - l) (k - l)) := ⟨fun N ds f ha => by
 have hb := Zk6 (P := P) (w := w) (b := false) (len := n) hm hh hl
 have hsz : (Go.sizeOf el).run P w = .ok m w := Zb3 w
 simp [execOp,ho,ha.eval hx,ha.evalo hlo,ha.evalo hhi,ha.evalo hmx,Instr.sliceAt,Instr.sureAddr,run_underlying hu.und,hb,hsz,sub]
 split <;> rfl⟩
end
end
end Cr.Cl
namespace Cr.Cl
open Go
set_option maxRecDepth 4000
section
variable {P : Program} {Γ : Ctx} {ρ : Rho} {o : Oper} {σ : Env} {w : World} {e : Envs}
theorem str_get {t : TypeId} {pl : List (Nat × Nat)} (h : Str P t pl) {f off n : Nat} (hf : pl[f]? = some (off,n)) : ∃ fs : Array Field,∃ fd : Field,P.underlying t = some (.struct fs) ∧ fs[f]? = some fd ∧ fd.offset = off ∧ (P.info? fd.type).map (·.size) = some n := by
 obtain ⟨fs,h1,h2,h3⟩ := h.str
 have g2 := congrArg (·[f]?) h2
 have g3 := congrArg (·[f]?) h3
 simp only [List.getElem?_map,hf,Option.map_some] at g2 g3
 cases hq : fs[f]? with
 | none => rw [hq] at g2; cases g2
 | some fd =>
  rw [hq] at g2 g3
  simp only [Option.map_some,Option.some.injEq] at g2 g3
  exact ⟨fs.toArray,fd,h1,by simpa using hq,g3,g2⟩
theorem Zoj (he : EnvR ρ e σ) {pl : Nat → Option (Nat × Nat)} : ∀ (xs : List (Nat × Operand)) (ps : List (Nat × Nat × SV)) (z l : List SV) (zs : List Value),Zh5 e pl xs = some ps → Zri z ps = some l → RepL ρ z zs →
  ∃ parts ls,evps σ xs = some parts ∧ RepL ρ l ls ∧ Instr.fill pl zs.toArray parts = some ls.toArray ∧ l.length = z.length
 | [],ps,z,l,zs,h1,h2,hz => by
  simp only [Zh5,Option.some.injEq] at h1; subst h1
  simp only [Zri,Option.some.injEq] at h2; subst h2
  exact ⟨[],zs,rfl,hz,rfl,rfl⟩
 | (i,x) :: r,ps,z,l,zs,h1,h2,hz => by
  simp only [Zh5] at h1
  split at h1
  ·rename_i off n hp
   split at h1
   ·rename_i v hv
    replace h1 := Zar h1; obtain ⟨hn,h1⟩ := h1
    have hn := Zce hn
    split at h1
    ·rename_i qs hq
     cases h1
     simp only [Zri] at h2
     replace h2 := Zar h2; obtain ⟨hle,h2⟩ := h2
     have hle := Zcd hle
     obtain ⟨u,hu,hx⟩ := Zbo he hv
     have hc := Rep.cells hu
     obtain ⟨parts,ls,g1,g2,g3,g4⟩ := Zoj he r qs _ l _ hq h2 (RepL.lput hz hc off)
     have hlen := RepL.length hc
     have hzl := RepL.length hz
     refine ⟨(i,u) :: parts,ls,by simp [evps,hx,g1],g2,?_,by rw [g4]; simp only [lput,List.length_append,List.length_take,List.length_drop]; omega⟩
     rw [Zly (vs := u.cells.toList) (off := off) (by rw [hp,hlen,hn]) (by simp) (by omega)]
     exact g3
    ·cases h1
   ·cases h1
  ·cases h1
theorem Zdx {b : Builtin} {args : Array Operand} {ts : Array TypeId} {vs : List Value} (ho : o.op = .call { callee := .builtin b,args := args,argTypes := ts }) (hv : evs σ args.toList = some vs) {N : Nat} {ds : Md} {a : Act} (ha : Fr σ N ds a) :
  ∃ consts,execOp a.eval o = builtin b ts o.type consts vs.toArray := by
 refine ⟨args.map fun | .const _ => true | _ => false,?_⟩
 have : args.map a.eval = vs.toArray := by
  have := ha.evals hv
  rw [← this]; apply Array.ext'; simp
 simp [execOp,ho,resolve,invoke,this]
 rfl
theorem Zok {x : Operand} {v : Value} (h : ev σ x = some v) : evs σ [x] = some [v] := by simp [evs,h]
theorem evs_two {x y : Operand} {u v : Value} (h : ev σ x = some u) (h' : ev σ y = some v) : evs σ [x,y] = some [u,v] := by simp [evs,h,h']
theorem bs_size (l : List Nat) : (bs l).size = l.length := by simp [bs,ByteArray.size]
theorem Zd6 {s : SV} {u : Value} {n : Nat} (hu : Rep ρ s u) (h : lenOf s = some n) : ∃ a c,u = .slice a n c ∧ n ≤ c := by
 unfold lenOf at h
 split at h
 ·cases h; cases hu; exact ⟨none,0,rfl,Nat.le_refl _⟩
 ·cases h; obtain ⟨a,c,rfl⟩ := hu; exact ⟨_,_,rfl,Nat.zero_le _⟩
 ·cases h; obtain ⟨L,_,h1,rfl⟩ := hu; exact ⟨_,_,rfl,h1⟩
 ·cases h; obtain ⟨L,_,h1,rfl⟩ := hu; exact ⟨_,_,rfl,by omega⟩
 ·cases h
theorem Zpx (hΓ : Zd0 P Γ) (he : EnvR ρ e σ) {b : Builtin} {args : Array Operand} {ts : Array TypeId} (ho : o.op = .call { callee := .builtin b,args := args,argTypes := ts }) {s : SV} (h : Zis Γ e b args.toList ts.toList = some s) : Zms P ρ o σ w s := by
 unfold Zis at h
 obtain ⟨ts⟩ := ts
 obtain ⟨args⟩ := args
 simp only at h
 split at h
 ·rename_i x t _
  split at h
  ·rename_i d hd
   split at h
   ·rename_i v hv
    split at h
    ·rename_i n hn
     cases h
     obtain ⟨u,hu,hx⟩ := Zbo he hv
     refine ⟨_,rfl,⟨fun N ds a ha => ?_⟩⟩
     obtain ⟨c,hc⟩ := Zdx ho (Zok hx) ha
     have hU := (Zcb hΓ hd).und
     rw [hc]
     unfold evLen at hn
     split at hn
     ·cases hn; obtain ⟨_,rfl⟩ := hu
      simp [builtin,Builtin.len_,run_underlying hU,goInt,bs_size]
     ·obtain ⟨q,c',rfl,_⟩ := Zd6 hu hn
      simp [builtin,Builtin.len_,run_underlying hU,goInt]
     ·cases hn
      simp [builtin,Builtin.len_,run_underlying hU,goInt]
     ·cases hn
    ·cases h
   ·cases h
  ·cases h
 ·rename_i x t _
  split at h
  ·rename_i el hd
   have hU := (Zcb hΓ hd).und
   split at h
   ·rename_i q q1 q2 c hv
    cases h
    obtain ⟨u,⟨L,_,_,rfl⟩,hx⟩ := Zbo he hv
    refine ⟨_,rfl,⟨fun N ds a ha => ?_⟩⟩
    obtain ⟨c,hc⟩ := Zdx ho (Zok hx) ha
    rw [hc]
    simp [builtin,Builtin.cap_,run_underlying hU,goInt]
   ·rename_i hv
    cases h
    obtain ⟨u,hu,hx⟩ := Zbo he hv
    cases hu
    refine ⟨_,rfl,⟨fun N ds a ha => ?_⟩⟩
    obtain ⟨c,hc⟩ := Zdx ho (Zok hx) ha
    rw [hc]
    simp [builtin,Builtin.cap_,run_underlying hU,goInt]
   ·cases h
  ·cases h
 ·rename_i x y _
  split at h
  ·rename_i k a' hv
   split at h
   ·rename_i k' b' hv'
    cases h
    obtain ⟨u,hu,hx⟩ := Zbo he hv
    obtain ⟨u',hu',hx'⟩ := Zbo he hv'
    cases hu; cases hu'
    refine ⟨_,rfl,⟨fun N ds a ha => ?_⟩⟩
    obtain ⟨c,hc⟩ := Zdx ho (evs_two hx hx') ha
    rw [hc,Znc]
    by_cases q : b' < a' <;> simp [builtin,Builtin.min_,Builtin.min2,q]
   ·cases h
  ·cases h
 ·rename_i x y _
  split at h
  ·rename_i k a' hv
   split at h
   ·rename_i k' b' hv'
    cases h
    obtain ⟨u,hu,hx⟩ := Zbo he hv
    obtain ⟨u',hu',hx'⟩ := Zbo he hv'
    cases hu; cases hu'
    refine ⟨_,rfl,⟨fun N ds a ha => ?_⟩⟩
    obtain ⟨c,hc⟩ := Zdx ho (evs_two hx hx') ha
    rw [hc,Znc]
    by_cases q : a' < b' <;> simp [builtin,Builtin.max_,Builtin.max2,q]
   ·cases h
  ·cases h
 ·cases h
theorem Zpj (hΓ : Zd0 P Γ) (he : EnvR ρ e σ) {s : SV} (h : Zd5 Γ e o.op = some s) : Zms P ρ o σ w s := by
 unfold Zd5 at h
 split at h
 ·rename_i x ho
  obtain ⟨v,hv,hx⟩ := Zbo he h
  exact ⟨v,hv,Zad ho hx⟩
 ·rename_i x ho
  obtain ⟨v,hv,hx⟩ := Zbo he h
  exact ⟨v,hv,Zac ho hx⟩
 ·rename_i c a b ho
  split at h
  ·rename_i t hc
   obtain ⟨vc,hvc,hxc⟩ := Zbo he hc
   cases hvc
   cases t
   ·obtain ⟨v,hv,hx⟩ := Zbo he h
    exact ⟨v,hv,Zbb ho hxc hx⟩
   ·obtain ⟨v,hv,hx⟩ := Zbo he h
    exact ⟨v,hv,Zbr ho hxc hx⟩
  ·cases h
 ·rename_i x ho
  split at h
  ·rename_i v hv
   obtain ⟨u,hu,hx⟩ := Zbo he hv
   unfold evNil at h
   split at h
   ·cases h; obtain ⟨L,hL,rfl⟩ := hu
    exact ⟨_,⟨L,hL,rfl⟩,Zai ho hx⟩
   ·cases h; cases hu
    exact ⟨_,rfl,Zai ho hx⟩
   ·cases h; obtain ⟨va,vc,h1,h2,rfl⟩ := hu
    refine ⟨_,⟨va,vc,h1,h2,rfl⟩,⟨fun N ds a ha => ?_⟩⟩
    simp [execOp,ho,ha.eval hx]
   ·cases h; obtain ⟨u',h1,rfl⟩ := hu
    refine ⟨_,⟨u',h1,rfl⟩,⟨fun N ds a ha => ?_⟩⟩
    simp [execOp,ho,ha.eval hx]
   ·cases h
  ·cases h
 ·rename_i op t x y ty ho
  split at h
  ·rename_i a ha
   split at h
   ·rename_i b hb
    obtain ⟨u,hu,hx⟩ := Zbo he ha
    obtain ⟨v,hv,hy⟩ := Zbo he hb
    exact bin_ok hΓ ho hu hv hx hy h
   ·cases h
  ·cases h
 ·rename_i op t x ho
  split at h
  ·rename_i a ha
   obtain ⟨u,hu,hx⟩ := Zbo he ha
   exact un_ok ho hu hx h
  ·cases h
 ·rename_i s' d x ho
  split at h
  ·rename_i ds' hds
   split at h
   ·rename_i dd hdd
    split at h
    ·rename_i v hv
     obtain ⟨u,hu,hx⟩ := Zbo he hv
     have h1 := Zcb hΓ hds
     have h2 := Zcb hΓ hdd
     unfold evConv at h
     split at h
     ·cases h; cases hu; exact ⟨_,rfl,Zd2 (hs := h1) (hd := h2) ho hx rfl⟩
     ·cases h; obtain ⟨h3,rfl⟩ := hu
      refine ⟨_,⟨h3,rfl⟩,⟨fun N ds a ha => ?_⟩⟩
      simp only [execOp,ho,ha.eval hx,convert,Sem.run_bind,run_underlying h1.und,run_underlying h2.und,Result.andThen_ok]
      cases ds' <;> rfl
     ·cases h
    ·cases h
   ·cases h
  ·cases h
 ·rename_i t x ho
  split at h
  ·rename_i d hd
   replace h := Zli h; obtain ⟨hi,h⟩ := h
   split at h
   ·rename_i v hv
    cases h
    obtain ⟨u,hu,hx⟩ := Zbo he hv
    have h1 := (Zcb hΓ hd).und
    refine ⟨_,⟨u,hu,rfl⟩,⟨fun N ds a ha => ?_⟩⟩
    simp only [execOp,ho,ha.eval hx,Instr.makeInterface,Sem.run_bind,run_underlying h1,Result.andThen_ok]
    cases d <;> first | rfl | (exact absurd hi (by simp [isIfc]))
   ·cases h
  ·cases h
 ·rename_i f a c ho
  split at h
  ·rename_i x hx
   split at h
   ·rename_i y hy
    cases h
    obtain ⟨va,h1,e1⟩ := Zij he hx
    obtain ⟨vc,h2,e2⟩ := Zij he hy
    refine ⟨_,⟨va,vc,h1,h2,rfl⟩,⟨fun N ds q hq => ?_⟩⟩
    have g1 : a.map q.eval = va.toArray := by rw [← hq.evals e1]; apply Array.ext'; simp
    have g2 : c.map q.eval = vc.toArray := by rw [← hq.evals e2]; apply Array.ext'; simp
    simp [execOp,ho,Instr.makeFunc,g1,g2]
   ·cases h
  ·cases h
 ·rename_i t x lo hi mx ho
  split at h
  ·rename_i hd
   split at h
   ·rename_i l hl
    obtain ⟨u,⟨h1,rfl⟩,hx⟩ := Zbo he hl
    exact evSlStr_ok he (Zcb hΓ hd) ho h1 hx h
   ·cases h
  ·rename_i el hd
   split at h
   ·rename_i sz hsz
    split at h
    ·rename_i v hv
     obtain ⟨u,hu,hx⟩ := Zbo he hv
     have i1 := Zcb hΓ hd
     have i2 := Zjo hΓ hsz
     replace h := Zar h; obtain ⟨hmx,h⟩ := h
     refine evSl_ok he sz hu (fun a n c l b vl vh hm hu' e1 e2 b1 b2 => ?_) (fun a n c l b k vl vh vm hu' e1 e2 e3 b1 b2 b3 => ?_) ?_ h
     ·subst hm; subst hu'; exact Zcw (hu := i1) (hs := i2) ho hx e1 e2 b1 b2
     ·subst hu'; exact Zme (hu := i1) (hs := i2) ho hx e1 e2 e3 b1 b2 b3
     ·intro h1 h2; subst h2; cases mx <;> simp_all [okMx]
    ·cases h
   ·cases h
  ·rename_i n el hd
   split at h
   ·rename_i sz hsz
    split at h
    ·rename_i v hv
     obtain ⟨u,hu,hx⟩ := Zbo he hv
     have i1 := Zcb hΓ hd
     have i2 := Zjo hΓ hsz
     replace h := Zar h; obtain ⟨hmx,h⟩ := h
     unfold evArrSl at h
     split at h
     ·rename_i ob off
      obtain ⟨L,hL,rfl⟩ := hu
      refine evSl_ok he sz (v := .sl ob off n n) ⟨L,hL,Nat.le_refl _,rfl⟩ (fun a n' c l b vl vh hm hu' e1 e2 b1 b2 => ?_) (fun a n' c l b k vl vh vm hu' e1 e2 e3 b1 b2 b3 => ?_) ?_ h
      ·subst hm; cases hu'; exact Zot (hu := i1) (hs := i2) ho hx e1 e2 b1 b2
      ·cases hu'; exact Zos ho hx e1 e2 e3 i1 i2 b1 b2 b3
      ·intro h1 h2; subst h2; cases mx <;> simp_all [okMx]
     ·cases h
    ·cases h
   ·cases h
  ·cases h
 ·rename_i t x f ho
  split at h
  ·rename_i ti hti
   split at h
   ·rename_i fs hfs
    split at h
    ·rename_i v hv
     obtain ⟨u,hu,hx⟩ := Zbo he hv
     unfold Zh7 at h
     split at h
     ·rename_i off n hp
      split at h
      ·cases h
       obtain ⟨L,hL,rfl⟩ := hu
       obtain ⟨fs',fd,g1,g2,g3,g4⟩ := str_get ((hΓ t ti hti).str fs hfs) hp
       refine ⟨_,⟨L,hL,rfl⟩,?_⟩
       exact Zbv (h := ⟨⟨fs',fd,g1,g2,g3,rfl,g4⟩⟩) ho hx rfl
      ·cases h
     ·cases h
    ·cases h
   ·cases h
  ·cases h
 ·rename_i t x f ho
  split at h
  ·rename_i fs hd
   split at h
   ·rename_i fd hfd
    split at h
    ·rename_i cs hcs
     obtain ⟨u,⟨vs,h1,rfl⟩,hx⟩ := Zbo he hcs
     obtain ⟨v,h2,h3⟩ := part_ok hΓ h1 h
     refine ⟨v,h2,⟨fun N ds a ha => ?_⟩⟩
     simp [execOp,ho,ha.eval hx,Instr.field,run_underlying (Zcb hΓ hd).und,hfd,asAgg,h3]
    ·cases h
   ·cases h
  ·cases h
 ·rename_i t x i ho
  split at h
  ·rename_i d hd
   split at h
   ·rename_i el hel
    split at h
    ·rename_i sz hsz
     split at h
     ·rename_i v hv
      split at h
      ·rename_i k n hi
       obtain ⟨u,hu,hx⟩ := Zbo he hv
       obtain ⟨u',hu',hx'⟩ := Zbo he hi
       cases hu'
       have i1 := Zcb hΓ hd
       have i2 := Zjo hΓ hsz
       unfold Zh6 at h
       split at h
       ·replace h := Zar h; obtain ⟨hlt,h⟩ := h
        cases h
        obtain ⟨L,hL,rfl⟩ := hu
        cases hel
        have := Zbx (P := P) (w := w) (h := i1) (hs := i2) ho hx hx' (by simp) (by have := Zcx hlt; simp; omega)
        exact ⟨_,⟨L,hL,rfl⟩,by simpa using this⟩
       ·replace h := Zar h; obtain ⟨hlt,h⟩ := h
        cases h
        obtain ⟨L,hL,_,rfl⟩ := hu
        cases hel
        have := Zau (P := P) (w := w) (h := i1) (hs := i2) ho hx hx' (by simp) (by have := Zcx hlt; simp; omega) ⟨_,_,rfl⟩
        exact ⟨_,⟨L,hL,rfl⟩,by simpa [adr] using this⟩
       ·replace h := Zar h; obtain ⟨hlt,h⟩ := h
        replace h := Zar h; obtain ⟨hq,h⟩ := h
        cases h
        have hq := Zce hq; subst hq
        obtain ⟨L,hL,_,rfl⟩ := hu
        cases hel
        have := Zau (P := P) (w := w) (h := i1) (hs := i2) ho hx hx' (by simp) (by have := Zcx hlt; simp; omega) ⟨_,_,rfl⟩
        exact ⟨_,⟨L,hL,rfl⟩,by simpa [adr] using this⟩
       ·cases h
      ·cases h
     ·cases h
    ·cases h
   ·cases h
  ·cases h
 ·rename_i t x i ho
  split at h
  ·rename_i n el hd
   split at h
   ·rename_i sz hsz
    split at h
    ·rename_i cs hcs
     split at h
     ·rename_i k j hi
      replace h := Zar h; obtain ⟨hlt,h⟩ := h
      obtain ⟨u,⟨vs,h1,rfl⟩,hx⟩ := Zbo he hcs
      obtain ⟨u',hu',hx'⟩ := Zbo he hi
      cases hu'
      obtain ⟨v,h2,h3⟩ := part_ok hΓ h1 h
      have i2 := Zjo hΓ hsz
      have hlt := Zcx hlt
      refine ⟨v,h2,⟨fun N ds a ha => ?_⟩⟩
      have q1 : (0 : Int) ≤ .ofNat j := by simp
      have q2 : (.ofNat j : Int) < n := by simp; omega
      simp [execOp,ho,ha.eval hx,ha.eval hx',Instr.index,asIntOf,run_underlying (Zcb hΓ hd).und,Zb3 (n := sz),h3]
      omega
     ·cases h
    ·cases h
   ·cases h
  ·rename_i hd
   split at h
   ·rename_i l hl
    split at h
    ·rename_i k j hi
     split at h
     ·rename_i c hc
      cases h
      obtain ⟨u,⟨h1,rfl⟩,hx⟩ := Zbo he hl
      obtain ⟨u',hu',hx'⟩ := Zbo he hi
      cases hu'
      have i1 := Zcb hΓ hd
      have := Zru (P := P) (w := w) (s := l.map UInt8.ofNat) (b := UInt8.ofNat c) ho hx hx' (h := i1) (by simp) (by simp [hc])
      refine ⟨_,rfl,?_⟩
      have hc' : c < 256 := h1 c (List.mem_of_getElem? hc)
      simpa [Nat.mod_eq_of_lt hc'] using this
     ·cases h
    ·cases h
   ·cases h
  ·cases h
 ·rename_i x i ho
  split at h
  ·rename_i l hl
   obtain ⟨u,⟨vs,h1,rfl⟩,hx⟩ := Zbo he hl
   obtain ⟨v,h2,h3⟩ := RepL.get h1 h
   exact ⟨v,h3,Zbq (hv := ⟨h2⟩) ho hx⟩
  ·cases h
 ·rename_i t parts ho
  split at h
  ·rename_i ti hti
   obtain ⟨z,hz1,hz2,_,_⟩ := (hΓ t ti hti).inf
   have hz := Zfa (ρ := ρ) _ _ hz2
   split at h
   ·rename_i fs hfs
    split at h
    ·rename_i ps hps
     split at h
     ·rename_i l hl
      cases h
      obtain ⟨pv,ls,g1,g2,g3,_⟩ := Zoj he _ _ _ _ _ hps hl hz
      refine ⟨_,⟨ls,g2,rfl⟩,⟨fun N ds a ha => ?_⟩⟩
      have hb := Zpc (P := P) (t := t) (w := w) (hi := hz1) (hs := (hΓ t ti hti).str fs hfs) (z := z) (cs := z.cells.toList) (by simp) g3
      have e1 : parts.map (fun x => (x.1,a.eval x.2)) = pv.toArray := by rw [← ha.evalps g1]; apply Array.ext'; simp
      simp [execOp,ho,e1,hb]
     ·cases h
    ·cases h
   ·rename_i n el hfs
    split at h
    ·rename_i sz hsz
     split at h
     ·rename_i ps hps
      split at h
      ·rename_i l hl
       cases h
       obtain ⟨pv,ls,g1,g2,g3,_⟩ := Zoj he _ _ _ _ _ hps hl hz
       have i2 := Zjo hΓ hsz
       have i1 := (hΓ t ti hti).und
       rw [hfs] at i1
       obtain ⟨i,hi',hz',_,_⟩ := info_parts hz1.inf
       refine ⟨_,⟨ls,g2,rfl⟩,⟨fun N ds a ha => ?_⟩⟩
       have e1 : parts.map (fun x => (x.1,a.eval x.2)) = pv.toArray := by rw [← ha.evalps g1]; apply Array.ext'; simp
       have hq : (zeroValue t).run P w = .ok z w := by simp [zeroValue,typeInfo,hi',hz']
       simp only [Array.toArray_toList] at g3
       simp [execOp,ho,e1,Instr.build,hq,run_underlying i1,Zb3 (n := sz),g3]
      ·cases h
     ·cases h
    ·cases h
   ·cases h
  ·cases h
 ·rename_i t x ho
  split at h
  ·rename_i n el hd
   split at h
   ·rename_i o' off len c hx
    replace h := Zar h; obtain ⟨hle,h⟩ := h
    cases h
    obtain ⟨u,⟨L,hL,_,rfl⟩,hx⟩ := Zbo he hx
    exact ⟨_,⟨L,hL,rfl⟩,Zji (hu := Zcb hΓ hd) ho hx (Zcd hle)⟩
   ·rename_i o' sz k len hx
    replace h := Zar h; obtain ⟨hle,h⟩ := h
    cases h
    obtain ⟨u,⟨L,hL,_,rfl⟩,hx⟩ := Zbo he hx
    exact ⟨_,⟨L,hL,rfl⟩,Zji (hu := Zcb hΓ hd) ho hx (Zcd hle)⟩
   ·cases h
  ·cases h
 ·rename_i b args ts ho
  exact Zpx hΓ he ho h
 ·cases h
end
end Cr.Cl
namespace Cr.Cl
open Go Go.MapKept
set_option maxRecDepth 4000
section
variable {P : Program} {Γ : Ctx} {Ω : Opq} {ρ : Rho} {o : Oper} {σ : Env} {w : World} {e : Envs} {h : Heap}

def Zhu (Ω : Opq) (ρ : Rho) (h : Heap) (w : World) : Prop := ∀ n ob,h.get n = some ob → Rd w (resO Ω ρ n ob)
theorem Zm1 {b : Nat} {vs : List Value} {t : TypeId} {g : Frag} (hp : pts b (.cells vs.toArray t (0,0)) g) : row (some ⟨b,0,none⟩) vs g :=
 .inr ⟨b,0,vs.toArray,t,_,rfl,hp,fun i v hv => by simpa using hv⟩
theorem Zn6 (hR : Zhu Ω ρ h w) {n : Nat} {c : List SV} (hc : Zk7 h n = some c) : ∃ L vs,ρ n = some L ∧ RepL ρ c vs ∧ Rd w (row (some ⟨L.1,0,none⟩) vs) := by
 unfold Zk7 at hc
 split at hc
 ·rename_i t c' hg; cases hc
  obtain ⟨g,⟨L,vs,h1,h2,h3⟩,ha⟩ := hR _ _ hg
  exact ⟨L,vs,h1,h2,g,Zm1 h3,ha⟩
 ·rename_i t sz c' hg; cases hc
  obtain ⟨g,⟨L,vs,h1,h2,h3⟩,ha⟩ := hR _ _ hg
  exact ⟨L,vs,h1,h2,g,h3.row,ha⟩
 ·rename_i c' hg; cases hc
  obtain ⟨g,⟨L,vs,h1,h2,h3⟩,ha⟩ := hR _ _ hg
  exact ⟨L,vs,h1,h2,g,h3,ha⟩
 ·cases hc
theorem Zsk (hΓ : Zd0 P Γ) (hR : Zhu Ω ρ h w) {t : TypeId} {n off : Nat} {s : SV} (hl : Zra Γ h t n off = some s) : ∃ L v,ρ n = some L ∧ Rep ρ s v ∧ (loadVar t ⟨L.1,off,none⟩).run P w = .ok v w := by
 unfold Zra at hl
 split at hl
 ·rename_i c hc
  obtain ⟨L,vs,hL,hv,hr⟩ := Zn6 hR hc
  unfold part at hl
  split at hl
  ·rename_i i hi
   have hT := hΓ t i hi
   have hs : Siz P t i.size := Zr6 hΓ hi
   rcases Zcc hl with ⟨hb,hl⟩ | ⟨hb,hl⟩
   ·replace hl := Zar hl; obtain ⟨hle,hl⟩ := hl; cases hl
    have hle := Zcd hle
    have hlen : ((vs.drop off).take i.size).length = i.size := by simp [RepL.length hv]; omega
    refine ⟨L,.agg ((vs.drop off).take i.size).toArray,hL,⟨_,RepL.seg hv off i.size,rfl⟩,?_⟩
    have hc := hr.seg off i.size
    simp only [adr,Nat.zero_add] at hc
    have : Siz P t ((vs.drop off).take i.size).length := by rw [hlen]; exact hs
    exact Zhy (h := ⟨fun w => by rw [hT.agg w,hb]⟩) (hs := this) hc
   ·obtain ⟨v,h1,h2⟩ := RepL.get hv hl
    refine ⟨L,v,hL,h2,?_⟩
    have hc := hr.cells off v h1
    simp only [adr,Nat.zero_add] at hc
    have := hT.agg w
    rw [hb] at this
    simp [loadVar,this,load,Sem.run,hc]
  ·cases hl
 ·cases hl
theorem Zna {d : TypeDesc} {k a : SV} {kv av : Value} {b : Bool} (hk : Rep ρ k kv) (ha : Rep ρ a av) (h : keq d k a = some b) : Instr.sameNow d kv av = some b := by
 unfold keq at h
 split at h
 ·replace h := Zar h; obtain ⟨h1,h⟩ := h
  have := Zja h1; subst this
  cases h; cases hk; cases ha
  rw [Zjy]
  simp only [Instr.sameNow,if_true]
  congr 1
 ·cases h; obtain ⟨h1,rfl⟩ := hk; obtain ⟨h2,rfl⟩ := ha
  rw [Zj4,Zj4]
  have e : ∀ x y : List UInt8,(x == y) = decide (x = y) := fun x y => by by_cases q : x = y <;> simp [q]
  simp only [Instr.sameNow,Go.beq_toListBytes,Zha,← Zs8 h1 h2,e]
 ·cases h; cases hk; cases ha; rfl
 ·cases h
theorem Zod {d : TypeDesc} {k : SV} {kv : Value} (hk : Rep ρ k kv) (h : Zoe d k = true) : IsKey d kv := by
 unfold Zoe at h
 split at h
 ·cases hk; exact Zja h
 ·obtain ⟨_,rfl⟩ := hk; trivial
 ·cases hk; trivial
 ·cases h
theorem Zoh {d : TypeDesc} {k : SV} {kv : Value} (hk : Rep ρ k kv) : ∀ (es : List (SV × SV × Nat)) (l : List MapEntry) (i : Nat) (r : Option SV),RepE ρ es l → Zki d k es = some r →
  (r = none ∧ Instr.findNow d kv l i = some none) ∨ ∃ s j u,r = some s ∧ Rep ρ s u ∧ Instr.findNow d kv l i = some (some (i + j,u)) ∧ j < l.length
 | [],l,i,r,he,h => by
  cases he
  simp only [Zki,Option.some.injEq] at h; subst h
  exact .inl ⟨rfl,rfl⟩
 | (a,v,n) :: es,l,i,r,⟨e,l',h1,h2,h3,h4,hl⟩,h => by
  subst hl
  simp only [Zki] at h
  split at h
  ·rename_i hq; cases h
   have := Zna hk h1 hq
   exact .inr ⟨v,0,e.val,rfl,h2,by simp [Instr.findNow,this],by simp⟩
  ·rename_i hq
   have := Zna hk h1 hq
   rcases Zoh hk es l' (i + 1) r h4 h with ⟨g1,g2⟩ | ⟨s,j,u,g1,g2,g3,g4⟩
   ·exact .inl ⟨g1,by simp [Instr.findNow,this,g2]⟩
   ·refine .inr ⟨s,j + 1,u,g1,g2,?_,by simp; omega⟩
    simp only [Instr.findNow,this,g3]
    rw [show i + 1 + j = i + (j + 1) by omega]
  ·cases h
theorem Zjz (hR : Zhu Ω ρ h w) {v : SV} {u : Value} (hu : Rep ρ v u) {es : List (SV × SV × Nat)} (he : Zit h v = some es) : (u = .map none ∧ es = []) ∨ ∃ r l cl,u = .map (some r) ∧ RepE ρ es l ∧ w.heap[r]? = some (.map l.toArray cl) := by
 unfold Zit at he
 split at he
 ·cases he; cases hu; exact .inl ⟨rfl,rfl⟩
 ·rename_i n
  split at he
  ·rename_i es' cl hg
   cases he
   obtain ⟨L,hL,rfl⟩ := hu
   obtain ⟨g,⟨L',l,h1,h2,h3⟩,ha⟩ := hR _ _ hg
   rw [hL] at h1; cases h1
   exact .inr ⟨L.1,l,cl,rfl,h2,ha _ _ (by rw [h3]; exact Zbz _ _)⟩
  ·cases he
 ·cases he
theorem Zkp (hR : Zhu Ω ρ h w) {sz n : Nat} {v : SV} {a : Option Addr} {m c : Nat} (hu : Rep ρ v (.slice a m c)) {cs : List SV} (hs : Zkd h sz n v = some cs) : ∃ vs,RepL ρ cs vs ∧ vs.length = n * sz ∧ Rd w (row a vs) := by
 have key : ∀ (o off : Nat) (L : Nat × Nat),ρ o = some L → a = some ⟨L.1,off,none⟩ → (match Zk7 h o with | some c => bif Nat.ble (off + n * sz) c.length then some (seg c off (n * sz)) else none | none => none) = some cs → ∃ vs,RepL ρ cs vs ∧ vs.length = n * sz ∧ Rd w (row a vs) := by
  intro o off L hL ha hs
  subst ha
  split at hs
  ·rename_i c' hc
   replace hs := Zar hs; obtain ⟨hle,hs⟩ := hs; cases hs
   have hle := Zcd hle
   obtain ⟨L',vs,h1,h2,h3⟩ := Zn6 hR hc
   rw [hL] at h1; cases h1
   refine ⟨_,RepL.seg h2 off (n * sz),by simp [RepL.length h2]; omega,h3.mono ?_⟩
   have := row.part (a := some ⟨L.1,0,none⟩) (cs := vs) (cs' := (vs.drop off).take (n * sz)) (i := off) (fun j v hv => by
    rw [List.getElem?_take] at hv; split at hv
    ·simpa using hv
    ·cases hv)
   simpa [adr] using this
  ·cases hs
 unfold Zkd at hs
 split at hs
 ·replace hs := Zar hs; obtain ⟨h0,hs⟩ := hs; cases hs
  have := Zce h0; subst this
  exact ⟨[],rfl,by simp,Zka _ _⟩
 ·replace hs := Zar hs; obtain ⟨h0,hs⟩ := hs; cases hs
  have := Zce h0; subst this
  exact ⟨[],rfl,by simp,Zka _ _⟩
 ·obtain ⟨L,hL,_,hq⟩ := hu
  cases hq
  exact key _ _ L hL rfl hs
 ·replace hs := Zar hs; obtain ⟨h0,hs⟩ := hs
  have := Zce h0; subst this
  obtain ⟨L,hL,_,hq⟩ := hu
  cases hq
  exact key _ _ L hL rfl hs
 ·cases hs
theorem Zge : ∀ (c : List SV) (l : List Nat) (vs : List Value),Zgf c = some l → RepL ρ c vs → (∀ x ∈ l,x < 256) ∧ vs = bv (l.map UInt8.ofNat)
 | [],l,vs,h,hv => by
  simp only [Zgf,Option.some.injEq] at h; subst h; cases hv
  exact ⟨fun _ hx => (List.not_mem_nil hx).elim,rfl⟩
 | x :: r,l,vs,h,⟨v,l',h1,h2,hl⟩ => by
  subst hl
  unfold Zgf at h
  split at h
  ·rename_i q; cases q
  ·rename_i n r' q
   cases q
   replace h := Zar h; obtain ⟨hn,h⟩ := h
   have hn := Zcx hn
   split at h
   ·rename_i l2 hl2
    cases h
    obtain ⟨g1,g2⟩ := Zge r l2 l' hl2 h2
    cases h1
    refine ⟨fun y hy => ?_,?_⟩
    ·rcases List.mem_cons.1 hy with rfl | hy
     ·exact hn
     ·exact g1 y hy
    ·rw [g2]; simp [bv,Nat.mod_eq_of_lt hn]
   ·cases h
  ·cases h
theorem zeroV_ok (hΓ : Zd0 P Γ) {t : TypeId} {ti : TI} (hti : Γ.ty.get t = some ti) {z : SV} (h : zeroV ti = some z) : ∃ u,Rep ρ z u ∧ (zeroValue t).run P w = .ok u w := by
 obtain ⟨u,h1,h2,h3,h4⟩ := (hΓ t ti hti).inf
 obtain ⟨i,hi',hz',_⟩ := info_parts h1.inf
 have hq : (zeroValue t).run P w = .ok u w := by simp [zeroValue,typeInfo,hi',hz']
 refine ⟨u,?_,hq⟩
 unfold zeroV at h
 have hz := Zfa (ρ := ρ) _ _ h2
 rcases Zcc h with ⟨hb,h⟩ | ⟨hb,h⟩
 ·cases h
  obtain ⟨l,rfl⟩ := h3 hb
  exact ⟨l.toList,by simpa [Value.cells] using hz,by simp⟩
 ·split at h
  ·rename_i v hv
   cases h
   rw [h4 hb,hv] at hz
   obtain ⟨x,l',q1,q2,q3⟩ := hz
   simp at q3
   obtain ⟨rfl,_⟩ := q3
   exact q1
  ·cases h
theorem Zpg (hΓ : Zd0 P Γ) (he : EnvR ρ e σ) (hR : Zhu Ω ρ h w) {s : SV} (hs : Zfx Γ e h o.op = some s) : Zms P ρ o σ w s := by
 unfold Zfx at hs
 split at hs
 ·rename_i t x ho
  split at hs
  ·rename_i n off hx
   obtain ⟨u,⟨L,hL,rfl⟩,hx⟩ := Zbo he hx
   obtain ⟨L',v,h1,h2,h3⟩ := Zsk hΓ hR hs
   rw [hL] at h1; cases h1
   exact ⟨v,h2,⟨fun N ds a ha => by simp [execOp,ho,ha.eval hx,Instr.loadAt,Instr.sureAddr,h3]⟩⟩
  ·cases hs
 ·rename_i t x k ok ho
  split at hs
  ·rename_i kt el hd
   split at hs
   ·rename_i d hdk
    split at hs
    ·rename_i ti hti
     split at hs
     ·rename_i z hz
      split at hs
      ·rename_i v hv
       split at hs
       ·rename_i k' hk
        split at hs
        ·rename_i es hes
         obtain ⟨u,hu,hx⟩ := Zbo he hv
         obtain ⟨kv,hkv,hy⟩ := Zbo he hk
         obtain ⟨zu,hz1,hz2⟩ := zeroV_ok (w := w) hΓ hti hz
         have i1 := (Zcb hΓ hd).und
         have i2 := (Zcb hΓ hdk).und
         unfold findKey at hs
         have main : ∀ (l : List MapEntry) (r : Option SV),RepE ρ es l → (bif Zoe d k' then Zki d k' es else none) = some r →
           (∀ N ds a,Fr σ N ds a → ∀ q,(Instr.findKey kt kv l).run P w = .ok q w → (∀ b,(Instr.checkKey b 10000 kt kv).run P w = .ok () w) → (execOp a.eval o).run P w = .ok (.value (if ok then .tuple #[(q.map (·.2)).getD zu,.bool q.isSome] else (q.map (·.2)).getD zu)) w) →
           Zms P ρ o σ w (match r with | some v => (bif ok then .tup [v,.b true] else v) | none => (bif ok then .tup [z,.b false] else z)) := by
          intro l r hl hr hrun
          replace hr := Zar hr; obtain ⟨hko,hr⟩ := hr
          have hck : ∀ b,(Instr.checkKey b 10000 kt kv).run P w = .ok () w := fun b => run_checkKey (n := 9999) i2 (Zod hkv hko) b
          rcases Zoh hkv es l 0 r hl hr with ⟨rfl,g⟩ | ⟨s',j,u',rfl,g1,g,_⟩
          ·have hf := run_findKey (P := P) (w := w) i2 g
           cases ok
           ·exact ⟨zu,hz1,⟨fun N ds a ha => by rw [hrun N ds a ha _ hf hck]; rfl⟩⟩
           ·exact ⟨.tuple #[zu,.bool false],⟨[zu,.bool false],RepL.cons hz1 (RepL.cons rfl rfl),rfl⟩,⟨fun N ds a ha => by rw [hrun N ds a ha _ hf hck]; rfl⟩⟩
          ·have hf := run_findKey (P := P) (w := w) i2 g
           cases ok
           ·exact ⟨u',g1,⟨fun N ds a ha => by rw [hrun N ds a ha _ hf hck]; rfl⟩⟩
           ·exact ⟨.tuple #[u',.bool true],⟨[u',.bool true],RepL.cons g1 (RepL.cons rfl rfl),rfl⟩,⟨fun N ds a ha => by rw [hrun N ds a ha _ hf hck]; rfl⟩⟩
         have fin : ∃ r,(bif Zoe d k' then Zki d k' es else none) = some r ∧ s = (match r with | some v => (bif ok then .tup [v,.b true] else v) | none => (bif ok then .tup [z,.b false] else z)) := by
          split at hs
          ·rename_i v' q; cases hs; exact ⟨some v',q,rfl⟩
          ·rename_i q; cases hs; exact ⟨none,q,rfl⟩
          ·cases hs
         obtain ⟨r,hr,rfl⟩ := fin
         rcases Zjz hR hu hes with ⟨rfl,rfl⟩ | ⟨q,l,cl,rfl,hl,hb⟩
         ·refine main [] r rfl hr fun N ds a ha q hq hck => ?_
          simp only [execOp,ho,ha.eval hx,ha.eval hy,Instr.lookup,Sem.run_bind,run_underlying i1,hck,hq,Result.andThen_ok,Sem.run_pure]
          cases q <;> cases ok <;> simp [hz2]
         ·refine main l r hl hr fun N ds a ha q' hq hck => ?_
          have hg : (getObj q).run P w = .ok (.map l.toArray cl) w := by simp [getObj,Sem.run,hb]
          simp only [execOp,ho,ha.eval hx,ha.eval hy,Instr.lookup,Sem.run_bind,run_underlying i1,hg,hck,hq,Result.andThen_ok,Sem.run_pure]
          cases q' <;> cases ok <;> simp [hz2]
        ·cases hs
       ·cases hs
      ·cases hs
     ·cases hs
    ·cases hs
   ·cases hs
  ·cases hs
 ·rename_i s' d x ho
  split at hs
  ·rename_i el hds
   split at hs
   ·rename_i hel
    split at hs
    ·rename_i hdd
     split at hs
     ·rename_i v hv
      split at hs
      ·rename_i n hn
       split at hs
       ·rename_i c hc
        split at hs
        ·rename_i l hl
         cases hs
         obtain ⟨u,hu,hx⟩ := Zbo he hv
         obtain ⟨a,cp,rfl,_⟩ := Zd6 hu hn
         obtain ⟨vs,h1,h2,h3⟩ := Zkp hR hu hc
         obtain ⟨g1,g2⟩ := Zge c l vs hl h1
         subst g2
         refine ⟨_,⟨g1,rfl⟩,?_⟩
         rw [Zj4]
         exact Zia (hs := Zcb hΓ hds) (he := Zcb hΓ hel) (hd := Zcb hΓ hdd) ho hx h3 (by simpa using h2)
        ·cases hs
       ·cases hs
      ·cases hs
     ·cases hs
    ·cases hs
   ·cases hs
  ·cases hs
 ·rename_i args ts ho
  split at hs
  ·rename_i x t r hargs hts
   split at hs
   ·rename_i kt et hd
    split at hs
    ·rename_i v hv
     split at hs
     ·rename_i es hes
      cases hs
      obtain ⟨u,hu,hx⟩ := Zbo he hv
      refine ⟨_,rfl,⟨fun N ds a ha => ?_⟩⟩
      obtain ⟨c,hc⟩ := Zdx ho (by rw [hargs]; exact Zok hx) ha
      have hU := (Zcb hΓ hd).und
      obtain ⟨ts⟩ := ts
      simp only at hts; subst hts
      rw [hc]
      rcases Zjz hR hu hes with ⟨rfl,rfl⟩ | ⟨q,l,cl,rfl,hl,hb⟩
      ·simp [builtin,Builtin.len_,run_underlying hU,goInt]
      ·have hg : (getObj q).run P w = .ok (.map l.toArray cl) w := by simp [getObj,Sem.run,hb]
       have hlen : ∀ (es : List (SV × SV × Nat)) (l : List MapEntry),RepE ρ es l → l.length = es.length := by
        intro es
        induction es with
        | nil => intro l h; cases h; rfl
        | cons q es ih => intro l h; obtain ⟨k,v,n⟩ := q; obtain ⟨e,l',_,_,_,h4,rfl⟩ := h; simp [ih l' h4]
       simp [builtin,Builtin.len_,run_underlying hU,goInt,hg,hlen es l hl]
     ·cases hs
    ·cases hs
   ·cases hs
  ·cases hs
 ·cases hs
end
end Cr.Cl
namespace Cr.Cl
open Go Go.MapKept
set_option maxRecDepth 4000
section
variable {P : Program} {Γ : Ctx} {Ω : Opq} {ρ : Rho} {o : Oper} {σ : Env} {w : World} {e : Envs} {N : Nat} {ds : Md} {K : Env → World → Prop}
theorem Zi2 (z : List SV) : ∀ n,(rep n z).length = n * z.length
 | 0 => by simp [rep]
 | n + 1 => by simp [rep,Zi2 z n,Nat.add_mul]; omega
theorem RepL.rep {z : List SV} {zs : List Value} (h : RepL ρ z zs) : ∀ n,RepL ρ (Cl.rep n z) (List.replicate n zs).flatten
 | 0 => RepL.nil
 | n + 1 => by rw [List.replicate_succ,List.flatten_cons]; exact RepL.append h (RepL.rep h n)
theorem rep_get (zs : List Value) : ∀ (n i : Nat),i < n * zs.length → (List.replicate n zs).flatten[i]? = zs[i % zs.length]?
 | 0,i,h => by simp at h
 | n + 1,i,h => by
  rw [List.replicate_succ,List.flatten_cons]
  by_cases q : i < zs.length
  ·rw [List.getElem?_append_left q,Nat.mod_eq_of_lt q]
  ·have h' : i < n * zs.length + zs.length := by rw [Nat.add_mul,Nat.one_mul] at h; exact h
   have h2 : i % zs.length = (i - zs.length) % zs.length := Nat.mod_eq_sub_mod (by omega)
   rw [List.getElem?_append_right (by omega),rep_get zs n (i - zs.length) (by omega),← h2]
theorem Zle (zs : Array Value) (n : Nat) : (Array.range (n * zs.size)).map (zs[· % zs.size]!) = (List.replicate n zs.toList).flatten.toArray := by
  apply Array.ext'
  apply List.ext_getElem?
  intro i
  by_cases h : i < n * zs.size
  · have h0 : 0 < zs.size := by rcases Nat.eq_zero_or_pos zs.size with q | q; · rw [q] at h; simp at h
                                · exact q
    have hm : i % zs.size < zs.size := Nat.mod_lt _ h0
    have := rep_get zs.toList n i (by simpa using h)
    simp only [Array.length_toList] at this
    rw [show ((List.replicate n zs.toList).flatten.toArray).toList = (List.replicate n zs.toList).flatten from rfl,this]
    simp [h,hm]
  · rw [List.getElem?_eq_none (by simpa using h),List.getElem?_eq_none]
    simp only [List.length_flatten,List.map_replicate,List.sum_replicate_nat]
    simpa using h
theorem X_newSl {T sz a c d : Nat} {l : List Value} {ls : List SV} {W : World} {F : Nat → Prop} {rs : List Res} {n : Nat}
  (hrun : ∀ f,Fr σ N ds f → (execOp f.eval o).run P w = .ok (.value (.slice (some ⟨w.heap.size,0,none⟩) a c)) (w.alloc (.cells l.toArray T)))
  (hac : a ≤ c) (hl : l.length = c * sz) (hc : c ≤ maxLen) (hr : RepL ρ ls l) (hn : ρ n = none) (hd : o.dst = some d) (hN : Nat.blt d N = true) (hS : St W F rs w)
  (hk : ∀ L v w',Rep (ρ.add n L) (Mk.at (.sl a c) n) v → St W F (resO Ω (ρ.add n L) n (.grow T sz ls) :: rs) w' → K ((d,v) :: σ) w') : X P o N ds σ w K := ⟨fun f ha K' Q' hK => by
 unfold Oper.wp
 rw [hrun f ha]
 have := hK _ _ _ (ha.put (Zbp hN) (.slice (some ⟨w.heap.size,0,none⟩) a c)) (hk (w.heap.size,c) _ _ ⟨_,Rho.add_self _ _ _,hac,rfl⟩ ((hS.alloc (.cells l.toArray T)).head fun g hg =>
  ⟨(w.heap.size,c),l,Rho.add_self _ _ _,RepL.mono (Rho.add_le hn) _ _ hr,Zcs hl hc (by simp) g hg⟩))
 rw [← hd] at this
 exact this⟩
theorem Znm (hΓ : Zd0 P Γ) (he : EnvR ρ e σ) {ob : SO} {mk : Mk} (h : Zgk Γ e o.op = some (ob,mk)) {d n : Nat} (hn : ρ n = none) (hd : o.dst = some d) (hN : Nat.blt d N = true) {W : World} {F : Nat → Prop} {rs : List Res} (hS : St W F rs w)
    (hk : ∀ L v w',Rep (ρ.add n L) (mk.at n) v → St W F (resO Ω (ρ.add n L) n ob :: rs) w' → K ((d,v) :: σ) w') : X P o N ds σ w K := by
  unfold Zgk at h
  split at h
  · rename_i t ho
    split at h
    · rename_i ti hti
      cases h
      obtain ⟨z,h1,h2,_,_⟩ := (hΓ t ti hti).inf
      refine Zbe (l := z.cells.toList) ho (h := h1) (hl := ⟨by simp⟩) hd hN hS fun b w' hS' _ => hk (b,0) _ w' ⟨_,Rho.add_self _ _ _,rfl⟩ (hS'.head fun g hg => ⟨(b,0),_,Rho.add_self _ _ _,Zfa _ _ h2,hg⟩)
    · cases h
  · rename_i t x ho
    split at h
    · rename_i v hv
      cases h
      obtain ⟨u,hu,hx⟩ := Zbo he hv
      refine Zeg (l := u.cells.toList) ho hx (hl := ⟨by simp⟩) hd hN hS fun b w' hS' _ => hk (b,0) _ w' ⟨_,Rho.add_self _ _ _,rfl⟩ (hS'.head fun g hg => ⟨(b,0),_,Rho.add_self _ _ _,RepL.mono (Rho.add_le hn) _ _ (Rep.cells hu),hg⟩)
    · cases h
  · rename_i t len parts ho
    split at h
    · rename_i el hdd
      split at h
      · rename_i ti hti
        split at h
        · rename_i ps hps
          replace h := Zar h; obtain ⟨hsm,h⟩ := h
          replace h := Zar h; obtain ⟨hsm2,h⟩ := h
          split at h
          · rename_i l hl
            cases h
            have hsm := Zcd hsm
            have hsm2 := Zcd hsm2
            obtain ⟨z,h1,h2,_,_⟩ := (hΓ el ti hti).inf
            obtain ⟨i,hi',hz',hsz,hby⟩ := info_parts h1.inf
            have hzs := h1.zs
            obtain ⟨pv,ls,g1,g2,g3,g4⟩ := Zoj he _ _ _ _ _ hps hl (RepL.rep (Zfa (ρ := ρ) _ _ h2) len)
            have hu := (Zcb hΓ hdd).und
            have hzl : ti.zero.length = ti.size := by have := RepL.length (Zfa (ρ := ρ) _ _ h2); simp at this; omega
            refine X_newSl (T := el) (sz := ti.size) (l := ls) (fun f hf => ?_) (Nat.le_refl _) (by rw [RepL.length g2,g4,Zi2,hzl]) (by simp only [maxLen]; omega) g2 hn hd hN hS hk
            have e1 : parts.map (fun x => (x.1,f.eval x.2)) = pv.toArray := by rw [← hf.evalps g1]; apply Array.ext'; simp
            have hsm3 : ¬ (16777216 < len * ti.size) := by omega
            have hfl : Instr.fill (fun i => some (i * ti.size,ti.size)) ((Array.range (len * ti.size)).map (z.cells[· % z.cells.size]!)) pv = some ls.toArray := by
              rw [← hzs,Zle]
              rw [← hzs] at g3
              exact g3
            simp only [execOp,ho,e1,Sem.run_bind,Instr.buildSlice,run_underlying hu,Result.andThen_ok,Zb3 (h := Zr6 hΓ hti),hsm3,if_false]
            by_cases h00 : len * ti.size = 0
            · have er : (Array.range 0).map (z.cells[· % z.cells.size]!) = #[] := by simp [Array.range]
              have er2 : Array.range 0 = #[] := by simp [Array.range]
              have hlz : ls = [] := by
                apply List.eq_nil_of_length_eq_zero
                rw [RepL.length g2,g4,Zi2,hzl,h00]
              have hfl0 : Instr.fill (fun i => some (i * ti.size,ti.size)) #[] pv = some ls.toArray := by
                rw [h00,er] at hfl; exact hfl
              simp [h00,newRow,er2,hfl0]
            · simp [h00,newRow,zeroValue,typeInfo,hi',hz']
              rw [hfl]
              simp
          · cases h
        · cases h
      · cases h
    · cases h
  · rename_i t r ho
    have hm : (Instr.makeMap t none).run P w = .ok (.map (some w.heap.size)) (w.alloc (.map #[] 0)) := rfl
    have fin : ob = .mp [] 0 → mk = .m → (∀ f,Fr σ N ds f → (execOp f.eval o).run P w = .ok (.value (.map (some w.heap.size))) (w.alloc (.map #[] 0))) → X P o N ds σ w K := by
      rintro rfl rfl hrun
      refine ⟨fun f hf K' Q' hK => ?_⟩
      unfold Oper.wp
      rw [hrun f hf]
      have := hK _ _ _ (hf.put (Zbp hN) (.map (some w.heap.size))) (hk (w.heap.size,0) _ _ ⟨_,Rho.add_self _ _ _,rfl⟩ ((hS.alloc (.map #[] 0)).head fun g hg => ⟨(w.heap.size,0),[],Rho.add_self _ _ _,rfl,hg⟩))
      rw [← hd] at this
      exact this
    split at h
    · cases h
      exact fin rfl rfl fun f hf => by simp [execOp,ho,hm]
    · rename_i x
      split at h
      · rename_i kt et hdd
        split at h
        · rename_i k i hx
          cases h
          obtain ⟨u,hu,hx⟩ := Zbo he hx
          cases hu
          exact fin rfl rfl fun f hf => by
            have hu := (Zcb hΓ hdd).und
            simp only [execOp,ho,Option.map_some,hf.eval hx,Instr.makeMap,Sem.run_bind,run_underlying hu,Result.andThen_ok,asInt]
            rfl
        · cases h
      · cases h
  · rename_i t l c ho
    split at h
    · rename_i el hdd
      split at h
      · rename_i ti hti
        split at h
        · rename_i k a hx
          split at h
          · rename_i k' b hy
            replace h := Zar h; obtain ⟨h1,h⟩ := h
            replace h := Zar h; obtain ⟨h2,h⟩ := h
            replace h := Zar h; obtain ⟨h3,h⟩ := h
            cases h
            have h1 := Zcd h1; have h2 := Zcd h2; have h3 := Zcd h3
            obtain ⟨u,hu,hx⟩ := Zbo he hx
            obtain ⟨u',hu',hy⟩ := Zbo he hy
            cases hu; cases hu'
            obtain ⟨z,q1,q2,_,_⟩ := (hΓ el ti hti).inf
            obtain ⟨i,hi',hz',hsz,hby⟩ := info_parts q1.inf
            have hzs := q1.zs
            have hu := (Zcb hΓ hdd).und
            have hr := run_make (P := P) w t el i z hu hi' hz' k k' (.ofNat a) (.ofNat b) (by simp) (by simpa using h1) (by have h2' : ti.bytes * b ≤ 1000000000 := by { rw [Nat.mul_comm]; exact h2 }; have h2'' : ((ti.bytes * b : Nat) : Int) ≤ 1000000000 := Int.ofNat_le.2 h2'; rw [hby]; show (ti.bytes : Int) * ((b : Nat) : Int) ≤ 281474976710656; rw [← Int.natCast_mul]; omega) (by show ((b : Nat) : Int) ≤ 9223372036854775807; omega)
            refine X_newSl (T := el) (sz := ti.size) (l := (List.replicate b z.cells.toList).flatten) (fun f hf => ?_) h1 (by simp [List.length_flatten,hzs]) (by simp only [maxLen]; omega) (RepL.rep (Zfa _ _ q2) b) hn hd hN hS hk
            have e : madeCells z.cells (b * i.size) = (List.replicate b z.cells.toList).flatten.toArray := by
              rw [hsz,← hzs]; exact Zle z.cells b
            simp only [Int.ofNat_eq_natCast,Int.toNat_natCast] at hr
            rw [e] at hr
            simp [execOp,ho,hf.eval hx,hf.eval hy,hr]
          · cases h
        · cases h
      · cases h
    · cases h
  · rename_i s' dt x ho
    split at h
    · rename_i hs
      split at h
      · rename_i el hdd
        split at h
        · rename_i hel
          split at h
          · rename_i l hl
            replace h := Zar h; obtain ⟨h1,h⟩ := h
            cases h
            obtain ⟨u,⟨h256,rfl⟩,hx⟩ := Zbo he hl
            refine X_strBytes (s := l.map UInt8.ofNat) (hs := Zcb hΓ hs) (hd := Zcb hΓ hdd) (he := Zcb hΓ hel) ho hx hd hN hS fun b c w' hS' hc => ?_
            simp only [List.length_map] at hc ⊢
            refine hk (b,c) _ w' ⟨(b,c),Rho.add_self _ _ _,by simpa using hc,by simp⟩ (hS'.head fun g hg => ⟨(b,c),_,Rho.add_self _ _ _,?_,hg⟩)
            have key : ∀ l : List Nat,(∀ x ∈ l,x < 256) → RepL (ρ.add n (b,c)) (Zj3 l) (bv (l.map UInt8.ofNat)) := by
              intro l
              induction l with
              | nil => intro _; exact RepL.nil
              | cons q l ih =>
                intro hq
                refine RepL.cons ?_ (ih fun x hx => hq x (List.mem_cons_of_mem _ hx))
                have : q < 256 := hq q (List.mem_cons_self ..)
                show Value.int .u8 _ = Value.int .u8 _
                simp [Nat.mod_eq_of_lt this]
            exact key l h256
          · cases h
        · cases h
      · cases h
    · cases h
  · cases h
end
end Cr.Cl
namespace Cr.Cl
open Go Go.MapKept
set_option maxRecDepth 4000
section
variable {P : Program} {Γ : Ctx} {Ω : Opq} {ρ : Rho} {o : Oper} {σ : Env} {w : World} {e : Envs} {N : Nat} {ds : Md} {K : Env → World → Prop}
def putV (d : Option Tmp) (v : Value) (σ : Env) : Env := match d with | some d => (d,v) :: σ | none => σ
def Zrk (N : Nat) (d : Option Tmp) : Prop := ∀ k,d = some k → Nat.blt k N = true
theorem Fr.putV {N : Nat} {ds : Md} {a : Act} (h : Fr σ N ds a) {d : Option Tmp} (hN : Zrk N d) (v : Value) : Fr (Cl.putV d v σ) N ds (a.put d v) := by
 cases d with
 | none => exact h
 | some d => exact h.put (Zbp (hN d rfl)) v
theorem Znp {v : Value} {w' : World} (hrun : ∀ a,Fr σ N ds a → (execOp a.eval o).run P w = .ok (.value v) w' ∨ ((execOp a.eval o).run P w = .ok .skip w' ∧ v = undef)) (hN : Zrk N o.dst) (h : K (putV o.dst v σ) w') : X P o N ds σ w K := ⟨fun a ha K' Q' hK => by
 unfold Oper.wp
 rcases hrun a ha with hr | ⟨hr,rfl⟩
 ·rw [hr]; exact hK _ _ _ (Fr.putV ha hN v) h
 ·rw [hr]; exact hK _ _ _ (Fr.putV ha hN undef) h⟩
theorem St.heapRd {W : World} {F : Nat → Prop} {h : Heap} {rs : List Res} (hS : St W F (res Ω ρ h ++ rs) w) : Zhu Ω ρ h w := fun _ _ hg => St.rdO hg hS
theorem Zgt {W : World} {F : Nat → Prop} {h h' : Heap} {rs : List Res} (hS : St W F (res Ω ρ h ++ rs) w) {n off : Nat} (hn : n < top) {vs : List SV} {us : List Value} (hv : RepL ρ vs us) {L : Nat × Nat} (hL : ρ n = some L) (hs : Zif h n off vs = some h') :
  us ≠ [] ∧ (∀ u ∈ us,u.oneCell' = true) ∧ ∃ w',(storeCells ⟨L.1,off,none⟩ us 0).run P w = .ok () w' ∧ St W F (res Ω ρ h' ++ rs) w' := by
 unfold Zif at hs
 replace hs := Zar hs; obtain ⟨h1,hs⟩ := hs
 have hall : vs.all one1 = true ∧ us ≠ [] := by
  cases vs with
  | nil => cases h1
  | cons a r => obtain ⟨u,l',_,_,rfl⟩ := hv; exact ⟨h1,by simp⟩
 have h1c := RepL.ones hv hall.1
 refine ⟨hall.2,h1c,?_⟩
 have hlen := RepL.length hv
 split at hs
 ·rename_i t c hg
  replace hs := Zar hs; obtain ⟨hle,hs⟩ := hs; cases hs
  have hle := Zcd hle
  obtain ⟨f,⟨f1,f2,⟨L',ws,g1,g2,g3⟩,hs2,hd,hu⟩,s⟩ := St.out hn hg hS
  rw [hL] at g1; cases g1
  have hS2 : St W F (pts L.1 (.cells ws.toArray t (0,0)) :: (res Ω ρ (h.erase n) ++ rs)) w := ⟨f,⟨f1,f2,g3,hs2,hd,hu⟩,s⟩
  have hb := hS2.get
  have hw := RepL.length g2
  have hst := run_storeCells_at P L.1 off t us 0 ws.toArray w hb (by simp; omega) h1c
  simp only [Nat.add_zero] at hst
  have u := Zcp hb (Zby ws off us).toArray
  refine ⟨_,hst,St.back _ hn hg ((hS2.set u).head fun g hg => ⟨L,Zby ws off us,hL,RepL.lput g2 hv off,hg⟩)⟩
 ·rename_i t sz c hg
  replace hs := Zar hs; obtain ⟨hle,hs⟩ := hs; cases hs
  have hle := Zcd hle
  obtain ⟨f,⟨f1,f2,⟨L',ws,g1,g2,g3⟩,hs2,hd,hu⟩,s⟩ := St.out hn hg hS
  rw [hL] at g1; cases g1
  have hw := RepL.length g2
  have hus : 0 < us.length := List.length_pos_iff.2 hall.2
  obtain ⟨hl1,hcm,⟨h0,_⟩ | ⟨b,cs,hb1,rfl,hcz,ht⟩⟩ := g3
  ·rw [h0,Nat.zero_mul] at hl1; omega
  ·cases hb1
   have hS2 : St W F (pts L.1 (.cells cs t (0,0)) :: (res Ω ρ (h.erase n) ++ rs)) w := ⟨f,⟨_,f2,rfl,hs2,hd,hu⟩,s⟩
   have hb := hS2.get
   have hst := run_storeCells_at P L.1 off t us 0 cs w hb (by rw [hcz]; omega) h1c
   simp only [Nat.add_zero] at hst
   have u := Zcp hb (Zby cs.toList off us).toArray
   refine ⟨_,hst,St.back _ hn hg ((hS2.set u).head fun g hg => ⟨L,Zby ws off us,hL,RepL.lput g2 hv off,Zcs (l := Zby cs.toList off us) (by rw [Zdk (by simp; omega)]; simpa using hcz) hcm ?_ g hg⟩)⟩
   rw [Zdk (by omega)]
   have e1 : cs.toList = ws ++ cs.toList.drop ws.length := by
    have := List.take_append_drop ws.length cs.toList
    rw [ht] at this; exact this.symm
   rw [e1,Zf9 (by omega),List.take_append_of_le_length (by rw [Zdk (by omega)]; omega),List.take_of_length_le (by rw [Zdk (by omega)]; omega)]
 ·cases hs

/-! ### append -/
inductive AppArg (P : Program) (el size : Nat) (xt : TypeId) : Value → Nat → List Value → World → Prop where
 | sl {a2 : Option Addr} {m c2 : Nat} {news : List Value} {w : World} {e' : TypeId} (hu : P.underlying xt = some (.slice e')) (hr : Rd w (row a2 news)) (hl : news.length = m * size) : AppArg P el size xt (.slice a2 m c2) m news w
 | zs {k kk : IntKind} {m : Nat} {z : Value} {n b : Nat} {w : World} (hu : P.underlying xt = some (.int kk)) (hz : Inf P el z n b) (hn : n = size) (hm : m * b ≤ 1000000000) (hm2 : m ≤ 1000000000) : AppArg P el size xt (.int k (.ofNat m)) m (List.replicate m z.cells.toList).flatten w
 | st {l : List UInt8} {w : World} (hu : P.underlying xt = some .string) (hs : size = 1) : AppArg P el size xt (.string (str l)) l.length (bv l) w
theorem AppArg.drew {el size xt : Nat} {x : Value} {m : Nat} {news : List Value} (h : AppArg P el size xt x m news w) : AppArg P el size xt x m news w.drew := by
 cases h with
 | sl hu hr hl => exact .sl hu (by obtain ⟨g,hg,ha⟩ := hr; exact ⟨g,hg,ha⟩) hl
 | zs hu hz hn hm hm2 => exact .zs hu hz hn hm hm2
 | st hu hs => exact .st hu hs
theorem Zf7 (z : Array Value) (n : Nat) : Builtin.zeroCells z n = (List.replicate n z.toList).flatten.toArray := by
 unfold Builtin.zeroCells; exact Zle z n
theorem AppArg.length {el size xt : Nat} {x : Value} {m : Nat} {news : List Value} (h : AppArg P el size xt x m news w) : news.length = m * size := by
 cases h with
 | sl hu hr hl => exact hl
 | zs hu hz hn hm hm2 => have := hz.zs; simp [List.length_flatten,this,hn]
 | st hu hs => subst hs; simp
theorem Zhp (l : List UInt8) : (Builtin.firstCells 1 l.length (.string (str l))).run P w = .ok (bv l).toArray w := by
 simp [Builtin.firstCells,bv,str]
theorem Zgj {t tx ty el size bytes n m c : Nat} {a : Option Addr} {x : Value} {news : List Value} {z : Value} (hu : P.underlying t = some (.slice el)) (hi : Inf P el z size bytes) (hx : AppArg P el size tx x m news w) (hroom : n + m ≤ c) {w' : World}
  (hst : match a with | some b => (storeCells (b.add (n * size)) news 0).run P w = .ok () w' | none => w' = w) :
  (Builtin.append_ #[t,tx] ty #[.slice a n c,x]).run P w = .ok (.slice a (n + m) c) w' := by
 obtain ⟨i,hi',hz',hsz,hby⟩ := info_parts hi.inf
 subst hsz hby
 cases hx with
 | sl hxu hr hl =>
  have hf := fun c2 => Zb5 (P := P) (size := i.size) (m := m) (c := c2) hr hl
  cases a with
  | none => simp at hst; subst hst; simp [Builtin.append_,run_underlying hu,run_underlying hxu,Go.sizeOf,typeInfo,hi',Builtin.lenOf,hf,hroom]
  | some b => simp at hst; simp [Builtin.append_,run_underlying hu,run_underlying hxu,Go.sizeOf,typeInfo,hi',Builtin.lenOf,hf,hroom,hst]
 | zs hxu hz hn hm hm2 =>
  obtain ⟨i2,hi2,hz2,hsz2,hby2⟩ := info_parts hz.inf
  rw [hi'] at hi2; cases hi2
  rw [hz'] at hz2; cases hz2
  have hwr : IntKind.i64.wrap (m : Int) = m := w64 (by omega) (by omega)
  have h48 : ¬ ((281474976710656 : Int) < (m : Int) * (i.bytes : Int)) := by
   rw [← hby2] at hm
   have : ((m * i.bytes : Nat) : Int) ≤ 1000000000 := Int.ofNat_le.2 hm
   rw [← Int.natCast_mul]; omega
  have hneg : ¬ ((m : Int) < 0) := by omega
  have hzz := hz.zs
  have hzv : ∀ w0,(zeroValue el).run P w0 = .ok z w0 := fun w0 => by simp [zeroValue,typeInfo,hi',hz']
  by_cases h0 : m * i.size = 0
  ·have he : (List.replicate m z.cells.toList).flatten = [] := by
    apply List.eq_nil_of_length_eq_zero
    simp [List.length_flatten,hzz,← hsz2,h0]
   rw [he] at hst
   cases a with
   | none => simp at hst; subst hst; simp [Builtin.append_,run_underlying hu,run_underlying hxu,Go.sizeOf,typeInfo,hi',asInt,asIntOf,hwr,h48,hneg,hroom,h0]
   | some b => simp [Builtin.append_,run_underlying hu,run_underlying hxu,Go.sizeOf,typeInfo,hi',asInt,asIntOf,hwr,h48,hneg,hroom,h0,hst]
  ·cases a with
   | none => simp at hst; subst hst; simp [Builtin.append_,run_underlying hu,run_underlying hxu,Go.sizeOf,typeInfo,hi',asInt,asIntOf,hwr,h48,hneg,hroom,hzv]
   | some b => simp only at hst; simp [Builtin.append_,run_underlying hu,run_underlying hxu,Go.sizeOf,typeInfo,hi',asInt,asIntOf,hwr,h48,hneg,hroom,h0,hzv,Zf7,hst]
 | st hxu hs =>
  have hf := Zhp (P := P) (w := w) ‹List UInt8›
  rw [← hs] at hf
  cases a with
  | none => simp at hst; subst hst; simp [Builtin.append_,run_underlying hu,run_underlying hxu,Go.sizeOf,typeInfo,hi',Builtin.lenOf,Zd3,hf,hroom]
  | some b => simp at hst; simp [Builtin.append_,run_underlying hu,run_underlying hxu,Go.sizeOf,typeInfo,hi',Builtin.lenOf,Zd3,hf,hroom,hst]
theorem Zjg {t tx ty el size bytes n m c : Nat} {a : Option Addr} {x : Value} {cs news : List Value} {z : Value} {W : World} {F : Nat → Prop} {rs : List Res} (hu : P.underlying t = some (.slice el)) (hi : Inf P el z size bytes) (hx : AppArg P el size tx x m news w) (hroom : ¬ n + m ≤ c)
  (hS : St W F rs w) (hold : Rd w (row a cs)) (hcs : cs.length = n * size) (hfit : (n + m) * bytes ≤ 140737488355328) (hmax : n + m ≤ maxLen) :
  ∃ b c' w',(Builtin.append_ #[t,tx] ty #[.slice a n c,x]).run P w = .ok (.slice (some ⟨b,0,none⟩) (n + m) c') w' ∧ St W F (own el size (some ⟨b,0,none⟩) c' (cs ++ news) :: rs) w' ∧ n + m ≤ c' := by
 obtain ⟨i,hi',hz',hsz,hby⟩ := info_parts hi.inf
 have hz := hi.zs
 have hlen1 := hx.length
 subst hsz hby
 have hlt : ((n + m : Nat) : Int) ≤ 9223372036854775807 := by simp only [maxLen] at hmax; omega
 have hge : n + m ≤ grownCap w (n + m) c el := grownCap_ge w (n + m) c el
 have hcm : grownCap w (n + m) c el ≤ maxLen := grownCap_le_maxLen w (n + m) c el hmax
 have hmin : ¬ (9223372036854775807 < ((n : Int) + (m : Int))) := by omega
 have h48 : ¬ (281474976710656 < Builtin.nextslicecap (n + m) c * i.bytes) := by have := growslice_fits (show c < n + m by omega) hfit; omega
 have hod : (Builtin.firstCells i.size n (.slice a n c)).run P w.drew = .ok cs.toArray w.drew := Zb5 (P := P) (size := i.size) (by
   obtain ⟨g,hg,ha⟩ := hold; exact ⟨g,hg,ha⟩) hcs
 have hzv : ∀ w0,(zeroValue el).run P w0 = .ok z w0 := fun w0 => by simp [zeroValue,typeInfo,hi',hz']
 let blk := cs.toArray ++ news.toArray ++ Builtin.zeroCells z.cells (grownCap w (n + m) c el - (n + m))
 refine ⟨w.heap.size,grownCap w (n + m) c el,w.drew.alloc (.cells blk el),?_,?_,hge⟩
 ·cases hx.drew with
  | sl hxu hr hl =>
   have hf := fun c2 => Zb5 (P := P) (size := i.size) (m := m) (c := c2) hr hl
   simp [Builtin.append_,run_underlying hu,run_underlying hxu,Go.sizeOf,typeInfo,zeroValue,hi',hz',Builtin.lenOf,hroom,hmin,h48,Question.forced,hod,hf,newRow,grownCap,blk]
  | zs hxu hzz hn hm hm2 =>
   obtain ⟨i2,hi2,hz2,hsz2,hby2⟩ := info_parts hzz.inf
   rw [hi'] at hi2; cases hi2
   rw [hz'] at hz2; cases hz2
   have hwr : IntKind.i64.wrap (m : Int) = m := w64 (by omega) (by omega)
   have h48' : ¬ ((281474976710656 : Int) < (m : Int) * (i.bytes : Int)) := by
    rw [← hby2] at hm
    have : ((m * i.bytes : Nat) : Int) ≤ 1000000000 := Int.ofNat_le.2 hm
    rw [← Int.natCast_mul]; omega
   have hneg : ¬ ((m : Int) < 0) := by omega
   by_cases h0 : m * i.size = 0
   ·have he : (List.replicate m z.cells.toList).flatten = [] := by
     apply List.eq_nil_of_length_eq_zero
     simp [List.length_flatten,hz,h0]
    simp [Builtin.append_,run_underlying hu,run_underlying hxu,Go.sizeOf,typeInfo,hi',asInt,asIntOf,hwr,h48',hneg,hroom,hmin,h48,h0,he,Question.forced,hod,newRow,grownCap,blk,zeroValue,hz']
   ·simp [Builtin.append_,run_underlying hu,run_underlying hxu,Go.sizeOf,typeInfo,hi',asInt,asIntOf,hwr,h48',hneg,hroom,hmin,h48,h0,Question.forced,hod,newRow,grownCap,blk,zeroValue,hz',Zf7]
  | st hxu hs =>
   have hf := Zhp (P := P) (w := w.drew) ‹List UInt8›
   rw [← hs] at hf
   simp [Builtin.append_,run_underlying hu,run_underlying hxu,Go.sizeOf,typeInfo,zeroValue,hi',hz',Builtin.lenOf,Zd3,hroom,hmin,h48,Question.forced,hod,hf,newRow,grownCap,blk]
 ·have hlen : blk.toList.length = grownCap w (n + m) c el * i.size := by
   simp only [blk,Array.length_toList,Array.size_append,List.size_toArray,size_zeroCells,hz,hcs,hlen1,← Nat.add_mul]
   congr 1; omega
  have h3 := hS.drew.alloc (.cells blk el)
  refine St.imp h3 fun g hg => hg.mono_head ?_
  have key := Zcs (T := el) (e := i.size) (c := grownCap w (n + m) c el) (b := w.heap.size) (l := blk.toList) (cs := cs ++ news) hlen hcm (by simp only [blk,Array.toList_append]; exact List.take_left)
  simpa using key
end
end Cr.Cl
