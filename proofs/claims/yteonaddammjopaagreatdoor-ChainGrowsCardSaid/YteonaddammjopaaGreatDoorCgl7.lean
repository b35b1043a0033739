/-
  Layer 4 (wal): found.
  Layer 4 (wal): redo.
  sync.Mutex,sync.Once,as one goroutine meets them.
  Layer 4 (wal): Once.Do at Open; Open.
  Layer 4 (wal): Open,Read.
  Layer 4 (wal): Commit.
  Places that are met twice.
-/
import Derived.Test.YteonaddammjopaaGreatDoorCgl6
import Derived.Test.YteonaddammjopaaGreatDoorCgl5
import Derived.Laws.LoneSync
namespace Cr
open Go Go.Proofs
set_option maxRecDepth 100000
set_option maxHeartbeats 8000000
attribute [local irreducible] Calls
instance : NoGuard Tryz.prog 23 := ⟨by kernel_rfl⟩

theorem entM_d (D : DiskM) (hok : D.ok) (j : Nat) (number at_ : Int) : (entM D j number at_).d.length = 32 := by
 unfold entM
 split
 ·simp [Ent.none]
 ·split
  ·simp [Ent.none]
  ·rename_i h
   have h1 : (D.read (1 + 2 * at_)).1 = 0 := Decidable.byContradiction fun e => h (.inl e)
   have := Zi3 hok h1
   simp [entOf,this]
theorem entM_ok {D : DiskM} {j : Nat} {number at_ : Int} (h : (entM D j number at_).ok = true) : 0 ≤ at_ ∧ at_ < (j : Int) / 2 := by
 unfold entM at h
 split at h
 ·simp [Ent.none] at h
 ·rename_i h'; omega
theorem entM_b (D : DiskM) (hok : D.ok) (j : Nat) (number at_ : Int) : (entM D j number at_).b.length ≤ 64 := by
 unfold entM
 split
 ·simp [Ent.none]
 ·split
  ·simp [Ent.none]
  ·rename_i h
   have h1 : (D.read (1 + 2 * at_ + 1)).1 = 0 := Decidable.byContradiction fun e => h (.inr e)
   have := Zi3 hok h1
   simp [entOf,this]
theorem Zir (number : Int) (d : List (Int × List UInt8)) (h : ∀ x ∈ d,x.2.length ≤ 64) : (Zcv (Zg9 number d)).length ≤ 20 + d.length * 76 := by
 have key : ∀ d : List (Int × List UInt8),(∀ x ∈ d,x.2.length ≤ 64) → (Zcv (d.flatMap fun v => [bigB v.1 4,v.2])).length ≤ d.length * 76 := by
  intro d
  induction d with
  | nil => intro _; simp [Zcv]
  | cons x d ih =>
   intro h
   have h1 := ih fun y hy => h y (List.mem_cons_of_mem _ hy)
   have h2 := h x (List.mem_cons_self ..)
   simp only [Zcv,List.flatMap_cons,List.cons_append,List.nil_append,List.length_append,Zc7,Za0,List.length_cons] at h1 ⊢
   omega
 have h1 := key d h
 unfold Zcv at h1
 simp only [Zg9,Zcv,List.flatMap_cons,List.cons_append,List.nil_append,List.length_append,Zc7,Za0]
 omega
def entW (e : Ent) : Int × List UInt8 := (e.no,e.b)
def Zlr (e0 e : Ent) : Bool := e.ok && decide (e.count = e0.count) && decide (e.d = e0.d)
def Zed (D : DiskM) (j : Nat) (number : Int) (n : Nat) : List Ent := (List.range n).map fun i => entM D j number (i : Nat)
theorem Zp0 (D : DiskM) (j : Nat) (number : Int) (n : Nat) : Zed D j number (n + 1) = Zed D j number n ++ [entM D j number (n : Nat)] := by simp [Zed,List.range_succ]
def Zpv (D : DiskM) (j : Nat) (number : Int) : Option (List (Int × List UInt8)) :=
 if (entM D j number 0).ok = true ∧ 1 ≤ (entM D j number 0).count then
  if (Zed D j number (entM D j number 0).count.toNat).all (Zlr (entM D j number 0)) = true then some ((Zed D j number (entM D j number 0).count.toNat).map entW) else none
 else none
def Zey (rd fs : List Int) (D : DiskM) (j : Nat) (number : Int) : List (Int × List UInt8) :=
 match Zpv D j number with
 | none => []
 | some ws => if Zdm ws = 0 ∧ sumB rd fs number ws = (entM D j number 0).d then ws else []
theorem Zrs {D : DiskM} {j : Nat} {number : Int} {e0 : Ent} {n i : Nat} (hi : i < n) (h : Zlr e0 (entM D j number (i : Nat)) = false) : (Zed D j number n).all (Zlr e0) = false := by
 rw [List.all_eq_false]
 exact ⟨_,List.mem_map.2 ⟨i,List.mem_range.2 hi,rfl⟩,by simp [h]⟩
theorem found_ (lp p : Nat) (o s m : Int) (j : Nat) (done : Int) (rdn : Bool) (D : DiskM) (number : Int) (rd fs : List Int) (W : World) (hG : Gl W noF rd fs) (hL : Rd W (Zdr lp p o s m j done rdn)) (hD : Rd W (disk p D)) (hj : j ≤ 4096) (hline : D.line.length < 1073741824) :
  Calls Tryz.prog 162 #[.pointer (some ⟨lp,0,none⟩),.int .i64 number] W (Ret fun v w => ∃ a c ws O,v = .slice a ws.length c ∧ ws.map Wr.data = Zey rd fs D j number ∧ (a = none ↔ ws = []) ∧ (∀ v ∈ ws,v.x ∈ O) ∧
   St W noF [own 237 2 a c (ws.flatMap Wr.cells),rds O] w) := by
 have hS := St.start W
 have hLo := hL.ro
 have hDo := hD.ro
 have hok := hD.disk.1
 obtain ⟨e0,he0⟩ : ∃ e0,e0 = entM D j number 0 := ⟨_,rfl⟩
 have hd0 : e0.d.length = 32 := he0 ▸ entM_d D hok j number 0
 have hl0 : LenO (bv e0.d) 32 := ⟨by simp [hd0]⟩
 have hnil : ∀ w,St W noF [] w → Zey rd fs D j number = [] → ∃ a c ws O,(Value.slice none 0 0) = .slice a ws.length c ∧ ws.map Wr.data = Zey rd fs D j number ∧ (a = none ↔ ws = []) ∧ (∀ v ∈ ws,v.x ∈ O) ∧
   St W noF [own 237 2 a c (ws.flatMap Wr.cells),rds O] w := fun w h e => ⟨none,0,[],[],rfl,by rw [e]; rfl,by simp,by simp,h.rdsNil.own_none _ _ _⟩
 refine Zas Tryz.func162 rfl Tryz.ntmps162 rfl ?_
 repeat (first|(refine G_id ?_;first|refine Zah ?_|refine Zab rfl rfl ?_)|(refine X_id ?_;first|refine X_yl (Zad rfl rfl) rfl rfl ?_|refine X_yl (Zac rfl rfl) rfl rfl ?_)|(refine C_id ?_;first|refine Zak ?_|refine Zr0 rfl ?_|refine Zaa ?_)|(refine E_id ?_;first|refine Zae ?_))
 refine Zan _ rfl rfl rfl rfl rfl (entry_ lp p o s m j done rdn D number 0 _ (hLo.rd hS) (hDo.rd hS) hj hline (by omega)) ?_
 rintro _ w ⟨a0,c0,rfl,hc0,hS'⟩
 replace hS := hS.plus hS'
 clear hS'
 rw [← he0] at hS hc0 ⊢
 have hfl : Zpv D j number = if e0.ok = true ∧ 1 ≤ e0.count then if (Zed D j number e0.count.toNat).all (Zlr e0) = true then some ((Zed D j number e0.count.toNat).map entW) else none else none := by unfold Zpv; rw [← he0]
 obtain ⟨no0,b0,n0,d0,ok0⟩ := e0
 simp only at hd0 hl0 hfl hS hc0
 unfold Ent.val
 simp only
 cases ok0
 ·repeat (first|(refine G_id ?_;first|refine Zah ?_|refine Zab rfl rfl ?_|refine G_no rfl rfl rfl rfl rfl rfl ?_)|(refine X_id ?_;first|refine X_yl (Zad rfl rfl) rfl rfl ?_|refine X_yl (Zac rfl rfl) rfl rfl ?_|refine X_yl (Zbq rfl rfl) rfl rfl ?_|refine X_yl (Zbr rfl rfl rfl) rfl rfl ?_|refine X_yl (Zb8 rfl rfl) rfl rfl ?_|refine Za1 rfl rfl rfl rfl hS (fun _ hS _ => ?_)|refine Zbe rfl rfl rfl hS (fun _ _ hS _ => ?_))|(refine C_id ?_;first|refine Zak ?_|refine Zaa ?_|refine Za2 ?_|refine Zam rfl ?_)|(refine E_id ?_;first|refine Zae ?_|refine Zat ?_|refine Zek (fun _ h => by cases h) ?_|refine Zax rfl (Zap rfl) (Ret.mk ?_)))
  refine hnil _ hS.drops ?_
  unfold Zey
  rw [hfl,if_neg (by simp)]
 ·by_cases h1 : n0 < 1
  ·repeat (first|(refine G_id ?_;first|refine Zah ?_|refine Zab rfl rfl ?_|refine Zcu rfl rfl rfl rfl ?_)|(refine X_id ?_;first|refine X_yl (Zad rfl rfl) rfl rfl ?_|refine X_yl (Zac rfl rfl) rfl rfl ?_|refine X_yl (Zbq rfl rfl) rfl rfl ?_|refine X_yl (Zbb rfl rfl rfl) rfl rfl ?_|refine X_yl (Zbl rfl rfl) rfl rfl ?_|refine X_yl (Za3 rfl rfl rfl (by omega)) rfl rfl ?_|refine Za1 rfl rfl rfl rfl hS (fun _ hS _ => ?_)|refine Zbe rfl rfl rfl hS (fun _ _ hS _ => ?_))|(refine C_id ?_;first|refine Zak ?_|refine Zaa ?_|refine Za2 ?_|refine Zam rfl ?_)|(refine E_id ?_;first|refine Zae ?_|refine Zat ?_|refine Zek (fun _ h => by cases h) ?_|refine Zax rfl (Zap rfl) (Ret.mk ?_)))
   refine hnil _ hS.drops ?_
   unfold Zey
   rw [hfl,if_neg (by omega)]
  ·repeat (first|(refine G_id ?_;first|refine Zah ?_|refine Zab rfl rfl ?_|refine Zcu rfl rfl rfl rfl ?_)|(refine X_id ?_;first|refine X_yl (Zad rfl rfl) rfl rfl ?_|refine X_yl (Zac rfl rfl) rfl rfl ?_|refine X_yl (Zbq rfl rfl) rfl rfl ?_|refine X_yl (Zbb rfl rfl rfl) rfl rfl ?_|refine X_yl (Zbl rfl rfl) rfl rfl ?_|refine X_yl (Za7 rfl rfl rfl (by omega)) rfl rfl ?_|refine Za1 rfl rfl rfl rfl hS (fun _ hS _ => ?_)|refine Zbe rfl rfl rfl hS (fun _ _ hS _ => ?_))|(refine C_id ?_;first|refine Zak ?_|refine Zr2 ?_|refine Zaa ?_|refine Zaq ?_|refine Zaw ?_|refine Zaj rfl ?_)|(refine E_id ?_;first|refine Zae ?_))
   rename_i b6 w6 _ _ b8 w8 _ _ w9 _ _ w10 _
   replace hS := (hS.pick [0]).rdsNil.own_none 237 2 none
   rw [if_pos ⟨rfl,by omega⟩] at hfl
   have hbad : ∀ i : Nat,i < n0.toNat → Zlr ⟨no0,b0,n0,d0,true⟩ (entM D j number (i : Nat)) = false → Zey rd fs D j number = [] := fun i hi h => by
    unfold Zey
    rw [hfl,if_neg (by rw [Zrs hi h]; simp)]
   refine Zb7 (α := Nat × Option Addr × Nat × List Wr × List Bs) (fun z => [(0,.pointer (some ⟨lp,0,none⟩)),(1,.int .i64 number),(5,.slice z.2.1 z.2.2.2.1.length z.2.2.1),(7,.int .i64 n0),(8,.pointer (some ⟨b8,0,none⟩)),(10,.int .i64 (z.1 : Nat))])
    (fun z w => (z.1 ≤ n0.toNat ∧ z.1 ≤ 2048 ∧ z.2.2.2.1.length = z.1 ∧ z.2.2.2.1.length ≤ z.2.2.1) ∧ (z.2.2.2.1.map Wr.data = (Zed D j number z.1).map entW ∧ (Zed D j number z.1).all (Zlr ⟨no0,b0,n0,d0,true⟩) = true ∧ (z.2.1 = none ↔ z.1 = 0) ∧ (∀ v ∈ z.2.2.2.1,v.x ∈ z.2.2.2.2) ∧ (∀ v ∈ z.2.2.2.1,v.x.s.length ≤ 64)) ∧
     St W noF [own 237 2 z.2.1 z.2.2.1 (z.2.2.2.1.flatMap Wr.cells),rds z.2.2.2.2,pts b8 (.cells (bv d0).toArray 23)] w) (fun z => n0.toNat - z.1)
    (0,none,0,[],[]) ⟨rfl,rfl,rfl,rfl,rfl,rfl,trivial⟩ ⟨⟨Nat.zero_le _,Nat.zero_le _,rfl,Nat.le_refl _⟩,⟨rfl,rfl,by simp,by simp,by simp⟩,hS⟩ ?_
   clear hS
   rintro ⟨i,a5,c5,ws,O⟩ w ⟨⟨hi,hi2,hwl,hwc⟩,⟨hwd,hgood,hnone,hO,hw64⟩,hS⟩
   simp only at hi hi2 hwl hwc hwd hgood hnone hO hw64 hS ⊢
   by_cases hlt : i < n0.toNat
   ·have hlt' : (i : Int) < n0 := by omega
    repeat (first|(refine G_id ?_;first|refine Zah ?_|refine Zab rfl rfl ?_)|(refine X_id ?_;first|refine X_yl (Zad rfl rfl) rfl rfl ?_|refine X_yl (Za3 rfl rfl rfl (by omega)) rfl rfl ?_)|(refine C_id ?_;first|refine Zak ?_|refine Zaa ?_|refine Zaq ?_|refine Zaw ?_|refine Zam rfl ?_)|(refine E_id ?_;first|refine Zae ?_))
    refine Zan _ rfl rfl rfl rfl rfl (entry_ lp p o s m j done rdn D number (i : Nat) _ (hLo.rd hS) (hDo.rd hS) hj hline (by omega)) ?_
    rintro _ w ⟨a1,c1,rfl,hc1,hS'⟩
    replace hS := hS.plus hS'
    clear hS'
    have hok1 := fun h => (entM_ok (D := D) (j := j) (number := number) (at_ := (i : Nat)) h)
    have hsucc := Zp0 D j number i
    have hd1 := entM_d D hok j number (i : Nat)
    have hbadi := hbad i hlt
    have hb1 := entM_b D hok j number (i : Nat)
    generalize entM D j number (i : Nat) = e1 at hS hc1 hok1 hsucc hd1 hbadi hb1 ⊢
    obtain ⟨no1,b1,n1,d1,ok1⟩ := e1
    simp only at hd1 hS hc1 hok1 hb1
    have hl1 : LenO (bv d1) 32 := ⟨by simp [hd1]⟩
    unfold Ent.val
    simp only
    cases ok1
    ·have hf := hbadi (by simp [Zlr])
     repeat (first|(refine G_id ?_;first|refine Zah ?_|refine Zab rfl rfl ?_|refine G_no rfl rfl rfl rfl rfl rfl ?_)|(refine X_id ?_;first|refine X_yl (Zad rfl rfl) rfl rfl ?_|refine X_yl (Zac rfl rfl) rfl rfl ?_|refine X_yl (Zbq rfl rfl) rfl rfl ?_|refine X_yl (Zbr rfl rfl rfl) rfl rfl ?_|refine X_yl (Zb8 rfl rfl) rfl rfl ?_|refine Za1 rfl rfl rfl rfl hS (fun _ hS _ => ?_)|refine Zbe rfl rfl rfl hS (fun _ _ hS _ => ?_))|(refine C_id ?_;first|refine Zak ?_|refine Zaa ?_|refine Zb0 ?_|refine Zam rfl ?_)|(refine E_id ?_;first|refine Zae ?_|refine Zav ?_|refine Zaz ?_|refine Zku rfl ?_))
     refine Zci (.s 0 (.s 1 (.s 2 (.s 3 (.h 4 (.s 5 (.s 6 (.s 7 (.s 8 (.s 9 (.s 11 (.h 10 (.s 12 (.s 13 .nil)) .no))))))) .no))))) mixed (by kernel_rfl) rfl ?_
     have hS := hS.drew
     repeat (first|(refine G_id ?_;first|refine Zah ?_|refine Zab rfl rfl ?_)|(refine X_id ?_;first|refine X_yl (Zac rfl rfl) rfl rfl ?_)|(refine C_id ?_;first|refine Zak ?_|refine Zaa ?_|refine Za2 ?_|refine Zam rfl ?_)|(refine E_id ?_;first|refine Zae ?_|refine Zat ?_|refine Zek (fun _ h => by cases h) ?_|refine Zax rfl (Zap rfl) (Ret.mk ?_))|(refine Zbj ?_;first|refine Zbw ?_|refine Zag rfl rfl (fun _ => Zad rfl rfl) rfl rfl ?_|refine Zag rfl rfl (fun _ => Zbr rfl rfl rfl) rfl rfl ?_|refine Zag rfl rfl (fun _ => Zcr rfl rfl rfl) rfl rfl ?_|refine Zf6 rfl rfl rfl rfl rfl rfl rfl ?_|refine GO_no rfl rfl rfl rfl rfl rfl rfl ?_))
     exact hnil _ hS.drops hf
    ·by_cases hn : n1 = n0
     ·by_cases hd : d1 = d0
      ·subst hn hd
       repeat (first|(refine G_id ?_;first|refine Zah ?_|refine Zab rfl rfl ?_|refine Zcu rfl rfl rfl rfl ?_)|(refine X_id ?_;first|refine X_yl (Zad rfl rfl) rfl rfl ?_|refine X_yl (Zac rfl rfl) rfl rfl ?_|refine X_yl (Zbq rfl rfl) rfl rfl ?_|refine X_yl (Zbb rfl rfl rfl) rfl rfl ?_|refine X_yl (Zbl rfl rfl) rfl rfl ?_|refine X_yl (Zb1 rfl rfl rfl (by omega)) rfl rfl ?_|refine X_yl (Zbc rfl rfl hS.cellsN) rfl rfl ?_|refine Za1 rfl rfl rfl rfl hS (fun _ hS _ => ?_)|refine Zbe rfl rfl rfl hS (fun _ _ hS _ => ?_))|(refine C_id ?_;first|refine Zak ?_|refine Zaa ?_)|(refine E_id ?_;first|refine Zae ?_))
       refine X_yl (Zf4 rfl rfl rfl hd1 hd0) rfl rfl ?_
       rw [decide_eq_false (not_not_intro rfl)]
       repeat (first|(refine G_id ?_;first|refine Zah ?_|refine Zab rfl rfl ?_)|(refine X_id ?_;first|refine X_yl (Zad rfl rfl) rfl rfl ?_|refine X_yl (Zbb rfl rfl rfl) rfl rfl ?_|refine X_yl (Zbc rfl rfl hS.cellsN) rfl rfl ?_|refine Za6 rfl rfl rfl rfl rfl rfl rfl rfl hS (fun _ _ hS _ => ?_))|(refine C_id ?_;first|refine Zaa ?_|refine Zaw ?_|refine Zaj rfl ?_)|(refine E_id ?_;first|refine Zae ?_))
       have hok2 := hok1 rfl
       refine Zc4 rfl rfl rfl rfl rfl hS (Zfd (f := Wr.cells) (n := 2) fun _ _ => rfl) hwc (hS.rd (List.mem_cons_self ..)).own_row rfl (fun u hu => by
        simp only [List.mem_cons,List.not_mem_nil,or_false] at hu
        rcases hu with rfl | rfl <;> rfl) (by omega) (by simp only [maxLen]; omega) (fun a' c' w hS hc' hnil' => ?_)
       repeat (first|(refine G_id ?_;first|refine Zah ?_|refine Zab rfl rfl ?_)|(refine X_id ?_;first|refine X_yl (Zad rfl rfl) rfl rfl ?_|refine X_yl (Zac rfl rfl) rfl rfl ?_|refine X_yl (Zbk rfl rfl rfl (w64 (by omega) (by omega))) rfl rfl ?_)|(refine C_id ?_;first|refine Zaa ?_)|(refine E_id ?_;first|refine Zae ?_|refine Zbf ?_))
       refine Zbu (z := (i,a5,c5,ws,O)) (i + 1,a',c',ws ++ [(⟨no1,⟨a1,c1,b1⟩⟩ : Wr)],O ++ [(⟨a1,c1,b1⟩ : Bs)]) ⟨rfl,rfl,?_,rfl,rfl,rfl,trivial⟩ ⟨⟨by simp only; omega,by simp only; omega,by simp; omega,by simp; omega⟩,⟨?_,?_,?_,?_,?_⟩,?_⟩ (by simp only; omega)
       ·show some _ = some _
        simp
       ·show (ws ++ _).map Wr.data = _
        rw [hsucc,List.map_append,List.map_append,hwd]
        rfl
       ·show (Zed D j number (i + 1)).all _ = true
        rw [hsucc,List.all_append,hgood]
        simp [Zlr]
       ·show a' = none ↔ i + 1 = 0
        rw [hnil']; simp
       ·intro v hv
        simp only [List.mem_append,List.mem_singleton] at hv ⊢
        rcases hv with hv | rfl
        ·exact .inl (hO v hv)
        ·exact .inr rfl
       ·intro v hv
        simp only [List.mem_append,List.mem_singleton] at hv
        rcases hv with hv | rfl
        ·exact hw64 v hv
        ·exact hb1
       ·skip
        have hS := hS.pick [4,4,0,3]
        replace hS := St.rdsCons (x := ⟨a1,c1,b1⟩) hS
        have hS := hS.pick [1,0,0]
        simpa [Wr.cells] using hS
      ·have hf := hbadi (by simp [Zlr,hd])
       repeat (first|(refine G_id ?_;first|refine Zah ?_|refine Zab rfl rfl ?_|refine Zcu rfl rfl rfl rfl ?_)|(refine X_id ?_;first|refine X_yl (Zad rfl rfl) rfl rfl ?_|refine X_yl (Zac rfl rfl) rfl rfl ?_|refine X_yl (Zbq rfl rfl) rfl rfl ?_|refine X_yl (Zbb rfl rfl rfl) rfl rfl ?_|refine X_yl (Zbl rfl rfl) rfl rfl ?_|refine X_yl (Zb1 rfl rfl rfl (by omega)) rfl rfl ?_|refine X_yl (Zbc rfl rfl hS.cellsN) rfl rfl ?_|refine Za1 rfl rfl rfl rfl hS (fun _ hS _ => ?_)|refine Zbe rfl rfl rfl hS (fun _ _ hS _ => ?_))|(refine C_id ?_;first|refine Zak ?_|refine Zaa ?_)|(refine E_id ?_;first|refine Zae ?_))
       refine X_yl (Zf4 rfl rfl rfl hd1 hd0) rfl rfl ?_
       rw [decide_eq_true hd]
       repeat (first|(refine G_id ?_;first|refine Zah ?_|refine Zab rfl rfl ?_)|(refine X_id ?_;first|refine X_yl (Zac rfl rfl) rfl rfl ?_|refine X_yl (Zbb rfl rfl rfl) rfl rfl ?_)|(refine C_id ?_;first|refine Zak ?_|refine Zaa ?_|refine Zb0 ?_|refine Zam rfl ?_)|(refine E_id ?_;first|refine Zae ?_|refine Zav ?_|refine Zaz ?_|refine Zku rfl ?_))
       refine Zci (.s 0 (.s 1 (.s 2 (.s 3 (.h 4 (.s 5 (.s 6 (.s 7 (.s 8 (.s 9 (.s 11 (.h 10 (.s 12 (.s 13 .nil)) .no))))))) .no))))) mixed (by kernel_rfl) rfl ?_
       have hS := hS.drew
       repeat (first|(refine G_id ?_;first|refine Zah ?_|refine Zab rfl rfl ?_)|(refine X_id ?_;first|refine X_yl (Zac rfl rfl) rfl rfl ?_)|(refine C_id ?_;first|refine Zak ?_|refine Zaa ?_|refine Za2 ?_|refine Zam rfl ?_)|(refine E_id ?_;first|refine Zae ?_|refine Zat ?_|refine Zek (fun _ h => by cases h) ?_|refine Zax rfl (Zap rfl) (Ret.mk ?_))|(refine Zbj ?_;first|refine Zbw ?_|refine Zag rfl rfl (fun _ => Zad rfl rfl) rfl rfl ?_|refine Zag rfl rfl (fun _ => Zbr rfl rfl rfl) rfl rfl ?_|refine Zag rfl rfl (fun _ => Zcr rfl rfl rfl) rfl rfl ?_|refine Zf6 rfl rfl rfl rfl rfl rfl rfl ?_|refine GO_no rfl rfl rfl rfl rfl rfl rfl ?_))
       exact hnil _ hS.drops hf
     ·have hf := hbadi (by simp [Zlr,hn])
      repeat (first|(refine G_id ?_;first|refine Zah ?_|refine Zab rfl rfl ?_|refine Zcu rfl rfl rfl rfl ?_|refine G_no rfl rfl rfl rfl rfl rfl ?_)|(refine X_id ?_;first|refine X_yl (Zad rfl rfl) rfl rfl ?_|refine X_yl (Zac rfl rfl) rfl rfl ?_|refine X_yl (Zbq rfl rfl) rfl rfl ?_|refine X_yl (Zbr rfl rfl rfl) rfl rfl ?_|refine X_yl (Zbb rfl rfl rfl) rfl rfl ?_|refine X_yl (Zbl rfl rfl) rfl rfl ?_|refine X_yl (Zc0 rfl rfl rfl (by omega)) rfl rfl ?_|refine Za1 rfl rfl rfl rfl hS (fun _ hS _ => ?_)|refine Zbe rfl rfl rfl hS (fun _ _ hS _ => ?_))|(refine C_id ?_;first|refine Zak ?_|refine Zaa ?_|refine Zb0 ?_|refine Zam rfl ?_)|(refine E_id ?_;first|refine Zae ?_|refine Zav ?_|refine Zaz ?_|refine Zku rfl ?_))
      refine Zci (.s 0 (.s 1 (.s 2 (.s 3 (.h 4 (.s 5 (.s 6 (.s 7 (.s 8 (.s 9 (.s 11 (.h 10 (.s 12 (.s 13 .nil)) .no))))))) .no))))) mixed (by kernel_rfl) rfl ?_
      have hS := hS.drew
      repeat (first|(refine G_id ?_;first|refine Zah ?_|refine Zab rfl rfl ?_)|(refine X_id ?_;first|refine X_yl (Zac rfl rfl) rfl rfl ?_)|(refine C_id ?_;first|refine Zak ?_|refine Zaa ?_|refine Za2 ?_|refine Zam rfl ?_)|(refine E_id ?_;first|refine Zae ?_|refine Zat ?_|refine Zek (fun _ h => by cases h) ?_|refine Zax rfl (Zap rfl) (Ret.mk ?_))|(refine Zbj ?_;first|refine Zbw ?_|refine Zag rfl rfl (fun _ => Zad rfl rfl) rfl rfl ?_|refine Zag rfl rfl (fun _ => Zbr rfl rfl rfl) rfl rfl ?_|refine Zag rfl rfl (fun _ => Zcr rfl rfl rfl) rfl rfl ?_|refine Zf6 rfl rfl rfl rfl rfl rfl rfl ?_|refine GO_no rfl rfl rfl rfl rfl rfl rfl ?_))
      exact hnil _ hS.drops hf
   ·obtain rfl : i = n0.toNat := by omega
    have hn0 : ((n0.toNat : Nat) : Int) = n0 := by omega
    obtain ⟨ad,rfl⟩ : ∃ ad,a5 = some ad := by
     cases a5 with
     | none => have := hnone.1 rfl; omega
     | some ad => exact ⟨ad,rfl⟩
    obtain ⟨d,hd⟩ : ∃ d,d = ws.map Wr.data := ⟨_,rfl⟩
    rw [if_pos hgood,← hwd,← hd] at hfl
    have hfm : Zey rd fs D j number = if Zdm d = 0 ∧ sumB rd fs number d = d0 then d else [] := by
     unfold Zey
     rw [hfl,← he0]
    have hdw : d.length = ws.length := by rw [hd]; simp
    have hfr := Zir number d (fun x hx => by
     rw [hd] at hx
     obtain ⟨v,hv,rfl⟩ := List.mem_map.1 hx
     exact hw64 v hv)
    have hWW : ∀ w rs,St W noF (own 237 2 (some ad) c5 (ws.flatMap Wr.cells) :: rds O :: rs) w → Wrs w noF (some ad) ws := fun w rs h => ⟨(h.rd (List.mem_cons_self ..)).own_row.ro,fun v hv => (h.rd (List.mem_cons_of_mem _ (List.mem_cons_self ..))).ro.rds _ (hO v hv)⟩
    repeat (first|(refine G_id ?_;first|refine Zah ?_|refine Zab rfl rfl ?_)|(refine X_id ?_;first|refine X_yl (Zad rfl rfl) rfl rfl ?_|refine X_yl (Za7 rfl rfl rfl (by omega)) rfl rfl ?_)|(refine C_id ?_;first|refine Zak ?_|refine Zaa ?_|refine Zb0 ?_|refine Zaj rfl ?_)|(refine E_id ?_;first|refine Zae ?_|refine Zav ?_|refine Zaz ?_))
    refine Zci (.s 0 (.s 1 (.s 2 (.s 3 (.h 4 (.s 5 (.s 6 (.s 7 (.s 8 (.s 9 (.s 11 (.h 10 (.s 12 (.s 13 .nil)) .no))))))) .no))))) mixed (by kernel_rfl) rfl ?_
    have hS := hS.drew
    repeat (first|(refine Zbj ?_;first|refine Zag rfl rfl (fun _ => Zad rfl rfl) rfl rfl ?_|refine Zag rfl rfl (fun _ => Zcr rfl rfl rfl) rfl rfl ?_|refine Ze0 rfl rfl rfl rfl (fun _ => Zad rfl rfl) rfl rfl ?_|refine Zib rfl rfl rfl rfl ?_))
    refine Zbm _ rfl rfl rfl rfl rfl hS (Zl2 (some ad) c5 ws _ (hWW _ _ hS) (by omega) (fun v hv => by have := hw64 v hv; omega)) ?_
    rintro _ w rfl hS
    rw [← hd]
    by_cases hck : Zdm d = 0
    ·repeat (first|(refine Zbj ?_;first|refine Zag rfl rfl (fun _ => Zad rfl rfl) rfl rfl ?_|refine Zag rfl rfl (fun _ => Zbb rfl rfl rfl) rfl rfl ?_|refine Ze0 rfl rfl rfl rfl (fun _ => Zad rfl rfl) rfl rfl ?_|refine Ze0 rfl rfl rfl rfl (fun _ => Zb1 rfl rfl rfl (by omega)) rfl rfl ?_|refine Zib rfl rfl rfl rfl ?_|refine Zeh (fun w' => Zdj w' _ _ _) rfl rfl rfl rfl hS.cellsN (fun _ hc => Zbc rfl rfl hc) rfl rfl ?_)|(refine Za5 ?_;first|refine And.intro (by repeat (first|exact trivial|refine And.intro (.inl (by decide +kernel)) ?_|refine And.intro (.inr (by first|assumption|exact hS.cell|exact Zal (by assumption)|exact hS.cellI (by omega)|exact hS.cellIP (by omega)|exact hS.cellsN|exact ((hr.rd hS).cellX (by omega) hx)|exact hS.cellB (by omega)|exact hS.cellBA (by omega)|exact ((hr.rd hS).cellF (by first|omega|(dsimp only;omega)) hx)|exact hS.cellO 0 (by omega)|exact hS.cellO 1 (by omega)|exact hS.cellIA (by omega)|exact Zal (hc.rd hS).pts|exact hS.cellO 4 (by omega)|exact hS.cellO 5 (by omega)|exact hS.cellO 6 (by omega)|exact hS.cellO 7 (by omega)|exact hS.cellO 8 (by omega)|exact hS.cellO 9 (by omega)|exact hS.cellO 10 (by omega)|exact hS.cellO 11 (by omega)|exact hS.cellO 12 (by omega)|exact hS.cellO 13 (by omega)|exact hS.cellO 2 (by omega)|exact hS.cellO 3 (by omega))) ?_)) ?_))
     refine Zbm _ rfl rfl rfl rfl rfl hS (wsum_ number (some ad) c5 ws rd fs _ (hG.mono fun r hr => (hr.rd hS).ro) (hWW _ _ hS) (by omega) (by rw [← hd]; omega)) ?_
     rintro _ w rfl hS
     rw [← hd]
     repeat (first|(refine Za5 ?_;first|refine And.intro (by repeat (first|exact trivial|refine And.intro (.inl (by decide +kernel)) ?_|refine And.intro (.inr (by first|assumption|exact hS.cell|exact Zal (by assumption)|exact hS.cellI (by omega)|exact hS.cellIP (by omega)|exact hS.cellsN|exact ((hr.rd hS).cellX (by omega) hx)|exact hS.cellB (by omega)|exact hS.cellBA (by omega)|exact ((hr.rd hS).cellF (by first|omega|(dsimp only;omega)) hx)|exact hS.cellO 0 (by omega)|exact hS.cellO 1 (by omega)|exact hS.cellIA (by omega)|exact Zal (hc.rd hS).pts|exact hS.cellO 4 (by omega)|exact hS.cellO 5 (by omega)|exact hS.cellO 6 (by omega)|exact hS.cellO 7 (by omega)|exact hS.cellO 8 (by omega)|exact hS.cellO 9 (by omega)|exact hS.cellO 10 (by omega)|exact hS.cellO 11 (by omega)|exact hS.cellO 12 (by omega)|exact hS.cellO 13 (by omega)|exact hS.cellO 2 (by omega)|exact hS.cellO 3 (by omega))) ?_)) ?_))
     refine Ze0 rfl rfl rfl rfl (fun _ => Zf4 rfl rfl rfl (Zkx ..) hd0) rfl rfl ?_
     by_cases hsm : sumB rd fs number d = d0
     ·rw [decide_eq_false (not_not_intro hsm)]
      repeat (first|(refine G_id ?_;first|refine Zah ?_|refine Zab rfl rfl ?_)|(refine X_id ?_;first|refine X_yl (Zad rfl rfl) rfl rfl ?_|refine X_yl (Zac rfl rfl) rfl rfl ?_)|(refine C_id ?_;first|refine Zak ?_|refine Zaa ?_|refine Za2 ?_|refine Zaw ?_|refine Zaj rfl ?_)|(refine E_id ?_;first|refine Zae ?_|refine Zek (fun _ h => by cases h) ?_|refine Zax rfl (Zap rfl) (Ret.mk ?_))|(refine Zbj ?_;first|refine Zbw ?_|refine Zag rfl rfl (fun _ => Zbb rfl rfl rfl) rfl rfl ?_))
      refine ⟨some ad,c5,ws,O,rfl,?_,?_,hO,hS.pick [0,0]⟩
      ·rw [hfm,if_pos ⟨hck,hsm⟩,hd]
      ·constructor
       ·intro h; cases h
       ·intro h; rw [h] at hwl; simp at hwl; omega
     ·rw [decide_eq_true hsm]
      repeat (first|(refine G_id ?_;first|refine Zah ?_|refine Zab rfl rfl ?_)|(refine X_id ?_;first|refine X_yl (Zac rfl rfl) rfl rfl ?_)|(refine C_id ?_;first|refine Zak ?_|refine Zaa ?_|refine Za2 ?_|refine Zam rfl ?_)|(refine E_id ?_;first|refine Zae ?_|refine Zat ?_|refine Zek (fun _ h => by cases h) ?_|refine Zax rfl (Zap rfl) (Ret.mk ?_))|(refine Zbj ?_;first|refine Zbw ?_|refine Zag rfl rfl (fun _ => Zbb rfl rfl rfl) rfl rfl ?_))
      exact hnil _ hS.drops (by rw [hfm,if_neg (fun h => hsm h.2)])
    ·repeat (first|(refine G_id ?_;first|refine Zah ?_|refine Zab rfl rfl ?_)|(refine X_id ?_;first|refine X_yl (Zac rfl rfl) rfl rfl ?_)|(refine C_id ?_;first|refine Zak ?_|refine Zaa ?_|refine Za2 ?_|refine Zam rfl ?_)|(refine E_id ?_;first|refine Zae ?_|refine Zat ?_|refine Zek (fun _ h => by cases h) ?_|refine Zax rfl (Zap rfl) (Ret.mk ?_))|(refine Zbj ?_;first|refine Zbw ?_|refine Zag rfl rfl (fun _ => Zad rfl rfl) rfl rfl ?_|refine Zag rfl rfl (fun _ => Zbr rfl rfl rfl) rfl rfl ?_|refine Zag rfl rfl (fun _ => Zbb rfl rfl rfl) rfl rfl ?_|refine Ze0 rfl rfl rfl rfl (fun _ => Zc0 rfl rfl rfl (by omega)) rfl rfl ?_|refine Zf6 rfl rfl rfl rfl rfl rfl rfl ?_|refine GO_no rfl rfl rfl rfl rfl rfl rfl ?_)|(refine Za5 ?_;first|refine And.intro (by repeat (first|exact trivial|refine And.intro (.inl (by decide +kernel)) ?_|refine And.intro (.inr (by first|assumption|exact hS.cell|exact Zal (by assumption)|exact hS.cellI (by omega)|exact hS.cellIP (by omega)|exact hS.cellsN|exact ((hr.rd hS).cellX (by omega) hx)|exact hS.cellB (by omega)|exact hS.cellBA (by omega)|exact ((hr.rd hS).cellF (by first|omega|(dsimp only;omega)) hx)|exact hS.cellO 0 (by omega)|exact hS.cellO 1 (by omega)|exact hS.cellIA (by omega)|exact Zal (hc.rd hS).pts|exact hS.cellO 4 (by omega)|exact hS.cellO 5 (by omega)|exact hS.cellO 6 (by omega)|exact hS.cellO 7 (by omega)|exact hS.cellO 8 (by omega)|exact hS.cellO 9 (by omega)|exact hS.cellO 10 (by omega)|exact hS.cellO 11 (by omega)|exact hS.cellO 12 (by omega)|exact hS.cellO 13 (by omega)|exact hS.cellO 2 (by omega)|exact hS.cellO 3 (by omega))) ?_)) ?_))
     exact hnil _ hS.drops (by rw [hfm,if_neg (fun h => hck h.1)])
end Cr
namespace Cr
open Go Go.Proofs
set_option maxRecDepth 100000
set_option maxHeartbeats 8000000
attribute [local irreducible] Calls

theorem Zf1 {d : List (Int × List UInt8)} (h : Zdm d = 0) : ∀ x ∈ d,0 ≤ x.1 ∧ x.2.length = 64 := by
 intro x hx
 unfold Zdm at h
 by_cases ha : d.any badW = true
 ·rw [if_pos ha] at h; cases h
 ·have : badW x = false := by
   cases hb : badW x
   ·rfl
   ·exact absurd (List.any_eq_true.2 ⟨x,hx,hb⟩) ha
  unfold badW at this
  simp only [Bool.or_eq_false_iff,decide_eq_false_iff_not] at this
  omega
theorem entM_top {D : DiskM} {j : Nat} {number at_ : Int} (h : (entM D j number at_).ok = true) : (entM D j number at_).no < (D.laid.length : Int) - 1 - j := by
 unfold entM at h ⊢
 split at h
 ·simp [Ent.none] at h
 ·rename_i h1
  rw [if_neg h1]
  split at h
  ·simp [Ent.none] at h
  ·rename_i h2
   rw [if_neg h2]
   simp only [entOf,Bool.and_eq_true,decide_eq_true_eq] at h ⊢
   exact h.2
theorem found_good (rd fs : List Int) (D : DiskM) (j : Nat) (number : Int) : (∀ x ∈ Zey rd fs D j number,0 ≤ x.1 ∧ x.1 < (D.laid.length : Int) - 1 - j ∧ x.2.length = 64) ∧ ((Zey rd fs D j number).length : Int) ≤ (j : Int) / 2 := by
 unfold Zey
 cases hf : Zpv D j number with
 | none => simp; omega
 | some ws =>
  simp only
  split
  ·rename_i hc
   unfold Zpv at hf
   split at hf
   ·split at hf
    ·rename_i h1 h2
     simp only [Option.some.injEq] at hf
     have hall := List.all_eq_true.1 h2
     have hg : ∀ e ∈ Zed D j number (entM D j number 0).count.toNat,e.ok = true := fun e he => by
      have := hall e he
      simp only [Zlr,Bool.and_eq_true] at this
      exact this.1.1
     constructor
     ·intro x hx
      have h3 := Zf1 hc.1 x hx
      refine ⟨h3.1,?_,h3.2⟩
      rw [← hf] at hx
      obtain ⟨e,he,rfl⟩ := List.mem_map.1 hx
      obtain ⟨i,hi,rfl⟩ := List.mem_map.1 he
      exact entM_top (hg _ he)
     ·rw [← hf]
      simp only [List.length_map,Zed,List.length_range]
      rcases Nat.eq_zero_or_pos (entM D j number 0).count.toNat with h0 | h0
      ·rw [h0]; omega
      ·have := hg (entM D j number ((entM D j number 0).count.toNat - 1 : Nat)) (List.mem_map.2 ⟨_,List.mem_range.2 (by omega),rfl⟩)
       have := (entM_ok this).2
       omega
    ·cases hf
   ·cases hf
  ·simp; omega

structure RedoM where
 e : Int
 D : DiskM
 done : Int
 redone : Bool
def last : Int := 1152921504606846976
def Ze7 (rd fs : List Int) (D : DiskM) (j : Nat) (done : Int) (rdn : Bool) : RedoM :=
 if ¬ (D.read 0).1 = 0 then ⟨(D.read 0).1,D,done,rdn⟩ else
 if (Zcj rd fs (D.read 0).2).2 = false then ⟨5,D,done,rdn⟩ else
 if last ≤ (Zcj rd fs (D.read 0).2).1 then ⟨0,D,(Zcj rd fs (D.read 0).2).1,rdn⟩ else
 if Zey rd fs D j ((Zcj rd fs (D.read 0).2).1 + 1) = [] then
  ⟨(Zp7 D ((Zcj rd fs (D.read 0).2).1 + 1)).1,(Zp7 D ((Zcj rd fs (D.read 0).2).1 + 1)).2,(Zcj rd fs (D.read 0).2).1,rdn⟩
 else
  ⟨(layM rd fs j (0,D) ((Zcj rd fs (D.read 0).2).1 + 1) (Zey rd fs D j ((Zcj rd fs (D.read 0).2).1 + 1))).1,(layM rd fs j (0,D) ((Zcj rd fs (D.read 0).2).1 + 1) (Zey rd fs D j ((Zcj rd fs (D.read 0).2).1 + 1))).2,
   if (layM rd fs j (0,D) ((Zcj rd fs (D.read 0).2).1 + 1) (Zey rd fs D j ((Zcj rd fs (D.read 0).2).1 + 1))).1 = 0 then (Zcj rd fs (D.read 0).2).1 + 1 else (Zcj rd fs (D.read 0).2).1,true⟩
theorem redo_ (lp p : Nat) (o s m : Int) (j : Nat) (done : Int) (rdn : Bool) (D : DiskM) (rd fs : List Int) (W : World) (F : Nat → Prop) (hG : Gl W F rd fs) (hj : j ≤ 4096) (hline : D.line.length < 1073700000) (hS : St W F [Zdr lp p o s m j done rdn,disk p D] W) :
  Calls Tryz.prog 116 #[.pointer (some ⟨lp,0,none⟩)] W (Ret fun v w => v = .int .i64 (Ze7 rd fs D j done rdn).e ∧ St W F [Zdr lp p o s m j (Ze7 rd fs D j done rdn).done (Ze7 rd fs D j done rdn).redone,disk p (Ze7 rd fs D j done rdn).D] w) := by
 have hok := (hS.rd (List.mem_cons_of_mem _ (List.mem_cons_self ..)) : Rd W (disk p D)).disk.1
 have h64 := fun (h : (D.read 0).1 = 0) => Zi3 hok h
 obtain ⟨R,hR⟩ : ∃ R,R = Ze7 rd fs D j done rdn := ⟨_,rfl⟩
 rw [← hR]
 have e := hR
 unfold Ze7 at e
 clear hR
 refine Zas Tryz.func116 rfl Tryz.ntmps116 rfl ?_
 repeat (first|(refine G_id ?_;first|refine Zah ?_|refine Zab rfl rfl ?_)|(refine X_id ?_;first|refine X_yl (Zad rfl rfl) rfl rfl ?_|refine X_yl (Zac rfl rfl) rfl rfl ?_|refine X_yl (Zai rfl rfl) rfl rfl ?_|refine X_yl (Zaf rfl rfl rfl) rfl rfl ?_|refine X_yl (Zao rfl rfl hS.cell) rfl rfl ?_)|(refine C_id ?_;first|refine Zak ?_|refine Zaa ?_)|(refine E_id ?_;first|refine Zae ?_))
 refine Zan _ rfl rfl rfl rfl rfl (read_ p D 0 _ (hS.rd (List.mem_cons_of_mem _ (List.mem_cons_self ..))) (by omega)) ?_
 rintro _ w ⟨a,ca,rfl,hca,hS'⟩
 replace hS := hS.plus hS'
 clear hS'
 generalize D.read 0 = ra at h64 hca hS e ⊢
 obtain ⟨ea,la⟩ := ra
 simp only at h64 hca hS e ⊢
 by_cases hea : ea = 0
 ·subst hea
  have hla := h64 rfl
  rw [if_neg (by simp)] at e
  rw [hla]
  have hnb : (Zcj rd fs la).2 = true → 0 ≤ (Zcj rd fs la).1 ∧ (Zcj rd fs la).1 ≤ 1152921504606846976 := fun h => by
   unfold Zcj at h ⊢
   split at h
   ·rename_i h1; rw [if_pos h1]; omega
   ·rename_i h1
    rw [if_neg h1]
    simp only [Zi9,Bool.and_eq_true,decide_eq_true_eq] at h ⊢
    omega
  repeat (first|(refine G_id ?_;first|refine Zah ?_|refine Zab rfl rfl ?_)|(refine X_id ?_;first|refine X_yl (Zad rfl rfl) rfl rfl ?_|refine X_yl (Zac rfl rfl) rfl rfl ?_|refine X_yl (Zbq rfl rfl) rfl rfl ?_|refine X_yl (Zb1 rfl rfl rfl (by omega)) rfl rfl ?_)|(refine C_id ?_;first|refine Zak ?_|refine Zaa ?_|refine Zaw ?_|refine Zaj rfl ?_)|(refine E_id ?_;first|refine Zae ?_))
  refine Zbm _ rfl rfl rfl rfl rfl hS (number_ a ca la rd fs _ (hG.mono fun r hr => (hr.rd hS).ro) (hS.rd (List.mem_cons_self ..)) hla (by omega)) ?_
  rintro _ w rfl hS
  generalize Zcj rd fs la = hn at hnb e ⊢
  obtain ⟨n,ok⟩ := hn
  simp only at hnb e ⊢
  cases ok
  ·rw [if_pos rfl] at e
   subst e
   repeat (first|(refine G_id ?_;first|refine Zah ?_|refine Zab rfl rfl ?_)|(refine X_id ?_;first|refine X_yl (Zad rfl rfl) rfl rfl ?_|refine X_yl (Zac rfl rfl) rfl rfl ?_|refine X_yl (Zbq rfl rfl) rfl rfl ?_|refine X_yl (Zb8 rfl rfl) rfl rfl ?_)|(refine C_id ?_;first|refine Zak ?_|refine Zaa ?_|refine Za2 ?_|refine Zam rfl ?_)|(refine E_id ?_;first|refine Zae ?_|refine Zat ?_|refine Zax rfl (Zap rfl) (Ret.mk ?_)))
   exact ⟨rfl,hS.pick [1,1]⟩
  ·rw [if_neg (by simp)] at e
   have hn1 := hnb rfl
   by_cases hl : last ≤ n
   ·rw [if_pos hl] at e
    subst e
    unfold last at hl
    repeat (first|(refine G_id ?_;first|refine Zah ?_|refine Zab rfl rfl ?_)|(refine X_id ?_;first|refine X_yl (Zad rfl rfl) rfl rfl ?_|refine X_yl (Zac rfl rfl) rfl rfl ?_|refine X_yl (Zai rfl rfl) rfl rfl ?_|refine X_yl (Zaf rfl rfl rfl) rfl rfl ?_|refine X_yl (Zbq rfl rfl) rfl rfl ?_|refine X_yl (Zbl rfl rfl) rfl rfl ?_|refine X_yl (Zda rfl rfl rfl (by omega)) rfl rfl ?_|refine Za1 rfl rfl rfl rfl hS (fun _ hS _ => ?_))|(refine C_id ?_;first|refine Zak ?_|refine Zaa ?_|refine Za2 ?_|refine Zaw ?_|refine Zam rfl ?_|refine Zaj rfl ?_)|(refine E_id ?_;first|refine Zae ?_|refine Zat ?_|refine Zax rfl (Zap rfl) (Ret.mk ?_)))
    exact ⟨rfl,hS.pick [1,1]⟩
   ·rw [if_neg hl] at e
    unfold last at hl
    repeat (first|(refine G_id ?_;first|refine Zah ?_|refine Zab rfl rfl ?_)|(refine X_id ?_;first|refine X_yl (Zad rfl rfl) rfl rfl ?_|refine X_yl (Zac rfl rfl) rfl rfl ?_|refine X_yl (Zai rfl rfl) rfl rfl ?_|refine X_yl (Zaf rfl rfl rfl) rfl rfl ?_|refine X_yl (Zbq rfl rfl) rfl rfl ?_|refine X_yl (Zbl rfl rfl) rfl rfl ?_|refine X_yl (Zdv rfl rfl rfl (by omega)) rfl rfl ?_|refine X_yl (Zbk rfl rfl rfl (w64 (by omega) (by omega))) rfl rfl ?_|refine Za1 rfl rfl rfl rfl hS (fun _ hS _ => ?_))|(refine C_id ?_;first|refine Zak ?_|refine Zaa ?_|refine Zaw ?_|refine Zaj rfl ?_)|(refine E_id ?_;first|refine Zae ?_))
    have hfg := found_good rd fs D j (n + 1)
    refine Zan _ rfl rfl rfl rfl rfl (found_ lp p o s m j n rdn D (n + 1) rd fs _ (hG.mono fun r hr => (hr.rd hS).ro) (hS.rd (List.mem_cons_of_mem _ (List.mem_cons_self ..))) (hS.rd (List.mem_cons_of_mem _ (List.mem_cons_of_mem _ (List.mem_cons_self ..)))) hj (by omega)) ?_
    rintro _ w ⟨fa,fc,ws,O,rfl,hwd,hnone,hO,hS'⟩
    replace hS := hS.plus hS'
    clear hS'
    rw [← hwd] at e hfg
    by_cases hws : ws = []
    ·obtain rfl := hnone.2 hws
     rw [if_pos (by rw [hws]; rfl)] at e
     subst e
     repeat (first|(refine G_id ?_;first|refine Zah ?_|refine Zab rfl rfl ?_)|(refine X_id ?_;first|refine X_yl (Zad rfl rfl) rfl rfl ?_|refine X_yl (Zac rfl rfl) rfl rfl ?_|refine X_yl (Zbk rfl rfl rfl (w64 (by omega) (by omega))) rfl rfl ?_|refine X_yl (Zht rfl rfl rfl) rfl rfl ?_)|(refine C_id ?_;first|refine Zak ?_|refine Zaa ?_|refine Zaw ?_|refine Zaj rfl ?_)|(refine E_id ?_;first|refine Zae ?_))
     obtain ⟨_,hc,hr,hw,hbk⟩ := hS.call [false,false,false,true,true]
     refine Zan _ rfl rfl rfl rfl rfl (clear_ lp p o s m j n rdn D (n + 1) _ _ (by omega) hc) ?_
     rintro _ w ⟨rfl,hS⟩
     replace hS := hbk hS
     clear hc hr hw hbk
     repeat (first|(refine G_id ?_;first|refine Zah ?_|refine Zab rfl rfl ?_)|(refine X_id ?_;first|refine X_yl (Zac rfl rfl) rfl rfl ?_)|(refine C_id ?_;first|refine Za2 ?_)|(refine E_id ?_;first|refine Zae ?_|refine Zax rfl (Zap rfl) (Ret.mk ?_)))
     exact ⟨rfl,hS.pick [0,0]⟩
    ·obtain ⟨ad,rfl⟩ : ∃ ad,fa = some ad := by
      cases fa with
      | none => exact absurd (hnone.1 rfl) hws
      | some ad => exact ⟨ad,rfl⟩
     rw [if_neg (by simpa using hws)] at e
     have hwl : ws.length ≤ 2048 := by
      have := hfg.2
      rw [List.length_map] at this
      omega
     repeat (first|(refine G_id ?_;first|refine Zah ?_|refine Zab rfl rfl ?_)|(refine X_id ?_;first|refine X_yl (Zad rfl rfl) rfl rfl ?_|refine X_yl (Zac rfl rfl) rfl rfl ?_|refine X_yl (Zai rfl rfl) rfl rfl ?_|refine X_yl (Zaf rfl rfl rfl) rfl rfl ?_|refine X_yl (Zco rfl rfl rfl) rfl rfl ?_|refine X_yl (Zbk rfl rfl rfl (w64 (by omega) (by omega))) rfl rfl ?_|refine X_yl (Zht rfl rfl rfl) rfl rfl ?_|refine X_yl (Zao rfl rfl hS.cell) rfl rfl ?_|refine Za1 rfl rfl rfl rfl hS (fun _ hS _ => ?_)|refine Zeg rfl rfl rfl rfl hS (fun _ _ hS _ => ?_))|(refine C_id ?_;first|refine Zak ?_|refine Zaa ?_|refine Zam rfl ?_)|(refine E_id ?_;first|refine Zae ?_))
     have hS := hS.pick [4,0,3,0,0]
     have hmost := hok.most
     have hvno : ∀ v ∈ ws,-4611686018427387904 ≤ v.no ∧ v.no ≤ 4611686018427387904 := fun v hv => by
      have := hfg.1 v.data (List.mem_map.2 ⟨v,hv,rfl⟩)
      simp only [Wr.data] at this
      omega
     obtain ⟨_,hc,hr,hw,hbk⟩ := hS.call [true,true,true,false,false]
     refine Zan _ rfl rfl rfl rfl rfl (wlay_ lp _ p o s m j n true (0,D) (n + 1) (some ad) fc ws rd fs _ _ (hG.mono hw) ⟨(hr _ (List.mem_cons_self ..)).own_row,fun v hv => Ro.rds (hr _ (List.mem_cons_of_mem _ (List.mem_cons_self ..))) _ (hO v hv)⟩ hj (by omega) hvno (by simp only; omega) hc) ?_
     rintro _ w ⟨rfl,hS⟩
     replace hS := hbk hS
     clear hc hr hw hbk
     subst e
     repeat (first|(refine G_id ?_;first|refine Zah ?_|refine Zab rfl rfl ?_)|(refine X_id ?_;first|refine X_yl (Zac rfl rfl) rfl rfl ?_)|(refine C_id ?_;first|refine Za2 ?_)|(refine E_id ?_;first|refine Zae ?_|refine Zat ?_|refine Zax rfl (Zap rfl) (Ret.mk ?_)))
     exact ⟨rfl,hS.pick [0,1]⟩
 ·rw [if_pos hea] at e
  subst e
  repeat (first|(refine G_id ?_;first|refine Zah ?_|refine Zab rfl rfl ?_)|(refine X_id ?_;first|refine X_yl (Zad rfl rfl) rfl rfl ?_|refine X_yl (Zac rfl rfl) rfl rfl ?_|refine X_yl (Zbq rfl rfl) rfl rfl ?_|refine X_yl (Zc0 rfl rfl rfl (by omega)) rfl rfl ?_)|(refine C_id ?_;first|refine Zak ?_|refine Zaa ?_|refine Za2 ?_|refine Zam rfl ?_)|(refine E_id ?_;first|refine Zae ?_|refine Zat ?_|refine Zax rfl (Zap rfl) (Ret.mk ?_)))
  exact ⟨rfl,hS.pick [1,1]⟩
end Cr
namespace Cr
open Go Go.Proofs
set_option maxRecDepth 100000
set_option maxHeartbeats 8000000
attribute [local irreducible] Calls

instance : Und Tryz.prog 212 .unsafePointer := ⟨Tryz.underlying212⟩
theorem Zmd {P : Program} {o : Oper} {σ : Env} {w : World} {x : Operand} {src dst t : TypeId} {n : Nat} {a : Addr} {v : Value} (ho : o.op = .convert src dst x) (hx : ev σ x = some (.pointer (some a))) [hs : Und P src (.pointer t)] [hd : Und P dst .unsafePointer] [hz : Siz P t n] (hn : Nat.blt 0 n = true) (hc : w.cell? a = some v) : Yl P o σ w (.pointer (some a)) := ⟨fun N ds f ha => by
 have hpos : 0 < n := Zbp hn
 have hsz : (P.info? t).map (fun i => decide (i.size = 0)) = some false := by
  have := hz.siz
  cases hi : P.info? t with
  | none => rw [hi] at this; cases this
  | some i =>
   rw [hi] at this
   simp only [Option.map_some,Option.some.injEq] at this ⊢
   exact decide_eq_false (by omega)
 have := run_convert_to_unsafe hs.und hd.und hsz hc
 simp [execOp,ho,ha.eval hx,this]⟩
theorem ilock_ (b off : Nat) (l l' : List Value) (T : TypeId) (W : World) (F : Nat → Prop) [hn : Nth l off (.int .i32 0)] [hs : Spl l off [.int .i32 1] l'] (hS : St W F [pts b (.cells l.toArray T)] W) :
  Calls Tryz.prog 226 #[.pointer (some ⟨b,off,none⟩)] W (Ret fun _ w => True ∧ St W F [pts b (.cells l'.toArray T)] w) := by
 have hn1 : Nth l' off (.int .i32 1) := ⟨by
  have h := hs.spl
  rw [← h.2]
  simp at h
  rw [List.append_assoc,List.getElem?_append_right (by simp; omega),List.length_take,Nat.min_eq_left (by omega)]
  simp⟩
 refine Zas Tryz.func226 rfl Tryz.ntmps226 rfl ?_
 repeat (first|(refine G_id ?_;first|refine Zah ?_|refine Zab rfl rfl ?_)|(refine X_id ?_;first|refine X_yl (Zad rfl rfl) rfl rfl ?_|refine X_yl (Zai rfl rfl) rfl rfl ?_|refine X_yl (Zbv rfl rfl rfl) rfl rfl ?_|refine Zov rfl rfl rfl rfl rfl ?_|refine X_ecas rfl rfl rfl rfl rfl hS (fun _ hS => ?_))|(refine C_id ?_;first|refine Zak ?_|refine Zaa ?_|refine Zam rfl ?_)|(refine E_id ?_;first|refine Zae ?_))
 refine X_yl (Zmd rfl rfl rfl hS.cell) rfl rfl ?_
 repeat (first|(refine G_id ?_;first|refine Zah ?_|refine Zab rfl rfl ?_)|(refine X_id ?_;first|refine X_emark rfl rfl rfl rfl rfl ?_)|(refine C_id ?_;first|refine Za2 ?_)|(refine E_id ?_;first|refine Zae ?_|refine Zat ?_|refine E_ret0 rfl (Ret.mk ?_)))
 exact ⟨trivial,hS⟩
theorem iunlock_ (b off : Nat) (l l' : List Value) (T : TypeId) (W : World) (F : Nat → Prop) [hn : Nth l off (.int .i32 1)] [hs : Spl l off [.int .i32 0] l'] (hS : St W F [pts b (.cells l.toArray T)] W) :
  Calls Tryz.prog 227 #[.pointer (some ⟨b,off,none⟩)] W (Ret fun _ w => True ∧ St W F [pts b (.cells l'.toArray T)] w) := by
 refine Zas Tryz.func227 rfl Tryz.ntmps227 rfl ?_
 repeat (first|(refine G_id ?_;first|refine Zah ?_|refine Zab rfl rfl ?_)|(refine X_id ?_;first|refine X_yl (Zad rfl rfl) rfl rfl ?_|refine X_yl (Zai rfl rfl) rfl rfl ?_|refine X_yl (Zbv rfl rfl rfl) rfl rfl ?_|refine X_yl (Zao rfl rfl hS.cell) rfl rfl ?_)|(refine C_id ?_;first|refine Zak ?_|refine Zaa ?_|refine Zam rfl ?_)|(refine E_id ?_;first|refine Zae ?_))
 refine X_yl (Zmd rfl rfl rfl hS.cell) rfl rfl ?_
 repeat (first|(refine G_id ?_;first|refine Zah ?_|refine Zab rfl rfl ?_)|(refine X_id ?_;first|refine X_yl (Zad rfl rfl) rfl rfl ?_|refine X_yl (Zai rfl rfl) rfl rfl ?_|refine X_yl (Zbv rfl rfl rfl) rfl rfl ?_|refine Zov rfl rfl rfl rfl rfl ?_|refine X_emark rfl rfl rfl rfl rfl ?_)|(refine C_id ?_;first|refine Zak ?_|refine Zaa ?_)|(refine E_id ?_;first|refine Zae ?_))
 refine X_eadd (s := 0) rfl rfl rfl rfl rfl rfl hS (fun _ hS => ?_)
 repeat (first|(refine G_id ?_;first|refine Zah ?_|refine Zab rfl rfl ?_)|(refine X_id ?_;first|refine X_yl (Zad rfl rfl) rfl rfl ?_|refine X_yl (Zac rfl rfl) rfl rfl ?_|refine X_yl (Zb1 rfl rfl rfl (by omega)) rfl rfl ?_|refine Zov rfl rfl rfl rfl rfl ?_)|(refine C_id ?_;first|refine Zak ?_|refine Zaa ?_|refine Zaw ?_|refine Zaj rfl ?_)|(refine E_id ?_;first|refine Zae ?_|refine Zer rfl (Ret.mk ?_)))
 exact ⟨trivial,hS⟩
theorem bload_ (b off : Nat) (l : List Value) (T : TypeId) (x : Int) (W : World) [hn : Nth l off (.int .u32 x)] (hL : Rd W (pts b (.cells l.toArray T))) :
  Calls Tryz.prog 158 #[.pointer (some ⟨b,off,none⟩)] W (Ret fun v w => v = .bool (decide (¬ x = 0)) ∧ W = w) := by
 have hc := hL.pts
 have hS := St.start W
 refine Zas Tryz.func158 rfl Tryz.ntmps158 rfl ?_
 repeat (first|(refine G_id ?_;first|refine Zah ?_|refine Zab rfl rfl ?_)|(refine X_id ?_;first|refine X_yl (Zad rfl rfl) rfl rfl ?_|refine X_yl (Zac rfl rfl) rfl rfl ?_|refine X_yl (Zai rfl rfl) rfl rfl ?_|refine X_yl (Zbv rfl rfl rfl) rfl rfl ?_|refine X_yl (Ztc rfl rfl rfl) rfl rfl ?_|refine X_eload rfl rfl rfl (Zal (by assumption)) rfl rfl ?_)|(refine C_id ?_;first|refine Zak ?_|refine Zaa ?_|refine Za2 ?_)|(refine E_id ?_;first|refine Zae ?_|refine Zax rfl (Zap rfl) (Ret.mk ?_)))
 exact ⟨rfl,rfl⟩
end Cr
namespace Cr
open Go Go.Proofs
set_option maxRecDepth 100000
set_option maxHeartbeats 8000000
attribute [local irreducible] Calls

abbrev ptrAt (b lp : Nat) : Res := pts b (.cells #[.pointer (some ⟨lp,0,none⟩)] 153)
abbrev errAt (b : Nat) (e : Int) : Res := pts b (.cells #[.int .i64 e] 43)
theorem b32_ (W : World) : Calls Tryz.prog 229 #[.bool true] W (Ret fun v w => v = .int .u32 1 ∧ W = w) := by
 refine Zas Tryz.func229 rfl Tryz.ntmps229 rfl ?_
 repeat (first|(refine G_id ?_;first|refine Zah ?_|refine Zab rfl rfl ?_)|(refine X_id ?_;first|refine X_yl (Zad rfl rfl) rfl rfl ?_|refine X_yl (Zac rfl rfl) rfl rfl ?_)|(refine C_id ?_;first|refine Zak ?_|refine Zaa ?_|refine Za2 ?_|refine Zam rfl ?_)|(refine E_id ?_;first|refine Zae ?_|refine Zat ?_|refine Zax rfl (Zap rfl) (Ret.mk ?_)))
 exact ⟨rfl,rfl⟩
theorem open1_ (lp p b6 b7 : Nat) (o s m : Int) (j : Nat) (done : Int) (rdn : Bool) (D : DiskM) (e0 : Int) (rd fs : List Int) (W : World) (F : Nat → Prop) (hG : Gl W F rd fs) (hj : j ≤ 4096) (hline : D.line.length < 1073700000)
  (hS : St W F [Zdr lp p o s m j done rdn,disk p D,ptrAt b6 lp,errAt b7 e0] W) :
  Calls Tryz.prog 115 #[.pointer (some ⟨b6,0,none⟩),.pointer (some ⟨b7,0,none⟩)] W (Ret fun _ w => True ∧
   St W F [Zdr lp p o s m j (Ze7 rd fs D j done rdn).done (Ze7 rd fs D j done rdn).redone,disk p (Ze7 rd fs D j done rdn).D,ptrAt b6 lp,errAt b7 (Ze7 rd fs D j done rdn).e] w) := by
 refine Zas Tryz.func115 rfl Tryz.ntmps115 rfl ?_
 repeat (first|(refine G_id ?_;first|refine Zab rfl rfl ?_)|(refine X_id ?_;first|refine X_yl (Zao rfl rfl hS.cell) rfl rfl ?_)|(refine C_id ?_;first|refine Zaa ?_))
 obtain ⟨_,hc,hr,hw,hbk⟩ := hS.call [true,true,false,false]
 refine Zan _ rfl rfl rfl rfl rfl (redo_ lp p o s m j done rdn D rd fs _ _ (hG.mono hw) hj hline hc) ?_
 rintro _ w ⟨rfl,hS⟩
 replace hS := hbk hS
 clear hc hr hw hbk
 generalize Ze7 rd fs D j done rdn = R at hS ⊢
 repeat (first|(refine G_id ?_;first|refine Zah ?_|refine Zab rfl rfl ?_)|(refine X_id ?_;first|refine Za1 rfl rfl rfl rfl hS (fun _ hS _ => ?_))|(refine E_id ?_;first|refine Zer rfl (Ret.mk ?_)))
 exact ⟨trivial,hS⟩
theorem doSlow_ (lp p b6 b7 : Nat) (m : Int) (j : Nat) (done : Int) (rdn : Bool) (D : DiskM) (e0 : Int) (rd fs : List Int) (W : World) (F : Nat → Prop) (hG : Gl W F rd fs) (hj : j ≤ 4096) (hline : D.line.length < 1073700000)
  (hS : St W F [Zdr lp p 0 0 m j done rdn,disk p D,ptrAt b6 lp,errAt b7 e0] W) :
  Calls Tryz.prog 159 #[.pointer (some ⟨lp,1,none⟩),.func (.func 115) #[] #[.pointer (some ⟨b6,0,none⟩),.pointer (some ⟨b7,0,none⟩)]] W (Ret fun _ w => True ∧
   St W F [Zdr lp p 1 0 m j (Ze7 rd fs D j done rdn).done (Ze7 rd fs D j done rdn).redone,disk p (Ze7 rd fs D j done rdn).D,ptrAt b6 lp,errAt b7 (Ze7 rd fs D j done rdn).e] w) := by
 have hlock : ∀ W F,St W F [Zdr lp p 0 0 m j done rdn] W → Calls Tryz.prog 197 #[.pointer (some ⟨lp,2,none⟩)] W (Ret fun _ w => True ∧ St W F [Zdr lp p 0 1 m j done rdn] w) := fun W F hS => by
  refine Zas Tryz.func197 rfl Tryz.ntmps197 rfl ?_
  repeat (first|(refine G_id ?_;first|refine Zab rfl rfl ?_)|(refine X_id ?_;first|refine X_yl (Zad rfl rfl) rfl rfl ?_|refine X_yl (Zai rfl rfl) rfl rfl ?_|refine X_yl (Zbv rfl rfl rfl) rfl rfl ?_)|(refine C_id ?_;first|refine Zaa ?_))
  refine Zan _ rfl rfl rfl rfl rfl (ilock_ lp 2 _ _ _ _ _ hS) ?_
  rintro _ w ⟨_,hS⟩
  repeat (first|(refine G_id ?_;first|refine Zah ?_)|(refine E_id ?_;first|refine Zer rfl (Ret.mk ?_)))
  exact ⟨trivial,hS⟩
 refine Zas Tryz.func159 rfl Tryz.ntmps159 rfl ?_
 repeat (first|(refine G_id ?_;first|refine Zab rfl rfl ?_)|(refine X_id ?_;first|refine X_yl (Zad rfl rfl) rfl rfl ?_|refine X_yl (Zai rfl rfl) rfl rfl ?_|refine X_yl (Zbv rfl rfl rfl) rfl rfl ?_)|(refine C_id ?_;first|refine Zak ?_|refine Zaa ?_))
 obtain ⟨_,hc,hr,hw,hbk⟩ := hS.call [true,false,false,false]
 refine Zan _ rfl rfl rfl rfl rfl (hlock _ _ hc) ?_
 rintro _ w ⟨_,hS⟩
 replace hS := hbk hS
 clear hc hr hw hbk
 repeat (first|(refine G_id ?_;first|refine Zah ?_|refine G_defer rfl rfl rfl rfl rfl ?_|refine Zab rfl rfl ?_)|(refine X_id ?_;first|refine X_yl (Zad rfl rfl) rfl rfl ?_|refine X_yl (Zai rfl rfl) rfl rfl ?_|refine X_yl (Zbv rfl rfl rfl) rfl rfl ?_)|(refine C_id ?_;first|refine Zak ?_|refine Zaa ?_)|(refine E_id ?_;first|refine Zae ?_|refine Zox rfl ?_))
 refine Zan _ rfl rfl rfl rfl rfl (bload_ lp 1 _ _ 0 _ (hS.rd (List.mem_cons_self ..))) ?_
 rintro _ _ ⟨rfl,rfl⟩
 rw [decide_eq_false (show ¬ ¬ (0 : Int) = 0 by simp)]
 repeat (first|(refine G_id ?_;first|refine Zah ?_|refine G_defer rfl rfl rfl rfl rfl ?_|refine Zab rfl rfl ?_)|(refine X_id ?_;first|refine X_yl (Zad rfl rfl) rfl rfl ?_|refine X_yl (Zai rfl rfl) rfl rfl ?_|refine X_yl (Zbv rfl rfl rfl) rfl rfl ?_|refine X_yl (Zb8 rfl rfl) rfl rfl ?_)|(refine C_id ?_;first|refine Zak ?_|refine Zaa ?_|refine Zam rfl ?_)|(refine E_id ?_;first|refine Zae ?_|refine Zox rfl ?_))
 obtain ⟨_,hc,hr,hw,hbk⟩ := hS.call [true,true,true,true]
 refine Zj9 (first := []) (captured := [.pointer (some ⟨b6,0,none⟩),.pointer (some ⟨b7,0,none⟩)]) rfl rfl rfl rfl rfl (open1_ lp p b6 b7 0 1 m j done rdn D e0 rd fs _ _ (hG.mono hw) hj hline hc) ?_
 rintro _ w ⟨_,hS⟩
 replace hS := hbk hS
 clear hc hr hw hbk
 generalize Ze7 rd fs D j done rdn = R at hS ⊢
 repeat (first|(refine G_id ?_;first|refine Zah ?_))
 refine E_defer (args := [.pointer (some ⟨lp,1,none⟩),.bool true]) (captured := []) rfl rfl rfl rfl (.inr rfl) ?_
 repeat (first|fail)
 refine Zci (.s 0 (.s 1 (.s 2 (.s 3 (.h 4 (.h 5 .nil .no) .no))))) mixed (by kernel_rfl) rfl ?_
 have hS := hS.drew
 repeat (first|(refine X_id ?_;first|(refine Zan 229 rfl rfl rfl rfl rfl (b32_ _) ?_;rintro _ _ ⟨rfl,rfl⟩)|refine X_estore rfl rfl rfl rfl rfl hS (fun _ hS => ?_))|(refine E_id ?_;first|refine E_end0d rfl (Ret.mk ?_))|(refine Zbj ?_;first|refine Zbw ?_|refine Zag rfl rfl (fun _ => Zad rfl rfl) rfl rfl ?_|refine Zag rfl rfl (fun _ => Zai rfl rfl) rfl rfl ?_|refine Zag rfl rfl (fun _ => Zbv rfl rfl rfl) rfl rfl ?_|refine Za8 rfl rfl ?_)|(refine Za5 ?_;first|refine And.intro (by repeat (first|exact trivial|refine And.intro (.inl (by decide +kernel)) ?_|refine And.intro (.inr (by first|assumption|exact hS.cell|exact Zal (by assumption)|exact hS.cellI (by omega)|exact hS.cellIP (by omega)|exact hS.cellsN|exact hS.cellB (by omega)|exact hS.cellBA (by omega)|exact hS.cellO 0 (by omega)|exact hS.cellO 1 (by omega)|exact hS.cellIA (by omega)|exact Zal (hc.rd hS).pts|exact hS.cellO 4 (by omega)|exact hS.cellO 5 (by omega)|exact hS.cellO 6 (by omega)|exact hS.cellO 7 (by omega)|exact hS.cellO 8 (by omega)|exact hS.cellO 9 (by omega)|exact hS.cellO 10 (by omega)|exact hS.cellO 11 (by omega)|exact hS.cellO 12 (by omega)|exact hS.cellO 13 (by omega)|exact hS.cellO 2 (by omega)|exact hS.cellO 3 (by omega))) ?_)) ?_))
 refine E_defer (args := [.pointer (some ⟨lp,2,none⟩)]) (captured := []) rfl rfl rfl rfl (.inr rfl) ?_
 repeat (first|(refine G_id ?_;first|refine Zab rfl rfl ?_)|(refine X_id ?_;first|refine X_yl (Zad rfl rfl) rfl rfl ?_|refine X_yl (Zai rfl rfl) rfl rfl ?_|refine X_yl (Zbv rfl rfl rfl) rfl rfl ?_)|(refine C_id ?_;first|refine Zaa ?_))
 obtain ⟨_,hc,hr,hw,hbk⟩ := hS.call [true,false,false,false]
 refine Zan _ rfl rfl rfl rfl rfl (iunlock_ lp 2 _ _ _ _ _ hc) ?_
 rintro _ w ⟨_,hS⟩
 replace hS := hbk hS
 clear hc hr hw hbk
 repeat (first|(refine G_id ?_;first|refine Zah ?_)|(refine E_id ?_;first|refine Zer rfl (Ret.mk ?_)|refine E_end0d rfl (Ret.mk ?_)))
 exact ⟨trivial,hS⟩
theorem do_ (lp p b6 b7 : Nat) (m : Int) (j : Nat) (done : Int) (rdn : Bool) (D : DiskM) (e0 : Int) (rd fs : List Int) (W : World) (F : Nat → Prop) (hG : Gl W F rd fs) (hj : j ≤ 4096) (hline : D.line.length < 1073700000)
  (hS : St W F [Zdr lp p 0 0 m j done rdn,disk p D,ptrAt b6 lp,errAt b7 e0] W) :
  Calls Tryz.prog 114 #[.pointer (some ⟨lp,1,none⟩),.func (.func 115) #[] #[.pointer (some ⟨b6,0,none⟩),.pointer (some ⟨b7,0,none⟩)]] W (Ret fun _ w => True ∧
   St W F [Zdr lp p 1 0 m j (Ze7 rd fs D j done rdn).done (Ze7 rd fs D j done rdn).redone,disk p (Ze7 rd fs D j done rdn).D,ptrAt b6 lp,errAt b7 (Ze7 rd fs D j done rdn).e] w) := by
 refine Zas Tryz.func114 rfl Tryz.ntmps114 rfl ?_
 repeat (first|(refine G_id ?_;first|refine Zab rfl rfl ?_)|(refine X_id ?_;first|refine X_yl (Zad rfl rfl) rfl rfl ?_|refine X_yl (Zai rfl rfl) rfl rfl ?_|refine X_yl (Zbv rfl rfl rfl) rfl rfl ?_)|(refine C_id ?_;first|refine Zak ?_|refine Zaa ?_))
 refine Zan _ rfl rfl rfl rfl rfl (bload_ lp 1 _ _ 0 _ (hS.rd (List.mem_cons_self ..))) ?_
 rintro _ _ ⟨rfl,rfl⟩
 rw [decide_eq_false (show ¬ ¬ (0 : Int) = 0 by simp)]
 repeat (first|(refine G_id ?_;first|refine Zah ?_|refine Zab rfl rfl ?_)|(refine X_id ?_;first|refine X_yl (Zad rfl rfl) rfl rfl ?_|refine X_yl (Zb8 rfl rfl) rfl rfl ?_)|(refine C_id ?_;first|refine Zaa ?_|refine Zam rfl ?_)|(refine E_id ?_;first|refine Zae ?_))
 obtain ⟨_,hc,hr,hw,hbk⟩ := hS.call [true,true,true,true]
 refine Zan _ rfl rfl rfl rfl rfl (doSlow_ lp p b6 b7 m j done rdn D e0 rd fs _ _ (hG.mono hw) hj hline hc) ?_
 rintro _ w ⟨_,hS⟩
 replace hS := hbk hS
 clear hc hr hw hbk
 repeat (first|(refine G_id ?_;first|refine Zah ?_)|(refine E_id ?_;first|refine Zer rfl (Ret.mk ?_)))
 exact ⟨trivial,hS⟩

/-! ### Open -/
def openM (rd fs : List Int) (D : DiskM) (j : Int) : RedoM :=
 if D.off = true then ⟨9,D,0,false⟩ else if j < 2 ∨ 1024 < j ∨ ¬ j % 2 = 0 ∨ (D.laid.length : Int) < j + 2 then ⟨1,D,0,false⟩ else Ze7 rd fs D j.toNat 0 false
end Cr
namespace Cr
open Go Go.Proofs
set_option maxRecDepth 100000
set_option maxHeartbeats 8000000
attribute [local irreducible] Calls

def OpenR (W : World) (F : Nat → Prop) (p : Nat) (j : Nat) (R : RedoM) (v : Value) (w : World) : Prop :=
 (¬ R.e = 0 ∧ v = .tuple #[.pointer none,.int .i64 R.e] ∧ St W F [disk p R.D] w) ∨ (R.e = 0 ∧ ∃ lp,v = .tuple #[.pointer (some ⟨lp,0,none⟩),.int .i64 0] ∧ St W F [Zdr lp p 1 0 0 j R.done R.redone,disk p R.D] w)
theorem open_ (p : Nat) (D : DiskM) (j : Int) (rd fs : List Int) (W : World) (F : Nat → Prop) (hG : Gl W F rd fs) (hline : D.line.length < 1073700000) (hS : St W F [disk p D] W) :
  Calls Tryz.prog 80 #[.pointer (some ⟨p,0,none⟩),.int .i64 j] W (Ret fun v w => OpenR W F p j.toNat (openM rd fs D j) v w) := by
 have hd := hS.rd (List.mem_cons_self ..)
 have hmost := hd.disk.1.most
 have hon := on_ p D W hd
 have hse := Zn2 p D W hd
 cases hoff : D.off
 ·rw [hoff] at hon
  have e : openM rd fs D j = if j < 2 ∨ 1024 < j ∨ ¬ j % 2 = 0 ∨ (D.laid.length : Int) < j + 2 then ⟨1,D,0,false⟩ else Ze7 rd fs D j.toNat 0 false := by unfold openM; rw [if_neg (by simp [hoff])]
  by_cases h1 : j < 2
  ·rw [if_pos (.inl h1)] at e
   refine Zas Tryz.func80 rfl Tryz.ntmps80 rfl ?_
   repeat (first|(refine G_id ?_;first|refine Zah ?_|refine Zab rfl rfl ?_|refine G_no rfl rfl rfl rfl rfl rfl ?_)|(refine X_id ?_;first|(refine Zan 112 rfl rfl rfl rfl rfl hon ?_;rintro _ _ ⟨rfl,rfl⟩)|refine X_yl (Zad rfl rfl) rfl rfl ?_|refine X_yl (Zac rfl rfl) rfl rfl ?_|refine X_yl (Zbr rfl rfl rfl) rfl rfl ?_|refine X_yl (Zbl rfl rfl) rfl rfl ?_|refine X_yl (Za3 rfl rfl rfl (by omega)) rfl rfl ?_)|(refine C_id ?_;first|refine Zak ?_|refine Zaa ?_|refine Zaq ?_|refine Za2 ?_|refine Zam rfl ?_|refine Zaj rfl ?_)|(refine E_id ?_;first|refine Zae ?_|refine Zat ?_|refine Zbh ?_|refine Zdb rfl (Zap rfl) (Zap rfl) (Ret.mk ?_)))
   rw [e]
   exact .inl ⟨by simp,rfl,hS⟩
  by_cases h2 : 1024 < j
  ·rw [if_pos (.inr (.inl h2))] at e
   refine Zas Tryz.func80 rfl Tryz.ntmps80 rfl ?_
   repeat (first|(refine G_id ?_;first|refine Zah ?_|refine Zab rfl rfl ?_|refine Zcu rfl rfl rfl rfl ?_|refine G_no rfl rfl rfl rfl rfl rfl ?_)|(refine X_id ?_;first|(refine Zan 112 rfl rfl rfl rfl rfl hon ?_;rintro _ _ ⟨rfl,rfl⟩)|refine X_yl (Zad rfl rfl) rfl rfl ?_|refine X_yl (Zac rfl rfl) rfl rfl ?_|refine X_yl (Zbr rfl rfl rfl) rfl rfl ?_|refine X_yl (Zbb rfl rfl rfl) rfl rfl ?_|refine X_yl (Zbl rfl rfl) rfl rfl ?_|refine X_yl (Za7 rfl rfl rfl (by omega)) rfl rfl ?_|refine X_yl (Zhj rfl rfl rfl (by omega)) rfl rfl ?_)|(refine C_id ?_;first|refine Zak ?_|refine Zaa ?_|refine Zaq ?_|refine Za2 ?_|refine Zam rfl ?_|refine Zaj rfl ?_)|(refine E_id ?_;first|refine Zae ?_|refine Zat ?_|refine Zbh ?_|refine Zdb rfl (Zap rfl) (Zap rfl) (Ret.mk ?_)))
   rw [e]
   exact .inl ⟨by simp,rfl,hS⟩
  by_cases h3 : j % 2 = 0
  ·by_cases h4 : (D.laid.length : Int) < j + 2
   ·rw [if_pos (.inr (.inr (.inr h4)))] at e
    refine Zas Tryz.func80 rfl Tryz.ntmps80 rfl ?_
    repeat (first|(refine G_id ?_;first|refine Zah ?_|refine Zab rfl rfl ?_|refine Zcu rfl rfl rfl rfl ?_)|(refine X_id ?_;first|(refine Zan 112 rfl rfl rfl rfl rfl hon ?_;rintro _ _ ⟨rfl,rfl⟩)|(refine Zan 113 rfl rfl rfl rfl rfl hse ?_;rintro _ _ ⟨rfl,rfl⟩)|refine X_yl (Zad rfl rfl) rfl rfl ?_|refine X_yl (Zac rfl rfl) rfl rfl ?_|refine X_yl (Zbb rfl rfl rfl) rfl rfl ?_|refine X_yl (Zbl rfl rfl) rfl rfl ?_|refine X_yl (Zb1 rfl rfl rfl (by omega)) rfl rfl ?_|refine X_yl (Za3 rfl rfl rfl (by omega)) rfl rfl ?_|refine X_yl (Za7 rfl rfl rfl (by omega)) rfl rfl ?_|refine X_yl (Zdl rfl rfl rfl (by omega)) rfl rfl ?_|refine X_yl (Zbk rfl rfl rfl (w64 (by omega) (by omega))) rfl rfl ?_|refine X_yl (Zd8 rfl rfl rfl (by omega) (by omega)) rfl rfl ?_)|(refine C_id ?_;first|refine Zak ?_|refine Zaa ?_|refine Zaq ?_|refine Za2 ?_|refine Zam rfl ?_|refine Zaj rfl ?_)|(refine E_id ?_;first|refine Zae ?_|refine Zat ?_|refine Zbh ?_|refine Zdb rfl (Zap rfl) (Zap rfl) (Ret.mk ?_)))
    rw [e]
    exact .inl ⟨by simp,rfl,hS⟩
   ·rw [if_neg (by omega)] at e
    obtain ⟨jn,rfl⟩ : ∃ n : Nat,j = n := ⟨j.toNat,by omega⟩
    rw [Int.toNat_natCast] at e ⊢
    rw [e]
    refine Zas Tryz.func80 rfl Tryz.ntmps80 rfl ?_
    repeat (first|(refine G_id ?_;first|refine Zah ?_|refine Zab rfl rfl ?_|refine Zcu rfl rfl rfl rfl ?_)|(refine X_id ?_;first|(refine Zan 112 rfl rfl rfl rfl rfl hon ?_;rintro _ _ ⟨rfl,rfl⟩)|(refine Zan 113 rfl rfl rfl rfl rfl hse ?_;rintro _ _ ⟨rfl,rfl⟩)|refine X_yl (Zad rfl rfl) rfl rfl ?_|refine X_yl (Zac rfl rfl) rfl rfl ?_|refine X_yl (Zai rfl rfl) rfl rfl ?_|refine X_yl (Zaf rfl rfl rfl) rfl rfl ?_|refine X_yl (Zbb rfl rfl rfl) rfl rfl ?_|refine X_yl (Zbl rfl rfl) rfl rfl ?_|refine X_yl (Zdz rfl rfl rfl) rfl rfl ?_|refine X_yl (Zb1 rfl rfl rfl (by omega)) rfl rfl ?_|refine X_yl (Za7 rfl rfl rfl (by omega)) rfl rfl ?_|refine X_yl (Zdl rfl rfl rfl (by omega)) rfl rfl ?_|refine X_yl (Zco rfl rfl rfl) rfl rfl ?_|refine X_yl (Zbk rfl rfl rfl (w64 (by omega) (by omega))) rfl rfl ?_|refine X_yl (Zd8 rfl rfl rfl (by omega) (by omega)) rfl rfl ?_|refine X_yl (Zao rfl rfl hS.cell) rfl rfl ?_|refine Za1 rfl rfl rfl rfl hS (fun _ hS _ => ?_)|refine Zeg rfl rfl rfl rfl hS (fun _ _ hS _ => ?_)|refine Zbe rfl rfl rfl hS (fun _ _ hS _ => ?_))|(refine C_id ?_;first|refine Zak ?_|refine Zaa ?_|refine Zaq ?_|refine Zaw ?_|refine Zaj rfl ?_)|(refine E_id ?_;first|refine Zae ?_|refine Zbf ?_))
    have hS := hS.pick [2,2,1,0]
    obtain ⟨_,hc,hr,hw,hbk⟩ := hS.call [true,true,true,true]
    refine Zan _ rfl rfl rfl rfl rfl (do_ _ p _ _ 0 jn 0 false D 0 rd fs _ _ (hG.mono hw) (by omega) hline hc) ?_
    rintro _ w ⟨_,hS⟩
    replace hS := hbk hS
    clear hc hr hw hbk
    generalize Ze7 rd fs D jn 0 false = R at hS ⊢
    by_cases hRe : R.e = 0
    ·rw [hRe] at hS
     repeat (first|(refine G_id ?_;first|refine Zah ?_|refine Zab rfl rfl ?_)|(refine X_id ?_;first|refine X_yl (Zac rfl rfl) rfl rfl ?_|refine X_yl (Zb1 rfl rfl rfl (by omega)) rfl rfl ?_|refine X_yl (Zao rfl rfl hS.cell) rfl rfl ?_)|(refine C_id ?_;first|refine Zak ?_|refine Zaa ?_|refine Za2 ?_|refine Zaw ?_|refine Zaj rfl ?_)|(refine E_id ?_;first|refine Zae ?_|refine Zdb rfl (Zap rfl) (Zap rfl) (Ret.mk ?_)))
     exact .inr ⟨hRe,_,rfl,hS.pick [0,0]⟩
    ·repeat (first|(refine G_id ?_;first|refine Zah ?_|refine Zab rfl rfl ?_)|(refine X_id ?_;first|refine X_yl (Zc0 rfl rfl rfl (by omega)) rfl rfl ?_|refine X_yl (Zao rfl rfl hS.cell) rfl rfl ?_)|(refine C_id ?_;first|refine Zak ?_|refine Zaa ?_|refine Zam rfl ?_)|(refine E_id ?_;first|refine Zae ?_))
     refine Zci (.s 0 (.s 1 (.s 2 .nil))) mixed (by kernel_rfl) rfl ?_
     have hS := hS.drew
     repeat (first|(refine C_id ?_;first|refine Za2 ?_)|(refine E_id ?_;first|refine Zae ?_|refine Zat ?_|refine Zdb rfl (Zap rfl) (Zap rfl) (Ret.mk ?_))|(refine Zbj ?_;first|refine Zbw ?_|refine Zag rfl rfl (fun _ => Zac rfl rfl) rfl rfl ?_|refine Zbi (fun w' => w'.cell? _ = some _) rfl rfl hS.cell (fun _ hc => Zao rfl rfl hc) rfl rfl ?_))
     exact .inl ⟨hRe,rfl,hS.pick [1]⟩
  ·rw [if_pos (.inr (.inr (.inl h3)))] at e
   refine Zas Tryz.func80 rfl Tryz.ntmps80 rfl ?_
   repeat (first|(refine G_id ?_;first|refine Zah ?_|refine Zab rfl rfl ?_|refine Zcu rfl rfl rfl rfl ?_|refine G_no rfl rfl rfl rfl rfl rfl ?_)|(refine X_id ?_;first|(refine Zan 112 rfl rfl rfl rfl rfl hon ?_;rintro _ _ ⟨rfl,rfl⟩)|refine X_yl (Zad rfl rfl) rfl rfl ?_|refine X_yl (Zac rfl rfl) rfl rfl ?_|refine X_yl (Zbr rfl rfl rfl) rfl rfl ?_|refine X_yl (Zbb rfl rfl rfl) rfl rfl ?_|refine X_yl (Zbl rfl rfl) rfl rfl ?_|refine X_yl (Zc0 rfl rfl rfl (by omega)) rfl rfl ?_|refine X_yl (Za7 rfl rfl rfl (by omega)) rfl rfl ?_|refine X_yl (Zdl rfl rfl rfl (by omega)) rfl rfl ?_|refine X_yl (Zd8 rfl rfl rfl (by omega) (by omega)) rfl rfl ?_)|(refine C_id ?_;first|refine Zak ?_|refine Zaa ?_|refine Zaq ?_|refine Za2 ?_|refine Zam rfl ?_|refine Zaj rfl ?_)|(refine E_id ?_;first|refine Zae ?_|refine Zat ?_|refine Zbh ?_|refine Zdb rfl (Zap rfl) (Zap rfl) (Ret.mk ?_)))
   rw [e]
   exact .inl ⟨by simp,rfl,hS⟩
 ·rw [hoff] at hon
  refine Zas Tryz.func80 rfl Tryz.ntmps80 rfl ?_
  repeat (first|(refine G_id ?_;first|refine Zah ?_|refine Zab rfl rfl ?_)|(refine X_id ?_;first|(refine Zan 112 rfl rfl rfl rfl rfl hon ?_;rintro _ _ ⟨rfl,rfl⟩)|refine X_yl (Zad rfl rfl) rfl rfl ?_|refine X_yl (Zac rfl rfl) rfl rfl ?_|refine X_yl (Zb8 rfl rfl) rfl rfl ?_)|(refine C_id ?_;first|refine Zak ?_|refine Zaa ?_|refine Zaq ?_|refine Za2 ?_|refine Zam rfl ?_)|(refine E_id ?_;first|refine Zae ?_|refine Zat ?_|refine Zbh ?_|refine Zdb rfl (Zap rfl) (Zap rfl) (Ret.mk ?_)))
  rw [show openM rd fs D j = ⟨9,D,0,false⟩ by unfold openM; rw [if_pos hoff]]
  exact .inl ⟨by simp,rfl,hS⟩
/-! ### Read -/
def Zhm (D : DiskM) (j : Nat) (no : Int) : Int × List UInt8 := if D.off = true then (9,[]) else if no < 0 ∨ (D.laid.length : Int) - 1 - j ≤ no then (1,[]) else D.read (1 + j + no)
theorem wread_ (lp p : Nat) (o s m : Int) (j : Nat) (done : Int) (rdn : Bool) (D : DiskM) (no : Int) (W : World) (hL : Rd W (Zdr lp p o s m j done rdn)) (hD : Rd W (disk p D)) (hj : j ≤ 4096) (hline : D.line.length < 1073741824) :
  Calls Tryz.prog 118 #[.pointer (some ⟨lp,0,none⟩),.int .i64 no] W (Ret fun v w => ∃ a c,v = .tuple #[.slice a (Zhm D j no).2.length c,.int .i64 (Zhm D j no).1] ∧ (Zhm D j no).2.length ≤ c ∧ St W noF [bytes a (Zhm D j no).2] w) := by
 have hS := St.start W
 have hc := hL.pts
 have hLo := hL.ro
 have hDo := hD.ro
 have hmost := hD.disk.1.most
 have hon := fun w (h : Rd w (disk p D)) => on_ p D w h
 cases hoff : D.off
 ·rw [hoff] at hon
  have e : Zhm D j no = if no < 0 ∨ (D.laid.length : Int) - 1 - j ≤ no then (1,[]) else D.read (1 + j + no) := by unfold Zhm; rw [if_neg (by simp [hoff])]
  by_cases h1 : no < 0
  ·rw [if_pos (.inl h1)] at e
   rw [e]
   refine Zas Tryz.func118 rfl Tryz.ntmps118 rfl ?_
   repeat (first|(refine G_id ?_;first|refine Zah ?_|refine Zab rfl rfl ?_|refine G_no rfl rfl rfl rfl rfl rfl ?_)|(refine X_id ?_;first|(refine Zan 112 rfl rfl rfl rfl rfl (hon _ (hDo.rd hS)) ?_;rintro _ _ ⟨rfl,rfl⟩)|refine X_yl (Zad rfl rfl) rfl rfl ?_|refine X_yl (Zac rfl rfl) rfl rfl ?_|refine X_yl (Zai rfl rfl) rfl rfl ?_|refine X_yl (Zaf rfl rfl rfl) rfl rfl ?_|refine X_yl (Zbr rfl rfl rfl) rfl rfl ?_|refine X_yl (Zbl rfl rfl) rfl rfl ?_|refine X_yl (Za3 rfl rfl rfl (by omega)) rfl rfl ?_|refine X_yl (Zbg rfl rfl rfl) rfl rfl ?_|refine X_yl (Zao rfl rfl (Zal (by assumption))) rfl rfl ?_)|(refine C_id ?_;first|refine Zak ?_|refine Zaa ?_|refine Zaq ?_|refine Za2 ?_|refine Zam rfl ?_|refine Zaj rfl ?_)|(refine E_id ?_;first|refine Zae ?_|refine Zat ?_|refine Zbh ?_|refine Zdb rfl (Zap rfl) (Zap rfl) (Ret.mk ?_)))
   exact ⟨none,0,rfl,Nat.le_refl _,hS.row_none⟩
  by_cases h2 : (D.laid.length : Int) - 1 - j ≤ no
  ·rw [if_pos (.inr h2)] at e
   rw [e]
   refine Zas Tryz.func118 rfl Tryz.ntmps118 rfl ?_
   repeat (first|(refine G_id ?_;first|refine Zah ?_|refine Zab rfl rfl ?_|refine Zcu rfl rfl rfl rfl ?_)|(refine X_id ?_;first|(refine Zbm 165 rfl rfl rfl rfl rfl hS (Zft lp p o s m j done rdn D _ (hLo.rd hS) (hDo.rd hS) hj) ?_;rintro _ _ rfl hS)|(refine Zan 112 rfl rfl rfl rfl rfl (hon _ (hDo.rd hS)) ?_;rintro _ _ ⟨rfl,rfl⟩)|refine X_yl (Zad rfl rfl) rfl rfl ?_|refine X_yl (Zac rfl rfl) rfl rfl ?_|refine X_yl (Zai rfl rfl) rfl rfl ?_|refine X_yl (Zaf rfl rfl rfl) rfl rfl ?_|refine X_yl (Zbb rfl rfl rfl) rfl rfl ?_|refine X_yl (Zbl rfl rfl) rfl rfl ?_|refine X_yl (Za7 rfl rfl rfl (by omega)) rfl rfl ?_|refine X_yl (Zda rfl rfl rfl (by omega)) rfl rfl ?_|refine X_yl (Zbg rfl rfl rfl) rfl rfl ?_|refine X_yl (Zao rfl rfl (Zal (by assumption))) rfl rfl ?_)|(refine C_id ?_;first|refine Zak ?_|refine Zaa ?_|refine Zaq ?_|refine Za2 ?_|refine Zam rfl ?_|refine Zaj rfl ?_)|(refine E_id ?_;first|refine Zae ?_|refine Zat ?_|refine Zbh ?_|refine Zdb rfl (Zap rfl) (Zap rfl) (Ret.mk ?_)))
   exact ⟨none,0,rfl,Nat.le_refl _,hS.row_none⟩
  ·rw [if_neg (by omega)] at e
   rw [e]
   refine Zas Tryz.func118 rfl Tryz.ntmps118 rfl ?_
   repeat (first|(refine G_id ?_;first|refine Zah ?_|refine Zab rfl rfl ?_|refine Zcu rfl rfl rfl rfl ?_)|(refine X_id ?_;first|(refine Zbm 165 rfl rfl rfl rfl rfl hS (Zft lp p o s m j done rdn D _ (hLo.rd hS) (hDo.rd hS) hj) ?_;rintro _ _ rfl hS)|(refine Zan 112 rfl rfl rfl rfl rfl (hon _ (hDo.rd hS)) ?_;rintro _ _ ⟨rfl,rfl⟩)|refine X_yl (Zad rfl rfl) rfl rfl ?_|refine X_yl (Zac rfl rfl) rfl rfl ?_|refine X_yl (Zai rfl rfl) rfl rfl ?_|refine X_yl (Zaf rfl rfl rfl) rfl rfl ?_|refine X_yl (Zbb rfl rfl rfl) rfl rfl ?_|refine X_yl (Zbl rfl rfl) rfl rfl ?_|refine X_yl (Za7 rfl rfl rfl (by omega)) rfl rfl ?_|refine X_yl (Zdv rfl rfl rfl (by omega)) rfl rfl ?_|refine X_yl (Zbg rfl rfl rfl) rfl rfl ?_|refine X_yl (Zao rfl rfl (Zal (by assumption))) rfl rfl ?_)|(refine C_id ?_;first|refine Zak ?_|refine Zaa ?_|refine Zaq ?_|refine Zaw ?_|refine Zaj rfl ?_)|(refine E_id ?_;first|refine Zae ?_|refine Zbf ?_))
   refine Zci (.s 0 (.s 1 (.s 2 (.s 3 (.s 4 (.s 5 (.s 6 (.s 7 (.s 8 (.s 9 (.s 10 (.h 11 (.s 12 (.s 13 (.s 14 (.s 15 .nil)))) .no)))))))))))) mixed (by kernel_rfl) rfl ?_
   have hS := hS.drew
   have hc := (hLo.rd hS).pts
   repeat (first|(refine Zbj ?_;first|refine Zag rfl rfl (fun _ => Zad rfl rfl) rfl rfl ?_|refine Zag rfl rfl (fun _ => Zai rfl rfl) rfl rfl ?_|refine Zag rfl rfl (fun _ => Zaf rfl rfl rfl) rfl rfl ?_|refine Zag rfl rfl (fun _ => Zbk rfl rfl rfl (w64 (by omega) (by omega))) rfl rfl ?_|refine Zbi (fun w' => w'.cell? _ = some _) rfl rfl (Zal (by assumption)) (fun _ hc => Zao rfl rfl hc) rfl rfl ?_|refine Za8 rfl rfl ?_))
   refine Zan _ rfl rfl rfl rfl rfl (read_ p D (1 + j + no) _ (hDo.rd hS) hline) ?_
   rintro _ w ⟨a,ca,rfl,hca,hS'⟩
   replace hS := hS.plus hS'
   clear hS'
   have hc := (hLo.rd hS).pts
   repeat (first|(refine C_id ?_;first|refine Za2 ?_)|(refine E_id ?_;first|refine Zae ?_|refine Zdb rfl (Zap rfl) (Zap rfl) (Ret.mk ?_))|(refine Zbj ?_;first|refine Zbw ?_|refine Zag rfl rfl (fun _ => Zac rfl rfl) rfl rfl ?_|refine Zag rfl rfl (fun _ => Zbq rfl rfl) rfl rfl ?_)|(refine Za5 ?_;first|refine And.intro (by repeat (first|exact trivial|refine And.intro (.inl (by decide +kernel)) ?_|refine And.intro (.inr (by first|assumption|exact hS.cell|exact Zal (by assumption)|exact hS.cellI (by omega)|exact hS.cellIP (by omega)|exact hS.cellsN|exact hS.cellB (by omega)|exact hS.cellBA (by omega)|exact hS.cellO 0 (by omega)|exact hS.cellO 1 (by omega)|exact hS.cellIA (by omega)|exact Zal (hc.rd hS).pts|exact hS.cellO 4 (by omega)|exact hS.cellO 5 (by omega)|exact hS.cellO 6 (by omega)|exact hS.cellO 7 (by omega)|exact hS.cellO 8 (by omega)|exact hS.cellO 9 (by omega)|exact hS.cellO 10 (by omega)|exact hS.cellO 11 (by omega)|exact hS.cellO 12 (by omega)|exact hS.cellO 13 (by omega)|exact hS.cellO 2 (by omega)|exact hS.cellO 3 (by omega))) ?_)) ?_))
   exact ⟨a,ca,rfl,hca,hS⟩
 ·rw [hoff] at hon
  rw [show Zhm D j no = (9,[]) by unfold Zhm; rw [if_pos hoff]]
  refine Zas Tryz.func118 rfl Tryz.ntmps118 rfl ?_
  repeat (first|(refine G_id ?_;first|refine Zah ?_|refine Zab rfl rfl ?_)|(refine X_id ?_;first|(refine Zan 112 rfl rfl rfl rfl rfl (hon _ (hDo.rd hS)) ?_;rintro _ _ ⟨rfl,rfl⟩)|refine X_yl (Zad rfl rfl) rfl rfl ?_|refine X_yl (Zac rfl rfl) rfl rfl ?_|refine X_yl (Zai rfl rfl) rfl rfl ?_|refine X_yl (Zaf rfl rfl rfl) rfl rfl ?_|refine X_yl (Zb8 rfl rfl) rfl rfl ?_|refine X_yl (Zbg rfl rfl rfl) rfl rfl ?_|refine X_yl (Zao rfl rfl (Zal (by assumption))) rfl rfl ?_)|(refine C_id ?_;first|refine Zak ?_|refine Zaa ?_|refine Zaq ?_|refine Za2 ?_|refine Zam rfl ?_|refine Zaj rfl ?_)|(refine E_id ?_;first|refine Zae ?_|refine Zat ?_|refine Zbh ?_|refine Zdb rfl (Zap rfl) (Zap rfl) (Ret.mk ?_)))
  exact ⟨none,0,rfl,Nat.le_refl _,hS.row_none⟩
end Cr
namespace Cr
open Go Go.Proofs
set_option maxRecDepth 100000
set_option maxHeartbeats 8000000
attribute [local irreducible] Calls

def Zik (n : Int) (d : List UInt8) (cnt : Nat) (x : Int × DiskM) (i : Nat) (v : Int × List UInt8) : Int × DiskM :=
 Ze1 (Ze1 x (1 + 2 * (i : Nat)) (Zil n (i : Nat) (cnt : Nat) v.1 d)) (1 + 2 * (i : Nat) + 1) v.2
def Zdp (n : Int) (d : List UInt8) (l : List (Int × List UInt8)) (x : Int × DiskM) : Nat → Int × DiskM
 | 0 => x
 | i + 1 => Zik n d l.length (Zdp n d l x i) i (l.getD i (0,[]))
theorem Zn8 (n : Int) (d : List UInt8) (cnt : Nat) (x : Int × DiskM) (i : Nat) (v : Int × List UInt8) : (Zik n d cnt x i v).2.line.length ≤ x.2.line.length + 2 ∧ (Zik n d cnt x i v).2.laid.length = x.2.laid.length := by
 unfold Zik
 have h1 := Ze3 x (1 + 2 * (i : Nat)) (Zil n (i : Nat) (cnt : Nat) v.1 d)
 have h2 := Ze3 (Ze1 x (1 + 2 * (i : Nat)) (Zil n (i : Nat) (cnt : Nat) v.1 d)) (1 + 2 * (i : Nat) + 1) v.2
 exact ⟨by omega,by rw [h2.2,h1.2]⟩
theorem Zjs (n : Int) (d : List UInt8) (l : List (Int × List UInt8)) (x : Int × DiskM) : ∀ i,(Zdp n d l x i).2.line.length ≤ x.2.line.length + 2 * i ∧ (Zdp n d l x i).2.laid.length = x.2.laid.length
 | 0 => by simp [Zdp]
 | i + 1 => by
  have h1 := Zjs n d l x i
  have h2 := Zn8 n d l.length (Zdp n d l x i) i (l.getD i (0,[]))
  simp only [Zdp]
  exact ⟨by omega,by rw [h2.2,h1.2]⟩
def putM (rd fs : List Int) (D : DiskM) (j : Nat) (done : Int) (l : List (Int × List UInt8)) : Int × DiskM :=
 layM rd fs j (Zet (Zdp (done + 1) (sumB rd fs (done + 1) l) l (0,D) l.length)) (done + 1) l
def Zc3 (rd fs : List Int) (D : DiskM) (j : Nat) (done : Int) (l : List (Int × List UInt8)) : Int × DiskM × Int :=
 if D.off = true then (9,D,done) else if ¬ Zdm l = 0 then (Zdm l,D,done) else if hasM ((D.laid.length : Int) - 1 - j) l = false then (1,D,done) else
 if (j : Int) / 2 < l.length ∨ last ≤ done then (6,D,done) else if l = [] then (0,D,done) else
 ((putM rd fs D j done l).1,(putM rd fs D j done l).2,if (putM rd fs D j done l).1 = 0 then done + 1 else done)
theorem commit_ (lp p : Nat) (o s m : Int) (j : Nat) (done : Int) (rdn : Bool) (D : DiskM) (a : Option Addr) (c : Nat) (l : List Wr) (rd fs : List Int) (W : World) (F : Nat → Prop) (hG : Gl W F rd fs) (hW : Wrs W F a l) (hj : j ≤ 4096) (hdone : 0 ≤ done)
  (hl : l.length ≤ 1048576) (hx64 : ∀ v ∈ l,v.x.s.length ≤ 140737488355328) (hline : D.line.length < 1073000000) (hS : St W F [Zdr lp p o s m j done rdn,disk p D] W) :
  Calls Tryz.prog 121 #[.pointer (some ⟨lp,0,none⟩),.slice a l.length c] W (Ret fun v w => v = .int .i64 (Zc3 rd fs D j done (l.map Wr.data)).1 ∧
   St W F [Zdr lp p o s m j (Zc3 rd fs D j done (l.map Wr.data)).2.2 rdn,disk p (Zc3 rd fs D j done (l.map Wr.data)).2.1] w) := by
 obtain ⟨d,hd⟩ : ∃ d,d = l.map Wr.data := ⟨_,rfl⟩
 have hdl : d.length = l.length := by rw [hd]; simp
 rw [← hd]
 have hD := hS.rd (List.mem_cons_of_mem _ (List.mem_cons_self ..))
 have hmost := hD.disk.1.most
 have hW0 : ∀ w rs,St W F rs w → Wrs w noF a l := fun w rs h => ⟨(hW.row.rd h).ro,fun v hv => ((hW.all v hv).rd h).ro⟩
 have hon : ∀ w rs,St W F (Zdr lp p o s m j done rdn :: disk p D :: rs) w → Calls Tryz.prog 112 #[.pointer (some ⟨p,0,none⟩)] w (Ret fun v w' => v = .bool (!D.off) ∧ w = w') := fun w rs h => on_ p D w (h.rd (List.mem_cons_of_mem _ (List.mem_cons_self ..)))
 cases hoff : D.off
 ·rw [hoff] at hon
  by_cases hck : Zdm d = 0
  ·cases hh : hasM ((D.laid.length : Int) - 1 - j) d
   ·rw [show Zc3 rd fs D j done d = (1,D,done) by unfold Zc3; rw [if_neg (by simp [hoff]),if_neg (by simpa using hck),if_pos hh]]
    refine Zas Tryz.func121 rfl Tryz.ntmps121 rfl ?_
    repeat (first|(refine G_id ?_;first|refine Zah ?_|refine Zab rfl rfl ?_)|(refine X_id ?_;first|(refine Zan 112 rfl rfl rfl rfl rfl (hon _ _ hS) ?_;rintro _ _ ⟨rfl,rfl⟩)|refine X_yl (Zad rfl rfl) rfl rfl ?_|refine X_yl (Zac rfl rfl) rfl rfl ?_|refine X_yl (Zai rfl rfl) rfl rfl ?_|refine X_yl (Zaf rfl rfl rfl) rfl rfl ?_|refine X_yl (Zbl rfl rfl) rfl rfl ?_|refine X_yl (Zbg rfl rfl rfl) rfl rfl ?_|refine X_yl (Zao rfl rfl hS.cell) rfl rfl ?_)|(refine C_id ?_;first|refine Zak ?_|refine Zaa ?_|refine Zaq ?_|refine Zaw ?_|refine Zaj rfl ?_)|(refine E_id ?_;first|refine Zae ?_|refine Zbf ?_))
    refine Zbm _ rfl rfl rfl rfl rfl hS (Zl2 a c l _ (hW0 _ _ hS) hl hx64) ?_
    rintro _ w rfl hS
    rw [← hd]
    repeat (first|(refine G_id ?_;first|refine Zah ?_|refine Zab rfl rfl ?_)|(refine X_id ?_;first|refine X_yl (Zad rfl rfl) rfl rfl ?_|refine X_yl (Zac rfl rfl) rfl rfl ?_|refine X_yl (Zb1 rfl rfl rfl (by omega)) rfl rfl ?_)|(refine C_id ?_;first|refine Zak ?_|refine Zaa ?_|refine Zaq ?_|refine Zaw ?_|refine Zaj rfl ?_)|(refine E_id ?_;first|refine Zae ?_))
    refine Zbm _ rfl rfl rfl rfl rfl hS (whas_ lp p o s m j done rdn D _ a c l (hS.rd (List.mem_cons_self ..)) (hS.rd (List.mem_cons_of_mem _ (List.mem_cons_self ..))) hj (hW0 _ _ hS) hl) ?_
    rintro _ w rfl hS
    rw [← hd,hh]
    repeat (first|(refine G_id ?_;first|refine Zah ?_|refine Zab rfl rfl ?_)|(refine X_id ?_;first|refine X_yl (Zac rfl rfl) rfl rfl ?_|refine X_yl (Zb8 rfl rfl) rfl rfl ?_)|(refine C_id ?_;first|refine Zak ?_|refine Zaa ?_|refine Za2 ?_|refine Zam rfl ?_)|(refine E_id ?_;first|refine Zae ?_|refine Zat ?_|refine Zbh ?_|refine Zax rfl (Zap rfl) (Ret.mk ?_)))
    exact ⟨rfl,hS⟩
   ·by_cases hfull : (j : Int) / 2 < l.length ∨ last ≤ done
    ·rw [show Zc3 rd fs D j done d = (6,D,done) by unfold Zc3; rw [if_neg (by simp [hoff]),if_neg (by simpa using hck),if_neg (by simp [hh]),if_pos (by rw [hdl]; exact hfull)]]
     unfold last at hfull
     by_cases hf1 : (j : Int) / 2 < l.length
     ·refine Zas Tryz.func121 rfl Tryz.ntmps121 rfl ?_
      repeat (first|(refine G_id ?_;first|refine Zah ?_|refine Zab rfl rfl ?_)|(refine X_id ?_;first|(refine Zan 112 rfl rfl rfl rfl rfl (hon _ _ hS) ?_;rintro _ _ ⟨rfl,rfl⟩)|refine X_yl (Zad rfl rfl) rfl rfl ?_|refine X_yl (Zac rfl rfl) rfl rfl ?_|refine X_yl (Zai rfl rfl) rfl rfl ?_|refine X_yl (Zaf rfl rfl rfl) rfl rfl ?_|refine X_yl (Zbl rfl rfl) rfl rfl ?_|refine X_yl (Zbg rfl rfl rfl) rfl rfl ?_|refine X_yl (Zao rfl rfl hS.cell) rfl rfl ?_)|(refine C_id ?_;first|refine Zak ?_|refine Zaa ?_|refine Zaq ?_|refine Zaw ?_|refine Zaj rfl ?_)|(refine E_id ?_;first|refine Zae ?_|refine Zbf ?_))
      refine Zbm _ rfl rfl rfl rfl rfl hS (Zl2 a c l _ (hW0 _ _ hS) hl hx64) ?_
      rintro _ w rfl hS
      rw [← hd]
      repeat (first|(refine G_id ?_;first|refine Zah ?_|refine Zab rfl rfl ?_)|(refine X_id ?_;first|refine X_yl (Zad rfl rfl) rfl rfl ?_|refine X_yl (Zac rfl rfl) rfl rfl ?_|refine X_yl (Zb1 rfl rfl rfl (by omega)) rfl rfl ?_)|(refine C_id ?_;first|refine Zak ?_|refine Zaa ?_|refine Zaq ?_|refine Zaw ?_|refine Zaj rfl ?_)|(refine E_id ?_;first|refine Zae ?_))
      refine Zbm _ rfl rfl rfl rfl rfl hS (whas_ lp p o s m j done rdn D _ a c l (hS.rd (List.mem_cons_self ..)) (hS.rd (List.mem_cons_of_mem _ (List.mem_cons_self ..))) hj (hW0 _ _ hS) hl) ?_
      rintro _ w rfl hS
      rw [← hd,hh]
      repeat (first|(refine G_id ?_;first|refine Zah ?_|refine Zab rfl rfl ?_|refine G_no rfl rfl rfl rfl rfl rfl ?_)|(refine X_id ?_;first|(refine Zan 168 rfl rfl rfl rfl rfl (Zr4 lp p o s m j done rdn _ (hS.rd (List.mem_cons_self ..)) hj) ?_;rintro _ _ ⟨rfl,rfl⟩)|refine X_yl (Zad rfl rfl) rfl rfl ?_|refine X_yl (Zac rfl rfl) rfl rfl ?_|refine X_yl (Zbr rfl rfl rfl) rfl rfl ?_|refine X_yl (Zbl rfl rfl) rfl rfl ?_|refine X_yl (Zbt rfl rfl) rfl rfl ?_|refine X_yl (Zhj rfl rfl rfl (by omega)) rfl rfl ?_)|(refine C_id ?_;first|refine Zak ?_|refine Zaa ?_|refine Za2 ?_|refine Zam rfl ?_|refine Zaj rfl ?_)|(refine E_id ?_;first|refine Zae ?_|refine Zat ?_|refine Zbh ?_|refine Zax rfl (Zap rfl) (Ret.mk ?_)))
      exact ⟨rfl,hS⟩
     ·have hf2 : 1152921504606846976 ≤ done := by omega
      refine Zas Tryz.func121 rfl Tryz.ntmps121 rfl ?_
      repeat (first|(refine G_id ?_;first|refine Zah ?_|refine Zab rfl rfl ?_)|(refine X_id ?_;first|(refine Zan 112 rfl rfl rfl rfl rfl (hon _ _ hS) ?_;rintro _ _ ⟨rfl,rfl⟩)|refine X_yl (Zad rfl rfl) rfl rfl ?_|refine X_yl (Zac rfl rfl) rfl rfl ?_|refine X_yl (Zai rfl rfl) rfl rfl ?_|refine X_yl (Zaf rfl rfl rfl) rfl rfl ?_|refine X_yl (Zbl rfl rfl) rfl rfl ?_|refine X_yl (Zbg rfl rfl rfl) rfl rfl ?_|refine X_yl (Zao rfl rfl hS.cell) rfl rfl ?_)|(refine C_id ?_;first|refine Zak ?_|refine Zaa ?_|refine Zaq ?_|refine Zaw ?_|refine Zaj rfl ?_)|(refine E_id ?_;first|refine Zae ?_|refine Zbf ?_))
      refine Zbm _ rfl rfl rfl rfl rfl hS (Zl2 a c l _ (hW0 _ _ hS) hl hx64) ?_
      rintro _ w rfl hS
      rw [← hd]
      repeat (first|(refine G_id ?_;first|refine Zah ?_|refine Zab rfl rfl ?_)|(refine X_id ?_;first|refine X_yl (Zad rfl rfl) rfl rfl ?_|refine X_yl (Zac rfl rfl) rfl rfl ?_|refine X_yl (Zb1 rfl rfl rfl (by omega)) rfl rfl ?_)|(refine C_id ?_;first|refine Zak ?_|refine Zaa ?_|refine Zaq ?_|refine Zaw ?_|refine Zaj rfl ?_)|(refine E_id ?_;first|refine Zae ?_))
      refine Zbm _ rfl rfl rfl rfl rfl hS (whas_ lp p o s m j done rdn D _ a c l (hS.rd (List.mem_cons_self ..)) (hS.rd (List.mem_cons_of_mem _ (List.mem_cons_self ..))) hj (hW0 _ _ hS) hl) ?_
      rintro _ w rfl hS
      rw [← hd,hh]
      repeat (first|(refine G_id ?_;first|refine Zah ?_|refine Zab rfl rfl ?_|refine Zcu rfl rfl rfl rfl ?_)|(refine X_id ?_;first|(refine Zan 168 rfl rfl rfl rfl rfl (Zr4 lp p o s m j done rdn _ (hS.rd (List.mem_cons_self ..)) hj) ?_;rintro _ _ ⟨rfl,rfl⟩)|refine X_yl (Zad rfl rfl) rfl rfl ?_|refine X_yl (Zac rfl rfl) rfl rfl ?_|refine X_yl (Zai rfl rfl) rfl rfl ?_|refine X_yl (Zaf rfl rfl rfl) rfl rfl ?_|refine X_yl (Zbb rfl rfl rfl) rfl rfl ?_|refine X_yl (Zbl rfl rfl) rfl rfl ?_|refine X_yl (Zbt rfl rfl) rfl rfl ?_|refine X_yl (Zdl rfl rfl rfl (by omega)) rfl rfl ?_|refine X_yl (Zda rfl rfl rfl (by omega)) rfl rfl ?_|refine X_yl (Zao rfl rfl hS.cell) rfl rfl ?_)|(refine C_id ?_;first|refine Zak ?_|refine Zaa ?_|refine Za2 ?_|refine Zam rfl ?_|refine Zaj rfl ?_)|(refine E_id ?_;first|refine Zae ?_|refine Zat ?_|refine Zbh ?_|refine Zax rfl (Zap rfl) (Ret.mk ?_)))
      exact ⟨rfl,hS⟩
    ·unfold last at hfull
     by_cases hl0 : l = []
     ·rw [show Zc3 rd fs D j done d = (0,D,done) by unfold Zc3 last; rw [if_neg (by simp [hoff]),if_neg (by simpa using hck),if_neg (by simp [hh]),if_neg (by rw [hdl]; exact hfull),if_pos (by rw [hd,hl0]; rfl)]]
      have hl1 : l.length = 0 := by rw [hl0]; rfl
      refine Zas Tryz.func121 rfl Tryz.ntmps121 rfl ?_
      repeat (first|(refine G_id ?_;first|refine Zah ?_|refine Zab rfl rfl ?_)|(refine X_id ?_;first|(refine Zan 112 rfl rfl rfl rfl rfl (hon _ _ hS) ?_;rintro _ _ ⟨rfl,rfl⟩)|refine X_yl (Zad rfl rfl) rfl rfl ?_|refine X_yl (Zac rfl rfl) rfl rfl ?_|refine X_yl (Zai rfl rfl) rfl rfl ?_|refine X_yl (Zaf rfl rfl rfl) rfl rfl ?_|refine X_yl (Zbl rfl rfl) rfl rfl ?_|refine X_yl (Zbg rfl rfl rfl) rfl rfl ?_|refine X_yl (Zao rfl rfl hS.cell) rfl rfl ?_)|(refine C_id ?_;first|refine Zak ?_|refine Zaa ?_|refine Zaq ?_|refine Zaw ?_|refine Zaj rfl ?_)|(refine E_id ?_;first|refine Zae ?_|refine Zbf ?_))
      refine Zbm _ rfl rfl rfl rfl rfl hS (Zl2 a c l _ (hW0 _ _ hS) hl hx64) ?_
      rintro _ w rfl hS
      rw [← hd]
      repeat (first|(refine G_id ?_;first|refine Zah ?_|refine Zab rfl rfl ?_)|(refine X_id ?_;first|refine X_yl (Zad rfl rfl) rfl rfl ?_|refine X_yl (Zac rfl rfl) rfl rfl ?_|refine X_yl (Zb1 rfl rfl rfl (by omega)) rfl rfl ?_)|(refine C_id ?_;first|refine Zak ?_|refine Zaa ?_|refine Zaq ?_|refine Zaw ?_|refine Zaj rfl ?_)|(refine E_id ?_;first|refine Zae ?_))
      refine Zbm _ rfl rfl rfl rfl rfl hS (whas_ lp p o s m j done rdn D _ a c l (hS.rd (List.mem_cons_self ..)) (hS.rd (List.mem_cons_of_mem _ (List.mem_cons_self ..))) hj (hW0 _ _ hS) hl) ?_
      rintro _ w rfl hS
      rw [← hd,hh]
      repeat (first|(refine G_id ?_;first|refine Zah ?_|refine Zab rfl rfl ?_|refine Zcu rfl rfl rfl rfl ?_)|(refine X_id ?_;first|(refine Zan 168 rfl rfl rfl rfl rfl (Zr4 lp p o s m j done rdn _ (hS.rd (List.mem_cons_self ..)) hj) ?_;rintro _ _ ⟨rfl,rfl⟩)|refine X_yl (Zad rfl rfl) rfl rfl ?_|refine X_yl (Zac rfl rfl) rfl rfl ?_|refine X_yl (Zai rfl rfl) rfl rfl ?_|refine X_yl (Zaf rfl rfl rfl) rfl rfl ?_|refine X_yl (Zbb rfl rfl rfl) rfl rfl ?_|refine X_yl (Zbl rfl rfl) rfl rfl ?_|refine X_yl (Zbt rfl rfl) rfl rfl ?_|refine X_yl (Zej rfl rfl rfl (by omega)) rfl rfl ?_|refine X_yl (Zdl rfl rfl rfl (by omega)) rfl rfl ?_|refine X_yl (Zdv rfl rfl rfl (by omega)) rfl rfl ?_|refine X_yl (Zao rfl rfl hS.cell) rfl rfl ?_)|(refine C_id ?_;first|refine Zak ?_|refine Zaa ?_|refine Za2 ?_|refine Zam rfl ?_|refine Zaj rfl ?_)|(refine E_id ?_;first|refine Zae ?_|refine Zat ?_|refine Zbh ?_|refine Zax rfl (Zap rfl) (Ret.mk ?_)))
      exact ⟨rfl,hS⟩
     ·have hl1 : ¬ l.length = 0 := fun h => hl0 (List.length_eq_zero_iff.1 h)
      rw [show Zc3 rd fs D j done d = ((putM rd fs D j done d).1,(putM rd fs D j done d).2,if (putM rd fs D j done d).1 = 0 then done + 1 else done) by
       unfold Zc3 last; rw [if_neg (by simp [hoff]),if_neg (by simpa using hck),if_neg (by simp [hh]),if_neg (by rw [hdl]; exact hfull),if_neg (by intro h; rw [h] at hdl; exact hl1 hdl.symm)]]
      refine Zas Tryz.func121 rfl Tryz.ntmps121 rfl ?_
      repeat (first|(refine G_id ?_;first|refine Zah ?_|refine Zab rfl rfl ?_)|(refine X_id ?_;first|(refine Zan 112 rfl rfl rfl rfl rfl (hon _ _ hS) ?_;rintro _ _ ⟨rfl,rfl⟩)|refine X_yl (Zad rfl rfl) rfl rfl ?_|refine X_yl (Zac rfl rfl) rfl rfl ?_|refine X_yl (Zai rfl rfl) rfl rfl ?_|refine X_yl (Zaf rfl rfl rfl) rfl rfl ?_|refine X_yl (Zbl rfl rfl) rfl rfl ?_|refine X_yl (Zbg rfl rfl rfl) rfl rfl ?_|refine X_yl (Zao rfl rfl hS.cell) rfl rfl ?_)|(refine C_id ?_;first|refine Zak ?_|refine Zaa ?_|refine Zaq ?_|refine Zaw ?_|refine Zaj rfl ?_)|(refine E_id ?_;first|refine Zae ?_|refine Zbf ?_))
      refine Zbm _ rfl rfl rfl rfl rfl hS (Zl2 a c l _ (hW0 _ _ hS) hl hx64) ?_
      rintro _ w rfl hS
      rw [← hd]
      repeat (first|(refine G_id ?_;first|refine Zah ?_|refine Zab rfl rfl ?_)|(refine X_id ?_;first|refine X_yl (Zad rfl rfl) rfl rfl ?_|refine X_yl (Zac rfl rfl) rfl rfl ?_|refine X_yl (Zb1 rfl rfl rfl (by omega)) rfl rfl ?_)|(refine C_id ?_;first|refine Zak ?_|refine Zaa ?_|refine Zaq ?_|refine Zaw ?_|refine Zaj rfl ?_)|(refine E_id ?_;first|refine Zae ?_))
      refine Zbm _ rfl rfl rfl rfl rfl hS (whas_ lp p o s m j done rdn D _ a c l (hS.rd (List.mem_cons_self ..)) (hS.rd (List.mem_cons_of_mem _ (List.mem_cons_self ..))) hj (hW0 _ _ hS) hl) ?_
      rintro _ w rfl hS
      rw [← hd,hh]
      repeat (first|(refine G_id ?_;first|refine Zah ?_|refine Zab rfl rfl ?_|refine Zcu rfl rfl rfl rfl ?_)|(refine X_id ?_;first|(refine Zan 168 rfl rfl rfl rfl rfl (Zr4 lp p o s m j done rdn _ (hS.rd (List.mem_cons_self ..)) hj) ?_;rintro _ _ ⟨rfl,rfl⟩)|refine X_yl (Zad rfl rfl) rfl rfl ?_|refine X_yl (Zac rfl rfl) rfl rfl ?_|refine X_yl (Zai rfl rfl) rfl rfl ?_|refine X_yl (Zaf rfl rfl rfl) rfl rfl ?_|refine X_yl (Zbb rfl rfl rfl) rfl rfl ?_|refine X_yl (Zbl rfl rfl) rfl rfl ?_|refine X_yl (Zbt rfl rfl) rfl rfl ?_|refine X_yl (Zd9 rfl rfl rfl (by omega)) rfl rfl ?_|refine X_yl (Zdl rfl rfl rfl (by omega)) rfl rfl ?_|refine X_yl (Zdv rfl rfl rfl (by omega)) rfl rfl ?_|refine X_yl (Zco rfl rfl rfl) rfl rfl ?_|refine X_yl (Zbk rfl rfl rfl (w64 (by omega) (by omega))) rfl rfl ?_|refine X_yl (Zao rfl rfl hS.cell) rfl rfl ?_|refine Zeg rfl rfl rfl rfl hS (fun _ _ hS _ => ?_))|(refine C_id ?_;first|refine Zak ?_|refine Zaa ?_|refine Zaw ?_|refine Zaj rfl ?_)|(refine E_id ?_;first|refine Zae ?_|refine Zbf ?_))
      rename_i sp _ _
      have hgood : ∀ v ∈ l,0 ≤ v.no ∧ v.no < (D.laid.length : Int) - 1 - j ∧ v.x.s.length = 64 := fun v hv => by
       have h1 := Zf1 hck v.data (by rw [hd]; exact List.mem_map.2 ⟨v,hv,rfl⟩)
       have h2 := List.all_eq_true.1 hh v.data (by rw [hd]; exact List.mem_map.2 ⟨v,hv,rfl⟩)
       exact ⟨h1.1,of_decide_eq_true h2,h1.2⟩
      have hfr := Zir (done + 1) d (fun x hx => by
       have := (Zf1 hck x hx).2
       omega)
      have hpm : putM rd fs D j done d = layM rd fs j (Zet (Zdp (done + 1) (sumB rd fs (done + 1) d) d (0,D) d.length)) (done + 1) d := rfl
      refine Zbm _ rfl rfl rfl rfl rfl hS (wsum_ (done + 1) a c l rd fs _ (hG.mono fun r hr => (hr.rd hS).ro) (hW0 _ _ hS) hl (by rw [← hd]; omega)) ?_
      rintro _ w rfl hS
      rw [← hd]
      obtain ⟨sd,hsd⟩ : ∃ sd,sd = sumB rd fs (done + 1) d := ⟨_,rfl⟩
      have hsl : sd.length = 32 := by rw [hsd]; exact Zkx ..
      rw [← hsd] at hpm ⊢
      have hl32 : LenO (bv sd) 32 := ⟨by simp [hsl]⟩
      repeat (first|(refine G_id ?_;first|refine Zah ?_|refine Zab rfl rfl ?_)|(refine X_id ?_;first|refine X_yl (Zad rfl rfl) rfl rfl ?_|refine X_yl (Zbt rfl rfl) rfl rfl ?_|refine Za1 rfl rfl rfl rfl hS (fun _ hS _ => ?_)|refine Zbe rfl rfl rfl hS (fun _ _ hS _ => ?_))|(refine C_id ?_;first|refine Zak ?_|refine Zaa ?_|refine Zaq ?_)|(refine E_id ?_;first|refine Zae ?_))
      rename_i b8 _ _ _ _ _
      have hS := hS.pick [1,2,1,0]
      refine Zb7 (α := Nat) (fun i => [(0,.pointer (some ⟨lp,0,none⟩)),(1,.slice a l.length c),(6,.pointer (some ⟨sp,0,none⟩)),(7,.int .i64 (done + 1)),(8,.pointer (some ⟨b8,0,none⟩)),(62,.slice a l.length c),(63,.int .i64 (l.length : Nat)),(64,.int .i64 (i : Nat))])
       (fun i w => i ≤ l.length ∧ St W F [Zjl sp p (Zdp (done + 1) sd d (0,D) i).1,disk p (Zdp (done + 1) sd d (0,D) i).2,Zdr lp p o s m j done rdn,pts b8 (.cells (bv sd).toArray 23)] w) (fun i => l.length - i) 0 ⟨rfl,rfl,rfl,rfl,rfl,rfl,rfl,rfl,trivial⟩ ⟨Nat.zero_le _,hS⟩ ?_
      clear hS
      rintro i w ⟨hi,hS⟩
      have hnl := Zjs (done + 1) sd d (0,D) i
      simp only at hnl
      obtain ⟨X,hX⟩ : ∃ X,X = Zdp (done + 1) sd d (0,D) i := ⟨_,rfl⟩
      rw [← hX] at hS hnl
      by_cases hlt : i < l.length
      ·have hx0 : l[i]? = some l[i] := List.getElem?_eq_getElem hlt
       generalize l[i] = v at hx0
       have hvm := List.mem_of_getElem? hx0
       have hgv := (hgood v hvm).2.2
       have hdi : d.getD i (0,[]) = (v.no,v.x.s) := by rw [List.getD_eq_getElem?_getD,hd]; simp [hx0,Wr.data]
       have hr := hW.row
       have hxs : ((l.flatMap Wr.cells).drop (i * 2)).take 2 = [.int .i64 v.no,.slice v.x.a v.x.s.length v.x.c] := Zoz hx0
       obtain ⟨ab,ao,rfl⟩ := (hW.row.rd hS).base (by intro e; rw [e] at hxs; simp at hxs)
       repeat (first|(refine G_id ?_;first|refine Zah ?_|refine Zab rfl rfl ?_)|(refine X_id ?_;first|refine X_yl (Zad rfl rfl) rfl rfl ?_|refine X_yl (Zac rfl rfl) rfl rfl ?_|refine X_yl (Zaf rfl rfl rfl) rfl rfl ?_|refine X_yl (Zbt rfl rfl) rfl rfl ?_|refine X_yl (Za3 rfl rfl rfl (by omega)) rfl rfl ?_|refine X_yl (Zau rfl rfl rfl (by omega) (by omega) (by first|assumption|exact ⟨_,_,rfl⟩)) rfl rfl ?_|refine X_yl (Zbk rfl rfl rfl (w64 (by omega) (by omega))) rfl rfl ?_|refine X_yl (Zfi rfl rfl rfl (w64 (by omega) (by omega))) rfl rfl ?_|refine X_yl (Zao rfl rfl hS.cell) rfl rfl ?_|refine X_yl (Zbc rfl rfl hS.cellsN) rfl rfl ?_|refine X_yl (Zbc rfl rfl ((hr.rd hS).cellsX (by omega) hxs rfl)) rfl rfl ?_|refine Za1 rfl rfl rfl rfl hS (fun _ hS _ => ?_)|refine Zbe rfl rfl rfl hS (fun _ _ hS _ => ?_))|(refine C_id ?_;first|refine Zak ?_|refine Zaa ?_|refine Zaq ?_|refine Zaw ?_|refine Zam rfl ?_)|(refine E_id ?_;first|refine Zae ?_))
       refine Zan _ rfl rfl rfl rfl rfl (note_ (done + 1) (i : Nat) (l.length : Nat) v.no sd hsl _) ?_
       rintro _ w ⟨q,k,rfl,hS'⟩
       replace hS := hS.plus hS'
       clear hS'
       repeat (first|(refine G_id ?_;first|refine Zab rfl rfl ?_))
       obtain ⟨_,hc,hr,hw,hbk⟩ := hS.call [false,false,true,true,false,false]
       refine Zan _ rfl rfl rfl rfl rfl (Zkw sp p X _ _ 64 k (Zil (done + 1) (i : Nat) (l.length : Nat) v.no sd) _ _ hc (hr _ (List.mem_cons_self ..)) (Zgz ..) (by omega)) ?_
       rintro _ w ⟨_,hS⟩
       replace hS := hbk hS
       clear hc hr hw hbk
       have hX2 := Ze3 X (1 + 2 * (i : Nat)) (Zil (done + 1) (i : Nat) (l.length : Nat) v.no sd)
       repeat (first|(refine G_id ?_;first|refine Zah ?_|refine Zab rfl rfl ?_)|(refine X_id ?_;first|refine X_yl (Zad rfl rfl) rfl rfl ?_|refine X_yl (Zaf rfl rfl rfl) rfl rfl ?_|refine X_yl (Zbk rfl rfl rfl (w64 (by omega) (by omega))) rfl rfl ?_|refine X_yl (Zfi rfl rfl rfl (w64 (by omega) (by omega))) rfl rfl ?_|refine X_yl (Zao rfl rfl hS.cell) rfl rfl ?_)|(refine C_id ?_;first|refine Zaa ?_)|(refine E_id ?_;first|refine Zae ?_))
       obtain ⟨_,hc,hr,hw,hbk⟩ := hS.call [true,true,false,false,false,false]
       refine Zan _ rfl rfl rfl rfl rfl (Zkw sp p (Ze1 X (1 + 2 * (i : Nat)) (Zil (done + 1) (i : Nat) (l.length : Nat) v.no sd)) _ _ _ _ v.x.s _ _ hc (hw _ (hW.all v hvm)) rfl (by omega)) ?_
       rintro _ w ⟨_,hS⟩
       replace hS := hbk hS
       clear hc hr hw hbk
       repeat (first|(refine G_id ?_;first|refine Zah ?_|refine Zab rfl rfl ?_)|(refine X_id ?_;first|refine X_yl (Zad rfl rfl) rfl rfl ?_|refine X_yl (Zbk rfl rfl rfl (w64 (by omega) (by omega))) rfl rfl ?_)|(refine C_id ?_;first|refine Zaa ?_)|(refine E_id ?_;first|refine Zae ?_|refine Zbf ?_))
       refine Zbu (i + 1) ⟨rfl,rfl,rfl,rfl,rfl,rfl,rfl,rfl,trivial⟩ ⟨by omega,?_⟩ (by omega)
       simp only [Zdp]
       rw [hdi,← hX,hdl]
       have hS := hS.pick [0,0,2,2]
       exact hS
      ·obtain rfl : i = l.length := by omega
       rw [hdl,← hX] at hpm
       have hX2 := Zmw X
       repeat (first|(refine G_id ?_;first|refine Zah ?_|refine Zab rfl rfl ?_)|(refine X_id ?_;first|refine X_yl (Zad rfl rfl) rfl rfl ?_|refine X_yl (Za7 rfl rfl rfl (by omega)) rfl rfl ?_)|(refine C_id ?_;first|refine Zak ?_|refine Zaa ?_|refine Zb0 ?_|refine Zaj rfl ?_)|(refine E_id ?_;first|refine Zae ?_|refine Zav ?_|refine Zaz ?_))
       obtain ⟨_,hc,hr,hw,hbk⟩ := hS.call [true,true,false,false]
       refine Zan _ rfl rfl rfl rfl rfl (Zn1 sp p X _ _ hc (by omega)) ?_
       rintro _ w ⟨_,hS⟩
       replace hS := hbk hS
       clear hc hr hw hbk
       repeat (first|(refine G_id ?_;first|refine Zah ?_|refine Zab rfl rfl ?_)|(refine X_id ?_;first|refine X_yl (Zad rfl rfl) rfl rfl ?_)|(refine C_id ?_;first|refine Zak ?_|refine Zaa ?_)|(refine E_id ?_;first|refine Zae ?_))
       have hS := hS.pick [2,0,0]
       obtain ⟨_,hc,hr,hw,hbk⟩ := hS.call [true,true,true]
       refine Zan _ rfl rfl rfl rfl rfl (wlay_ lp sp p o s m j done rdn (Zet X) (done + 1) a c l rd fs _ _ (hG.mono hw) (hW.mono hw) hj hl (fun v hv => by have := hgood v hv; omega) (by omega) hc) ?_
       rintro _ w ⟨rfl,hS⟩
       replace hS := hbk hS
       clear hc hr hw hbk
       rw [hpm,hd]
       repeat (first|(refine G_id ?_;first|refine Zah ?_|refine Zab rfl rfl ?_)|(refine X_id ?_;first|refine X_yl (Zac rfl rfl) rfl rfl ?_)|(refine C_id ?_;first|refine Za2 ?_)|(refine E_id ?_;first|refine Zae ?_|refine Zax rfl (Zap rfl) (Ret.mk ?_)))
       exact ⟨rfl,hS.pick [0,1]⟩
  ·rw [show Zc3 rd fs D j done d = (Zdm d,D,done) by unfold Zc3; rw [if_neg (by simp [hoff]),if_pos hck]]
   refine Zas Tryz.func121 rfl Tryz.ntmps121 rfl ?_
   repeat (first|(refine G_id ?_;first|refine Zah ?_|refine Zab rfl rfl ?_)|(refine X_id ?_;first|(refine Zan 112 rfl rfl rfl rfl rfl (hon _ _ hS) ?_;rintro _ _ ⟨rfl,rfl⟩)|refine X_yl (Zad rfl rfl) rfl rfl ?_|refine X_yl (Zac rfl rfl) rfl rfl ?_|refine X_yl (Zai rfl rfl) rfl rfl ?_|refine X_yl (Zaf rfl rfl rfl) rfl rfl ?_|refine X_yl (Zbl rfl rfl) rfl rfl ?_|refine X_yl (Zbg rfl rfl rfl) rfl rfl ?_|refine X_yl (Zao rfl rfl hS.cell) rfl rfl ?_)|(refine C_id ?_;first|refine Zak ?_|refine Zaa ?_|refine Zaq ?_|refine Zaw ?_|refine Zaj rfl ?_)|(refine E_id ?_;first|refine Zae ?_|refine Zbf ?_))
   refine Zbm _ rfl rfl rfl rfl rfl hS (Zl2 a c l _ (hW0 _ _ hS) hl hx64) ?_
   rintro _ w rfl hS
   rw [← hd]
   repeat (first|(refine G_id ?_;first|refine Zah ?_|refine Zab rfl rfl ?_)|(refine X_id ?_;first|refine X_yl (Zad rfl rfl) rfl rfl ?_|refine X_yl (Zac rfl rfl) rfl rfl ?_|refine X_yl (Zc0 rfl rfl rfl (by omega)) rfl rfl ?_)|(refine C_id ?_;first|refine Zak ?_|refine Zaa ?_|refine Za2 ?_|refine Zam rfl ?_)|(refine E_id ?_;first|refine Zae ?_|refine Zat ?_|refine Zax rfl (Zap rfl) (Ret.mk ?_)))
   exact ⟨rfl,hS⟩
 ·rw [hoff] at hon
  rw [show Zc3 rd fs D j done d = (9,D,done) by unfold Zc3; rw [if_pos hoff]]
  refine Zas Tryz.func121 rfl Tryz.ntmps121 rfl ?_
  repeat (first|(refine G_id ?_;first|refine Zah ?_|refine Zab rfl rfl ?_)|(refine X_id ?_;first|(refine Zan 112 rfl rfl rfl rfl rfl (hon _ _ hS) ?_;rintro _ _ ⟨rfl,rfl⟩)|refine X_yl (Zad rfl rfl) rfl rfl ?_|refine X_yl (Zac rfl rfl) rfl rfl ?_|refine X_yl (Zai rfl rfl) rfl rfl ?_|refine X_yl (Zaf rfl rfl rfl) rfl rfl ?_|refine X_yl (Zb8 rfl rfl) rfl rfl ?_|refine X_yl (Zbg rfl rfl rfl) rfl rfl ?_|refine X_yl (Zao rfl rfl hS.cell) rfl rfl ?_)|(refine C_id ?_;first|refine Zak ?_|refine Zaa ?_|refine Zaq ?_|refine Za2 ?_|refine Zam rfl ?_|refine Zaj rfl ?_)|(refine E_id ?_;first|refine Zae ?_|refine Zat ?_|refine Zbh ?_|refine Zax rfl (Zap rfl) (Ret.mk ?_)))
  exact ⟨rfl,hS⟩
end Cr
namespace Cr
open Go
theorem Znx {d : List (Int × List UInt8)} {i k : Nat} (hi : i < d.length) (hk : k < i) (h : (d.getD k (0,[])).1 = (d.getD i (0,[])).1) : ∀ n,i < n → Zcy d n = true
 | 0,h' => absurd h' (by omega)
 | n + 1,h' => by
  simp only [Zcy]
  rcases Nat.lt_or_ge i n with hlt | hge
  ·rw [Znx hi hk h n hlt]; rfl
  ·obtain rfl : n = i := by omega
   have hm : (d.getD n (0,[])).1 ∈ (d.take n).map (·.1) := by
    rw [← h,List.getD_eq_getElem?_getD,List.getElem?_eq_getElem (show k < d.length by omega)]
    exact List.mem_map.2 ⟨d[k],List.mem_iff_getElem.2 ⟨k,by simp; omega,by simp⟩,rfl⟩
   rw [decide_eq_true hm]; simp
end Cr
