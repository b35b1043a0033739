/-
  Layer 4 (wal): found.
  Layer 4 (wal): redo.
  sync.Mutex,sync.Once,as one goroutine meets them.
  Layer 4 (wal): Once.Do at Open; Open.
  Layer 4 (wal): Open,Read.
  Layer 4 (wal): Commit.
  Places that are met twice.
  A disk that is on and not armed: what writes and flushes leave on it. No program is in sight.
  What a transaction leaves behind on a disk that is on and not armed (as Pl1,without the document's check). No program is in sight.
  Layer 7 (inode) in plain words: nodes,their sectors,and how changes are applied. No program is in sight.
  Layer 6 (mode): Check,Number,Of.
  Layer 7 (inode): numbers,sectors.
  A bag of rows: read only,and they may lie one in another. Over any program.
-/
import Derived.Test.YtjpjbgkjfdhjjaaGreatDoorBsl5
import Derived.Laws.LoneSync
import Derived.Test.YtjpjbgkjfdhjjaaGreatDoorBsl3
import Derived.Test.YtjpjbgkjfdhjjaaGreatDoorBsl4
import Derived.Test.YtjpjbgkjfdhjjaaGreatDoorBsl2
namespace Cr
open Go Go.Proofs
set_option maxRecDepth 100000
set_option maxHeartbeats 64000000
attribute [local irreducible] Calls
instance : NoGuard Tryz.prog 54 := ⟨by kernel_rfl⟩

theorem Z1k (D : DiskM) (hok : D.ok) (j : Nat) (number at_ : Int) : (entM D j number at_).d.length = 32 := by
 unfold entM
 split
 ·simp [Ent.none]
 ·split
  ·simp [Ent.none]
  ·rename_i h
   have h1 : (D.read (1 + 2 * at_)).1 = 0 := Decidable.byContradiction fun e => h (.inl e)
   have := Zih hok h1
   simp [Zuk,this]
theorem Zxg {D : DiskM} {j : Nat} {number at_ : Int} (h : (entM D j number at_).ok = true) : 0 ≤ at_ ∧ at_ < (j : Int) / 2 := by
 unfold entM at h
 split at h
 ·simp [Ent.none] at h
 ·rename_i h'; omega
theorem Z61 (D : DiskM) (hok : D.ok) (j : Nat) (number at_ : Int) : (entM D j number at_).b.length ≤ 64 := by
 unfold entM
 split
 ·simp [Ent.none]
 ·split
  ·simp [Ent.none]
  ·rename_i h
   have h1 : (D.read (1 + 2 * at_ + 1)).1 = 0 := Decidable.byContradiction fun e => h (.inr e)
   have := Zih hok h1
   simp [Zuk,this]
theorem Zhv (number : Int) (d : List (Int × List UInt8)) (h : ∀ x ∈ d,x.2.length ≤ 64) : (Zaz (Zfy number d)).length ≤ 20 + d.length * 76 := by
 have key : ∀ d : List (Int × List UInt8),(∀ x ∈ d,x.2.length ≤ 64) → (Zaz (d.flatMap fun v => [bigB v.1 4,v.2])).length ≤ d.length * 76 := by
  intro d
  induction d with
  | nil => intro _; simp [Zaz]
  | cons x d ih =>
   intro h
   have h1 := ih fun y hy => h y (List.mem_cons_of_mem _ hy)
   have h2 := h x (List.mem_cons_self ..)
   simp only [Zaz,List.flatMap_cons,List.cons_append,List.nil_append,List.length_append,Za2,Zag,List.length_cons] at h1 ⊢
   omega
 have h1 := key d h
 unfold Zaz at h1
 simp only [Zfy,Zaz,List.flatMap_cons,List.cons_append,List.nil_append,List.length_append,Za2,Zag]
 omega
def entW (e : Ent) : Int × List UInt8 := (e.no,e.b)
def Zkk (e0 e : Ent) : Bool := e.ok && decide (e.count = e0.count) && decide (e.d = e0.d)
def Zcv (D : DiskM) (j : Nat) (number : Int) (n : Nat) : List Ent := (List.range n).map fun i => entM D j number (i : Nat)
theorem Zo7 (D : DiskM) (j : Nat) (number : Int) (n : Nat) : Zcv D j number (n + 1) = Zcv D j number n ++ [entM D j number (n : Nat)] := by simp [Zcv,List.range_succ]
def Zo5 (D : DiskM) (j : Nat) (number : Int) : Option (List (Int × List UInt8)) :=
 if (entM D j number 0).ok = true ∧ 1 ≤ (entM D j number 0).count then
  if (Zcv D j number (entM D j number 0).count.toNat).all (Zkk (entM D j number 0)) = true then some ((Zcv D j number (entM D j number 0).count.toNat).map entW) else none
 else none
def Zdi (rd fs : List Int) (D : DiskM) (j : Nat) (number : Int) : List (Int × List UInt8) :=
 match Zo5 D j number with
 | none => []
 | some ws => if Zca ws = 0 ∧ sumB rd fs number ws = (entM D j number 0).d then ws else []
theorem Zrb {D : DiskM} {j : Nat} {number : Int} {e0 : Ent} {n i : Nat} (hi : i < n) (h : Zkk e0 (entM D j number (i : Nat)) = false) : (Zcv D j number n).all (Zkk e0) = false := by
 rw [List.all_eq_false];exact ⟨_,List.mem_map.2 ⟨i,List.mem_range.2 hi,rfl⟩,by simp [h]⟩
theorem Z6w (lp p : Nat) (o s m : Int) (j : Nat) (done : Int) (rdn : Bool) (D : DiskM) (number : Int) (rd fs : List Int) (W : World) (hG : Gl W noF rd fs) (hL : Rd W (Zcd lp p o s m j done rdn)) (hD : Rd W (disk p D)) (hj : j ≤ 4096) (hline : D.line.length < 1073741824) :
  Calls Tryz.prog 112 #[.pointer (some ⟨lp,0,none⟩),.int .i64 number] W (Ret fun v w => ∃ a c ws O,v = .slice a ws.length c ∧ ws.map Wr.data = Zdi rd fs D j number ∧ (a = none ↔ ws = []) ∧ (∀ v ∈ ws,v.x ∈ O) ∧
   St W noF [own 158 2 a c (ws.flatMap Wr.cells),rds O] w) := by
 have hS := St.start W
 have hLo := hL.ro
 have hDo := hD.ro
 have hok := hD.disk.1
 obtain ⟨e0,he0⟩ : ∃ e0,e0 = entM D j number 0 := ⟨_,rfl⟩
 have hd0 : e0.d.length = 32 := he0 ▸ Z1k D hok j number 0
 have hl0 : LenO (bv e0.d) 32 := ⟨by simp [hd0]⟩
 have hnil : ∀ w,St W noF [] w → Zdi rd fs D j number = [] → ∃ a c ws O,(Value.slice none 0 0) = .slice a ws.length c ∧ ws.map Wr.data = Zdi rd fs D j number ∧ (a = none ↔ ws = []) ∧ (∀ v ∈ ws,v.x ∈ O) ∧
   St W noF [own 158 2 a c (ws.flatMap Wr.cells),rds O] w := fun w h e => ⟨none,0,[],[],rfl,by rw [e]; rfl,by simp,by simp,h.rdsNil.own_none _ _ _⟩
 refine Zab Tryz.func112 rfl Tryz.ntmps112 rfl ?_
 repeat (first|refine Yeb ?_|refine Yeq ?_|refine Yae ?_|refine Ycg ?_|refine Yad ?_|refine Yab ?_)
 refine Zaa _ rfl rfl rfl rfl rfl (Z1j lp p o s m j done rdn D number 0 _ (hLo.rd hS) (hDo.rd hS) hj hline (by omega)) ?_
 rintro _ w ⟨a0,c0,rfl,hc0,hS'⟩
 replace hS := hS.plus hS';clear hS';rw [← he0] at hS hc0 ⊢;have hfl : Zo5 D j number = if e0.ok = true ∧ 1 ≤ e0.count then if (Zcv D j number e0.count.toNat).all (Zkk e0) = true then some ((Zcv D j number e0.count.toNat).map entW) else none else none := by unfold Zo5; rw [← he0]
 obtain ⟨no0,b0,n0,d0,ok0⟩ := e0
 simp only at hd0 hl0 hfl hS hc0
 unfold Ent.val
 simp only
 cases ok0
 ·repeat (first|refine Yev ?_|(refine X_id ?_;first|refine Yaf ?_|refine Yag ?_|refine Ya0 ?_|refine Ya9 ?_|refine Ybo ?_|refine Yao (fun _ hS _ => ?_)|refine Yar (fun _ _ hS _ => ?_))|refine Yet ?_|refine Yfl ?_)
  refine hnil _ hS.drops ?_
  unfold Zdi
  rw [hfl,if_neg (by simp)]
 ·by_cases h1 : n0 < 1
  ·repeat (first|refine Yes ?_|(refine X_id ?_;first|refine Yaf ?_|refine Yag ?_|refine Ya0 ?_|refine Ya7 ?_|refine Ybb ?_|refine Ya1 ?_|refine Yao (fun _ hS _ => ?_)|refine Yar (fun _ _ hS _ => ?_))|refine Yet ?_|refine Yfl ?_)
   refine hnil _ hS.drops ?_
   unfold Zdi
   rw [hfl,if_neg (by omega)]
  ·repeat (first|refine Yes ?_|(refine X_id ?_;first|refine Yaf ?_|refine Yag ?_|refine Ya0 ?_|refine Ya7 ?_|refine Ybb ?_|refine Yaz ?_|refine Yao (fun _ hS _ => ?_)|refine Yar (fun _ _ hS _ => ?_))|refine Yae ?_|refine Ziu ?_|refine Yad ?_|refine Yak ?_|refine Yal ?_|refine Yai ?_|refine Yab ?_)
   rename_i b6 w6 _ _ b8 w8 _ _ w9 _ _ w10 _;replace hS := (hS.pick [0]).rdsNil.own_none 158 2 none
   rw [if_pos ⟨rfl,by omega⟩] at hfl;have hbad : ∀ i : Nat,i < n0.toNat → Zkk ⟨no0,b0,n0,d0,true⟩ (entM D j number (i : Nat)) = false → Zdi rd fs D j number = [] := fun i hi h => by
    unfold Zdi
    rw [hfl,if_neg (by rw [Zrb hi h]; simp)]
   refine Zaj (α := Nat × Option Addr × Nat × List Wr × List Bs) (fun z => [(0,.pointer (some ⟨lp,0,none⟩)),(1,.int .i64 number),(5,.slice z.2.1 z.2.2.2.1.length z.2.2.1),(7,.int .i64 n0),(8,.pointer (some ⟨b8,0,none⟩)),(10,.int .i64 (z.1 : Nat))])
    (fun z w => (z.1 ≤ n0.toNat ∧ z.1 ≤ 2048 ∧ z.2.2.2.1.length = z.1 ∧ z.2.2.2.1.length ≤ z.2.2.1) ∧ (z.2.2.2.1.map Wr.data = (Zcv D j number z.1).map entW ∧ (Zcv D j number z.1).all (Zkk ⟨no0,b0,n0,d0,true⟩) = true ∧ (z.2.1 = none ↔ z.1 = 0) ∧ (∀ v ∈ z.2.2.2.1,v.x ∈ z.2.2.2.2) ∧ (∀ v ∈ z.2.2.2.1,v.x.s.length ≤ 64)) ∧
     St W noF [own 158 2 z.2.1 z.2.2.1 (z.2.2.2.1.flatMap Wr.cells),rds z.2.2.2.2,pts b8 (.cells (bv d0).toArray 54)] w) (fun z => n0.toNat - z.1)
    (0,none,0,[],[]) ⟨rfl,rfl,rfl,rfl,rfl,rfl,trivial⟩ ⟨⟨Nat.zero_le _,Nat.zero_le _,rfl,Nat.le_refl _⟩,⟨rfl,rfl,by simp,by simp,by simp⟩,hS⟩ ?_
   clear hS;rintro ⟨i,a5,c5,ws,O⟩ w ⟨⟨hi,hi2,hwl,hwc⟩,⟨hwd,hgood,hnone,hO,hw64⟩,hS⟩
   simp only at hi hi2 hwl hwc hwd hgood hnone hO hw64 hS ⊢
   by_cases hlt : i < n0.toNat
   ·have hlt' : (i : Int) < n0 := by omega
    repeat (first|refine Yeb ?_|refine Yaf ?_|refine Ya1 ?_|refine Yef ?_|refine Yab ?_)
    refine Zaa _ rfl rfl rfl rfl rfl (Z1j lp p o s m j done rdn D number (i : Nat) _ (hLo.rd hS) (hDo.rd hS) hj hline (by omega)) ?_
    rintro _ w ⟨a1,c1,rfl,hc1,hS'⟩
    replace hS := hS.plus hS';clear hS';have hok1 := fun h => (Zxg (D := D) (j := j) (number := number) (at_ := (i : Nat)) h)
    have hsucc := Zo7 D j number i
    have hd1 := Z1k D hok j number (i : Nat)
    have hbadi := hbad i hlt
    have hb1 := Z61 D hok j number (i : Nat)
    generalize entM D j number (i : Nat) = e1 at hS hc1 hok1 hsucc hd1 hbadi hb1 ⊢;obtain ⟨no1,b1,n1,d1,ok1⟩ := e1
    simp only at hd1 hS hc1 hok1 hb1
    have hl1 : LenO (bv d1) 32 := ⟨by simp [hd1]⟩
    unfold Ent.val
    simp only
    cases ok1
    ·have hf := hbadi (by simp [Zkk])
     repeat (first|refine Yev ?_|(refine X_id ?_;first|refine Yaf ?_|refine Yag ?_|refine Ya0 ?_|refine Ya9 ?_|refine Ybo ?_|refine Yao (fun _ hS _ => ?_)|refine Yar (fun _ _ hS _ => ?_))|refine Yae ?_|refine Yad ?_|refine Ya3 ?_|refine Yaj ?_|refine Yfm ?_)
     refine Zao (.s 0 (.s 1 (.s 2 (.s 3 (.h 4 (.s 5 (.s 6 (.s 7 (.s 8 (.s 9 (.s 11 (.h 10 (.s 12 (.s 13 .nil)) .no))))))) .no))))) mixed (by kernel_rfl) rfl ?_
     have hS := hS.drew
     repeat (first|refine Yeb ?_|refine Yag ?_|refine Yet ?_|refine Yfl ?_|(refine Zaf ?_;first|refine Ya2 ?_|refine Ya6 ?_|refine Ycn ?_|refine Ydn ?_|refine Ydd ?_|refine Ycm ?_))
     exact hnil _ hS.drops hf
    ·by_cases hn : n1 = n0
     ·by_cases hd : d1 = d0
      ·subst hn hd
       repeat (first|refine Yes ?_|(refine X_id ?_;first|refine Yaf ?_|refine Yag ?_|refine Ya0 ?_|refine Ya7 ?_|refine Ybb ?_|refine Ybc ?_|refine Ybi ?_|refine Yao (fun _ hS _ => ?_)|refine Yar (fun _ _ hS _ => ?_))|refine Yec ?_|refine Yab ?_)
       refine X_yl (Zk7 rfl rfl rfl hd1 hd0) rfl rfl ?_
       rw [decide_eq_false (not_not_intro rfl)];repeat (first|refine Yeb ?_|refine Yaf ?_|refine Ya7 ?_|refine Ybi ?_|refine Ybe (fun _ _ hS _ => ?_)|refine Ye3 ?_|refine Yab ?_)
       have hok2 := hok1 rfl
       refine Zas rfl rfl rfl rfl rfl hS (Zgw (f := Wr.cells) (n := 2) fun _ _ => rfl) hwc (hS.rd (List.mem_cons_self ..)).own_row rfl (fun u hu => by
        simp only [List.mem_cons,List.not_mem_nil,or_false] at hu
        rcases hu with rfl | rfl <;> rfl) (by omega) (by simp only [maxLen]; omega) (fun a' c' w hS hc' hnil' => ?_)
       repeat (first|refine Yeb ?_|refine Yer ?_|refine Yad ?_|refine Yej ?_)
       refine Zae (z := (i,a5,c5,ws,O)) (i + 1,a',c',ws ++ [(⟨no1,⟨a1,c1,b1⟩⟩ : Wr)],O ++ [(⟨a1,c1,b1⟩ : Bs)]) ⟨rfl,rfl,?_,rfl,rfl,rfl,trivial⟩ ⟨⟨by simp only; omega,by simp only; omega,by simp; omega,by simp; omega⟩,⟨?_,?_,?_,?_,?_⟩,?_⟩ (by simp only; omega)
       ·show some _ = some _
        simp
       ·show (ws ++ _).map Wr.data = _
        rw [hsucc,List.map_append,List.map_append,hwd]
        rfl
       ·show (Zcv D j number (i + 1)).all _ = true
        rw [hsucc,List.all_append,hgood];simp [Zkk]
       ·show a' = none ↔ i + 1 = 0
        rw [hnil']; simp
       ·intro v hv
        simp only [List.mem_append,List.mem_singleton] at hv ⊢
        rcases hv with hv | rfl
        ·exact .inl (hO v hv)
        ·exact .inr rfl
       ·intro v hv
        simp only [List.mem_append,List.mem_singleton] at hv
        rcases hv with hv | rfl
        ·exact hw64 v hv
        ·exact hb1
       ·skip
        have hS := hS.pick [4,4,0,3]
        replace hS := St.rdsCons (x := ⟨a1,c1,b1⟩) hS
        have hS := hS.pick [1,0,0]
        simpa [Wr.cells] using hS
      ·have hf := hbadi (by simp [Zkk,hd])
       repeat (first|refine Yes ?_|(refine X_id ?_;first|refine Yaf ?_|refine Yag ?_|refine Ya0 ?_|refine Ya7 ?_|refine Ybb ?_|refine Ybc ?_|refine Ybi ?_|refine Yao (fun _ hS _ => ?_)|refine Yar (fun _ _ hS _ => ?_))|refine Yec ?_|refine Yab ?_)
       refine X_yl (Zk7 rfl rfl rfl hd1 hd0) rfl rfl ?_
       rw [decide_eq_true hd];repeat (first|refine Yeb ?_|refine Yag ?_|refine Ya7 ?_|refine Yae ?_|refine Yad ?_|refine Ya3 ?_|refine Yaj ?_|refine Yfm ?_)
       refine Zao (.s 0 (.s 1 (.s 2 (.s 3 (.h 4 (.s 5 (.s 6 (.s 7 (.s 8 (.s 9 (.s 11 (.h 10 (.s 12 (.s 13 .nil)) .no))))))) .no))))) mixed (by kernel_rfl) rfl ?_
       have hS := hS.drew
       repeat (first|refine Yeb ?_|refine Yag ?_|refine Yet ?_|refine Yfl ?_|(refine Zaf ?_;first|refine Ya2 ?_|refine Ya6 ?_|refine Ycn ?_|refine Ydn ?_|refine Ydd ?_|refine Ycm ?_))
       exact hnil _ hS.drops hf
     ·have hf := hbadi (by simp [Zkk,hn])
      repeat (first|refine Yfb ?_|(refine X_id ?_;first|refine Yaf ?_|refine Yag ?_|refine Ya0 ?_|refine Ya9 ?_|refine Ya7 ?_|refine Ybb ?_|refine Ybj ?_|refine Yao (fun _ hS _ => ?_)|refine Yar (fun _ _ hS _ => ?_))|refine Yae ?_|refine Yad ?_|refine Ya3 ?_|refine Yaj ?_|refine Yfm ?_)
      refine Zao (.s 0 (.s 1 (.s 2 (.s 3 (.h 4 (.s 5 (.s 6 (.s 7 (.s 8 (.s 9 (.s 11 (.h 10 (.s 12 (.s 13 .nil)) .no))))))) .no))))) mixed (by kernel_rfl) rfl ?_
      have hS := hS.drew
      repeat (first|refine Yeb ?_|refine Yag ?_|refine Yet ?_|refine Yfl ?_|(refine Zaf ?_;first|refine Ya2 ?_|refine Ya6 ?_|refine Ycn ?_|refine Ydn ?_|refine Ydd ?_|refine Ycm ?_))
      exact hnil _ hS.drops hf
   ·obtain rfl : i = n0.toNat := by omega
    have hn0 : ((n0.toNat : Nat) : Int) = n0 := by omega
    obtain ⟨ad,rfl⟩ : ∃ ad,a5 = some ad := by
     cases a5 with
     | none => have := hnone.1 rfl; omega
     | some ad => exact ⟨ad,rfl⟩
    obtain ⟨d,hd⟩ : ∃ d,d = ws.map Wr.data := ⟨_,rfl⟩
    rw [if_pos hgood,← hwd,← hd] at hfl;have hfm : Zdi rd fs D j number = if Zca d = 0 ∧ sumB rd fs number d = d0 then d else [] := by
     unfold Zdi
     rw [hfl,← he0]
    have hdw : d.length = ws.length := by rw [hd]; simp
    have hfr := Zhv number d (fun x hx => by
     rw [hd] at hx;obtain ⟨v,hv,rfl⟩ := List.mem_map.1 hx
     exact hw64 v hv)
    have hWW : ∀ w rs,St W noF (own 158 2 (some ad) c5 (ws.flatMap Wr.cells) :: rds O :: rs) w → Wrs w noF (some ad) ws := fun w rs h => ⟨(h.rd (List.mem_cons_self ..)).own_row.ro,fun v hv => (h.rd (List.mem_cons_of_mem _ (List.mem_cons_self ..))).ro.rds _ (hO v hv)⟩
    repeat (first|refine Yeb ?_|refine Yaf ?_|refine Yaz ?_|refine Yeo ?_|refine Yeh ?_)
    refine Zao (.s 0 (.s 1 (.s 2 (.s 3 (.h 4 (.s 5 (.s 6 (.s 7 (.s 8 (.s 9 (.s 11 (.h 10 (.s 12 (.s 13 .nil)) .no))))))) .no))))) mixed (by kernel_rfl) rfl ?_
    have hS := hS.drew
    repeat (first|(refine Zaf ?_;first|refine Ya6 ?_|refine Ydn ?_|refine Yci ?_|refine Zfa rfl rfl rfl rfl ?_))
    refine Zac _ rfl rfl rfl rfl rfl hS (Zkx (some ad) c5 ws _ (hWW _ _ hS) (by omega) (fun v hv => by have := hw64 v hv; omega)) ?_
    rintro _ w rfl hS
    rw [← hd];by_cases hck : Zca d = 0
    ·repeat (first|(refine Zaf ?_;first|refine Ya6 ?_|refine Ych ?_|refine Yci ?_|refine Zco rfl rfl rfl rfl (fun _ => Znt rfl rfl rfl (by omega)) rfl rfl ?_|refine Zfa rfl rfl rfl rfl ?_|refine Zd6 (fun w' => Zmh w' _ _ _) rfl rfl rfl rfl hS.cellsN (fun _ hc => Zjn rfl rfl hc) rfl rfl ?_)|(refine Zad ?_;first|refine Yay ?_))
     refine Zac _ rfl rfl rfl rfl rfl hS (Z4a number (some ad) c5 ws rd fs _ (hG.mono fun r hr => (hr.rd hS).ro) (hWW _ _ hS) (by omega) (by rw [← hd]; omega)) ?_
     rintro _ w rfl hS
     rw [← hd];repeat (first|(refine Zad ?_;first|refine Yay ?_))
     refine Zco rfl rfl rfl rfl (fun _ => Zk7 rfl rfl rfl (Zj2 ..) hd0) rfl rfl ?_
     by_cases hsm : sumB rd fs number d = d0
     ·rw [decide_eq_false (not_not_intro hsm)]
      repeat (first|refine Yeb ?_|refine Yeq ?_|refine Ye1 ?_|refine Yab ?_|refine Yb4 ?_|refine Yam ?_|(refine Zaf ?_;first|refine Ya2 ?_|refine Ych ?_))
      refine ⟨some ad,c5,ws,O,rfl,?_,?_,hO,hS.pick [0,0]⟩
      ·rw [hfm,if_pos ⟨hck,hsm⟩,hd]
      ·constructor
       ·intro h; cases h
       ·intro h; rw [h] at hwl; simp at hwl; omega
     ·rw [decide_eq_true hsm]
      repeat (first|refine Yeb ?_|refine Yag ?_|refine Yet ?_|refine Yfl ?_|(refine Zaf ?_;first|refine Ya2 ?_|refine Ych ?_))
      exact hnil _ hS.drops (by rw [hfm,if_neg (fun h => hsm h.2)])
    ·repeat (first|refine Yeb ?_|refine Yag ?_|refine Yet ?_|refine Yfl ?_|(refine Zaf ?_;first|refine Ya2 ?_|refine Ya6 ?_|refine Ycn ?_|refine Ych ?_|refine Zco rfl rfl rfl rfl (fun _ => Zns rfl rfl rfl (by omega)) rfl rfl ?_|refine Ydd ?_|refine Ycm ?_)|(refine Zad ?_;first|refine Yay ?_))
     exact hnil _ hS.drops (by rw [hfm,if_neg (fun h => hck h.1)])
theorem Zet {d : List (Int × List UInt8)} (h : Zca d = 0) : ∀ x ∈ d,0 ≤ x.1 ∧ x.2.length = 64 := by
 intro x hx
 unfold Zca at h
 by_cases ha : d.any badW = true
 ·rw [if_pos ha] at h; cases h
 ·have : badW x = false := by
   cases hb : badW x
   ·rfl
   ·exact absurd (List.any_eq_true.2 ⟨x,hx,hb⟩) ha
  unfold badW at this
  simp only [Bool.or_eq_false_iff,decide_eq_false_iff_not] at this
  omega
theorem Z0i {D : DiskM} {j : Nat} {number at_ : Int} (h : (entM D j number at_).ok = true) : (entM D j number at_).no < (D.laid.length : Int) - 1 - j := by
 unfold entM at h ⊢
 split at h
 ·simp [Ent.none] at h
 ·rename_i h1
  rw [if_neg h1]
  split at h
  ·simp [Ent.none] at h
  ·rename_i h2
   rw [if_neg h2];simp only [Zuk,Bool.and_eq_true,decide_eq_true_eq] at h ⊢
   exact h.2
theorem Zud (rd fs : List Int) (D : DiskM) (j : Nat) (number : Int) : (∀ x ∈ Zdi rd fs D j number,0 ≤ x.1 ∧ x.1 < (D.laid.length : Int) - 1 - j ∧ x.2.length = 64) ∧ ((Zdi rd fs D j number).length : Int) ≤ (j : Int) / 2 := by
 unfold Zdi
 cases hf : Zo5 D j number with
 | none => simp; omega
 | some ws =>
  simp only
  split
  ·rename_i hc
   unfold Zo5 at hf
   split at hf
   ·split at hf
    ·rename_i h1 h2
     simp only [Option.some.injEq] at hf
     have hall := List.all_eq_true.1 h2
     have hg : ∀ e ∈ Zcv D j number (entM D j number 0).count.toNat,e.ok = true := fun e he => by
      have := hall e he
      simp only [Zkk,Bool.and_eq_true] at this
      exact this.1.1
     constructor
     ·intro x hx
      have h3 := Zet hc.1 x hx
      refine ⟨h3.1,?_,h3.2⟩
      rw [← hf] at hx;obtain ⟨e,he,rfl⟩ := List.mem_map.1 hx
      obtain ⟨i,hi,rfl⟩ := List.mem_map.1 he
      exact Z0i (hg _ he)
     ·rw [← hf]
      simp only [List.length_map,Zcv,List.length_range]
      rcases Nat.eq_zero_or_pos (entM D j number 0).count.toNat with h0 | h0
      ·rw [h0]; omega
      ·have := hg (entM D j number ((entM D j number 0).count.toNat - 1 : Nat)) (List.mem_map.2 ⟨_,List.mem_range.2 (by omega),rfl⟩)
       have := (Zxg this).2
       omega
    ·cases hf
   ·cases hf
  ·simp; omega

structure RedoM where
 e : Int
 D : DiskM
 done : Int
 redone : Bool
def last : Int := 1152921504606846976
def Zdw (rd fs : List Int) (D : DiskM) (j : Nat) (done : Int) (rdn : Bool) : RedoM :=
 if ¬ (D.read 0).1 = 0 then ⟨(D.read 0).1,D,done,rdn⟩ else
 if (Za9 rd fs (D.read 0).2).2 = false then ⟨5,D,done,rdn⟩ else
 if last ≤ (Za9 rd fs (D.read 0).2).1 then ⟨0,D,(Za9 rd fs (D.read 0).2).1,rdn⟩ else
 if Zdi rd fs D j ((Za9 rd fs (D.read 0).2).1 + 1) = [] then
  ⟨(Zpd D ((Za9 rd fs (D.read 0).2).1 + 1)).1,(Zpd D ((Za9 rd fs (D.read 0).2).1 + 1)).2,(Za9 rd fs (D.read 0).2).1,rdn⟩
 else
  ⟨(layM rd fs j (0,D) ((Za9 rd fs (D.read 0).2).1 + 1) (Zdi rd fs D j ((Za9 rd fs (D.read 0).2).1 + 1))).1,(layM rd fs j (0,D) ((Za9 rd fs (D.read 0).2).1 + 1) (Zdi rd fs D j ((Za9 rd fs (D.read 0).2).1 + 1))).2,
   if (layM rd fs j (0,D) ((Za9 rd fs (D.read 0).2).1 + 1) (Zdi rd fs D j ((Za9 rd fs (D.read 0).2).1 + 1))).1 = 0 then (Za9 rd fs (D.read 0).2).1 + 1 else (Za9 rd fs (D.read 0).2).1,true⟩
theorem Z73 (lp p : Nat) (o s m : Int) (j : Nat) (done : Int) (rdn : Bool) (D : DiskM) (rd fs : List Int) (W : World) (F : Nat → Prop) (hG : Gl W F rd fs) (hj : j ≤ 4096) (hline : D.line.length < 1073700000) (hS : St W F [Zcd lp p o s m j done rdn,disk p D] W) :
  Calls Tryz.prog 60 #[.pointer (some ⟨lp,0,none⟩)] W (Ret fun v w => v = .int .i64 (Zdw rd fs D j done rdn).e ∧ St W F [Zcd lp p o s m j (Zdw rd fs D j done rdn).done (Zdw rd fs D j done rdn).redone,disk p (Zdw rd fs D j done rdn).D] w) := by
 have hok := (hS.rd (List.mem_cons_of_mem _ (List.mem_cons_self ..)) : Rd W (disk p D)).disk.1
 have h64 := fun (h : (D.read 0).1 = 0) => Zih hok h
 obtain ⟨R,hR⟩ : ∃ R,R = Zdw rd fs D j done rdn := ⟨_,rfl⟩
 rw [← hR];have e := hR
 unfold Zdw at e
 clear hR;refine Zab Tryz.func60 rfl Tryz.ntmps60 rfl ?_
 repeat (first|refine Yeb ?_|(refine X_id ?_;first|refine Yaf ?_|refine Yag ?_|refine Yau ?_|refine Yan ?_|refine Yaq ?_)|refine Yec ?_|refine Yab ?_)
 refine Zaa _ rfl rfl rfl rfl rfl (Zvz p D 0 _ (hS.rd (List.mem_cons_of_mem _ (List.mem_cons_self ..))) (by omega)) ?_
 rintro _ w ⟨a,ca,rfl,hca,hS'⟩
 replace hS := hS.plus hS';clear hS';generalize D.read 0 = ra at h64 hca hS e ⊢;obtain ⟨ea,la⟩ := ra
 simp only at h64 hca hS e ⊢
 by_cases hea : ea = 0
 ·subst hea
  have hla := h64 rfl
  rw [if_neg (by simp)] at e;rw [hla];have hnb : (Za9 rd fs la).2 = true → 0 ≤ (Za9 rd fs la).1 ∧ (Za9 rd fs la).1 ≤ 1152921504606846976 := fun h => by
   unfold Za9 at h ⊢
   split at h
   ·rename_i h1; rw [if_pos h1]; omega
   ·rename_i h1
    rw [if_neg h1];simp only [Zil,Bool.and_eq_true,decide_eq_true_eq] at h ⊢
    omega
  repeat (first|refine Yeb ?_|refine Ye9 ?_|refine Yen ?_|refine Yab ?_)
  refine Zac _ rfl rfl rfl rfl rfl hS (Z2y a ca la rd fs _ (hG.mono fun r hr => (hr.rd hS).ro) (hS.rd (List.mem_cons_self ..)) hla (by omega)) ?_
  rintro _ w rfl hS
  generalize Za9 rd fs la = hn at hnb e ⊢;obtain ⟨n,ok⟩ := hn
  simp only at hnb e ⊢
  cases ok
  ·rw [if_pos rfl] at e
   subst e
   repeat (first|refine Yeb ?_|refine Yaf ?_|refine Yag ?_|refine Ya0 ?_|refine Ybo ?_|refine Yet ?_|refine Yeu ?_)
   exact ⟨rfl,hS.pick [1,1]⟩
  ·rw [if_neg (by simp)] at e
   have hn1 := hnb rfl
   by_cases hl : last ≤ n
   ·rw [if_pos hl] at e
    subst e
    unfold last at hl
    repeat (first|refine Yeb ?_|(refine X_id ?_;first|refine Yaf ?_|refine Yag ?_|refine Yau ?_|refine Yan ?_|refine Ya0 ?_|refine Ybb ?_|refine Yb2 ?_|refine Yao (fun _ hS _ => ?_))|refine Yfc ?_|refine Yeu ?_)
    exact ⟨rfl,hS.pick [1,1]⟩
   ·rw [if_neg hl] at e
    unfold last at hl
    repeat (first|refine Yeb ?_|(refine X_id ?_;first|refine Yaf ?_|refine Yag ?_|refine Yau ?_|refine Yan ?_|refine Ya0 ?_|refine Ybb ?_|refine Yb6 ?_|refine Yaw ?_|refine Yao (fun _ hS _ => ?_))|refine Yen ?_|refine Yab ?_)
    have hfg := Zud rd fs D j (n + 1)
    refine Zaa _ rfl rfl rfl rfl rfl (Z6w lp p o s m j n rdn D (n + 1) rd fs _ (hG.mono fun r hr => (hr.rd hS).ro) (hS.rd (List.mem_cons_of_mem _ (List.mem_cons_self ..))) (hS.rd (List.mem_cons_of_mem _ (List.mem_cons_of_mem _ (List.mem_cons_self ..)))) hj (by omega)) ?_
    rintro _ w ⟨fa,fc,ws,O,rfl,hwd,hnone,hO,hS'⟩
    replace hS := hS.plus hS';clear hS';rw [← hwd] at e hfg;by_cases hws : ws = []
    ·obtain rfl := hnone.2 hws
     rw [if_pos (by rw [hws]; rfl)] at e
     subst e
     repeat (first|refine Yeb ?_|(refine X_id ?_;first|refine Yaf ?_|refine Yag ?_|refine Yaw ?_|refine X_yl (Zgi rfl rfl rfl) rfl rfl ?_)|refine Yen ?_|refine Yab ?_)
     obtain ⟨_,hc,hr,hw,hbk⟩ := hS.call [false,false,false,true,true]
     refine Zaa _ rfl rfl rfl rfl rfl (Z65 lp p o s m j n rdn D (n + 1) _ _ (by omega) hc) ?_
     rintro _ w ⟨rfl,hS⟩
     replace hS := hbk hS
     clear hc hr hw hbk;repeat (first|refine Yeb ?_|refine Yag ?_|refine Yah ?_|refine Yed ?_)
     exact ⟨rfl,hS.pick [0,0]⟩
    ·obtain ⟨ad,rfl⟩ : ∃ ad,fa = some ad := by
      cases fa with
      | none => exact absurd (hnone.1 rfl) hws
      | some ad => exact ⟨ad,rfl⟩
     rw [if_neg (by simpa using hws)] at e;have hwl : ws.length ≤ 2048 := by
      have := hfg.2
      rw [List.length_map] at this;omega
     repeat (first|refine Yeb ?_|(refine X_id ?_;first|refine Yaf ?_|refine Yag ?_|refine Yau ?_|refine Yan ?_|refine Ybm ?_|refine Yaw ?_|refine X_yl (Zgi rfl rfl rfl) rfl rfl ?_|refine Yaq ?_|refine Yao (fun _ hS _ => ?_)|refine Yba (fun _ _ hS _ => ?_))|refine Yem ?_|refine Yab ?_)
     have hS := hS.pick [4,0,3,0,0]
     have hmost := hok.most
     have hvno : ∀ v ∈ ws,-4611686018427387904 ≤ v.no ∧ v.no ≤ 4611686018427387904 := fun v hv => by
      have := hfg.1 v.data (List.mem_map.2 ⟨v,hv,rfl⟩)
      simp only [Wr.data] at this
      omega
     obtain ⟨_,hc,hr,hw,hbk⟩ := hS.call [true,true,true,false,false]
     refine Zaa _ rfl rfl rfl rfl rfl (Z4f lp _ p o s m j n true (0,D) (n + 1) (some ad) fc ws rd fs _ _ (hG.mono hw) ⟨(hr _ (List.mem_cons_self ..)).own_row,fun v hv => Ro.rds (hr _ (List.mem_cons_of_mem _ (List.mem_cons_self ..))) _ (hO v hv)⟩ hj (by omega) hvno (by simp only; omega) hc) ?_
     rintro _ w ⟨rfl,hS⟩
     replace hS := hbk hS
     clear hc hr hw hbk;subst e
     repeat (first|refine Yeb ?_|refine Yag ?_|refine Yah ?_|refine Yeu ?_)
     exact ⟨rfl,hS.pick [0,1]⟩
 ·rw [if_pos hea] at e
  subst e
  repeat (first|refine Yeb ?_|refine Ye8 ?_|refine Yet ?_|refine Yeu ?_)
  exact ⟨rfl,hS.pick [1,1]⟩
instance : Und Tryz.prog 343 .unsafePointer := ⟨Tryz.underlying343⟩
theorem Zk5 {P : Program} {o : Oper} {σ : Env} {w : World} {x : Operand} {src dst t : TypeId} {n : Nat} {a : Addr} {v : Value} (ho : o.op = .convert src dst x) (hx : ev σ x = some (.pointer (some a))) [hs : Und P src (.pointer t)] [hd : Und P dst .unsafePointer] [hz : Siz P t n] (hn : Nat.blt 0 n = true) (hc : w.cell? a = some v) : Yl P o σ w (.pointer (some a)) := ⟨fun N ds f ha => by
 have hpos : 0 < n := Zam hn
 have hsz : (P.info? t).map (fun i => decide (i.size = 0)) = some false := by
  have := hz.siz
  cases hi : P.info? t with
  | none => rw [hi] at this; cases this
  | some i =>
   rw [hi] at this;simp only [Option.map_some,Option.some.injEq] at this ⊢
   exact decide_eq_false (by omega)
 have := run_convert_to_unsafe hs.und hd.und hsz hc
 simp [execOp,ho,ha.eval hx,this]⟩
theorem Z6o (b off : Nat) (l l' : List Value) (T : TypeId) (W : World) (F : Nat → Prop) [hn : Nth l off (.int .i32 0)] [hs : Spl l off [.int .i32 1] l'] (hS : St W F [pts b (.cells l.toArray T)] W) :
  Calls Tryz.prog 194 #[.pointer (some ⟨b,off,none⟩)] W (Ret fun _ w => True ∧ St W F [pts b (.cells l'.toArray T)] w) := by
 have hn1 : Nth l' off (.int .i32 1) := ⟨by
  have h := hs.spl
  rw [← h.2];simp at h
  rw [List.append_assoc,List.getElem?_append_right (by simp; omega),List.length_take,Nat.min_eq_left (by omega)];simp⟩
 refine Zab Tryz.func194 rfl Tryz.ntmps194 rfl ?_
 repeat (first|refine Yeb ?_|(refine X_id ?_;first|refine Yaf ?_|refine Yau ?_|refine Yby ?_|refine Znz rfl rfl rfl rfl rfl ?_|refine Z7k rfl rfl rfl rfl rfl hS (fun _ hS => ?_))|refine Yem ?_|refine Yab ?_)
 refine X_yl (Zk5 rfl rfl rfl hS.cell) rfl rfl ?_
 repeat (first|refine Yeb ?_|(refine X_id ?_;first|refine Zye rfl rfl rfl rfl rfl ?_)|refine Yah ?_|refine Yab ?_|refine Yap ?_|refine Z1w rfl (Ret.mk ?_))
 exact ⟨trivial,hS⟩
theorem Zz6 (b off : Nat) (l l' : List Value) (T : TypeId) (W : World) (F : Nat → Prop) [hn : Nth l off (.int .i32 1)] [hs : Spl l off [.int .i32 0] l'] (hS : St W F [pts b (.cells l.toArray T)] W) :
  Calls Tryz.prog 195 #[.pointer (some ⟨b,off,none⟩)] W (Ret fun _ w => True ∧ St W F [pts b (.cells l'.toArray T)] w) := by
 refine Zab Tryz.func195 rfl Tryz.ntmps195 rfl ?_
 repeat (first|refine Yeb ?_|refine Yaf ?_|refine Yau ?_|refine Yby ?_|refine Yaq ?_|refine Yem ?_|refine Yab ?_)
 refine X_yl (Zk5 rfl rfl rfl hS.cell) rfl rfl ?_
 repeat (first|refine Yeb ?_|(refine X_id ?_;first|refine Yaf ?_|refine Yau ?_|refine Yby ?_|refine Znz rfl rfl rfl rfl rfl ?_|refine Zye rfl rfl rfl rfl rfl ?_)|refine Yec ?_|refine Yab ?_)
 refine Z1t (s := 0) rfl rfl rfl rfl rfl rfl hS (fun _ hS => ?_)
 repeat (first|refine Yeb ?_|(refine X_id ?_;first|refine Yaf ?_|refine Yag ?_|refine Ybc ?_|refine Znz rfl rfl rfl rfl rfl ?_)|refine Yen ?_|refine Yab ?_|refine Ybu ?_)
 exact ⟨trivial,hS⟩
theorem Z1o (b off : Nat) (l : List Value) (T : TypeId) (x : Int) (W : World) [hn : Nth l off (.int .u32 x)] (hL : Rd W (pts b (.cells l.toArray T))) :
  Calls Tryz.prog 108 #[.pointer (some ⟨b,off,none⟩)] W (Ret fun v w => v = .bool (decide (¬ x = 0)) ∧ W = w) := by
 have hc := hL.pts
 have hS := St.start W
 refine Zab Tryz.func108 rfl Tryz.ntmps108 rfl ?_
 repeat (first|refine Yeb ?_|(refine X_id ?_;first|refine Yaf ?_|refine Yag ?_|refine Yau ?_|refine Yby ?_|refine Yda ?_|refine Zyf rfl rfl rfl (Zdf (by assumption)) rfl rfl ?_)|refine Yep ?_|refine Yed ?_)
 exact ⟨rfl,rfl⟩
abbrev Zty (b lp : Nat) : Res := pts b (.cells #[.pointer (some ⟨lp,0,none⟩)] 68)
abbrev Zuh (b : Nat) (e : Int) : Res := pts b (.cells #[.int .i64 e] 28)
theorem b32_ (W : World) : Calls Tryz.prog 197 #[.bool true] W (Ret fun v w => v = .int .u32 1 ∧ W = w) := by
 refine Zab Tryz.func197 rfl Tryz.ntmps197 rfl ?_
 repeat (first|refine Yeb ?_|refine Yeq ?_|refine Yet ?_|refine Yeu ?_)
 exact ⟨rfl,rfl⟩
theorem Z59 (lp p b6 b7 : Nat) (o s m : Int) (j : Nat) (done : Int) (rdn : Bool) (D : DiskM) (e0 : Int) (rd fs : List Int) (W : World) (F : Nat → Prop) (hG : Gl W F rd fs) (hj : j ≤ 4096) (hline : D.line.length < 1073700000)
  (hS : St W F [Zcd lp p o s m j done rdn,disk p D,Zty b6 lp,Zuh b7 e0] W) :
  Calls Tryz.prog 59 #[.pointer (some ⟨b6,0,none⟩),.pointer (some ⟨b7,0,none⟩)] W (Ret fun _ w => True ∧
   St W F [Zcd lp p o s m j (Zdw rd fs D j done rdn).done (Zdw rd fs D j done rdn).redone,disk p (Zdw rd fs D j done rdn).D,Zty b6 lp,Zuh b7 (Zdw rd fs D j done rdn).e] w) := by
 refine Zab Tryz.func59 rfl Tryz.ntmps59 rfl ?_
 repeat (first|refine Yaa ?_|refine Yaq ?_|refine Yad ?_)
 obtain ⟨_,hc,hr,hw,hbk⟩ := hS.call [true,true,false,false]
 refine Zaa _ rfl rfl rfl rfl rfl (Z73 lp p o s m j done rdn D rd fs _ _ (hG.mono hw) hj hline hc) ?_
 rintro _ w ⟨rfl,hS⟩
 replace hS := hbk hS
 clear hc hr hw hbk;generalize Zdw rd fs D j done rdn = R at hS ⊢;repeat (first|refine Yeb ?_|refine Yao (fun _ hS _ => ?_)|refine Ybu ?_)
 exact ⟨trivial,hS⟩
theorem Z3m (lp p b6 b7 : Nat) (m : Int) (j : Nat) (done : Int) (rdn : Bool) (D : DiskM) (e0 : Int) (rd fs : List Int) (W : World) (F : Nat → Prop) (hG : Gl W F rd fs) (hj : j ≤ 4096) (hline : D.line.length < 1073700000)
  (hS : St W F [Zcd lp p 0 0 m j done rdn,disk p D,Zty b6 lp,Zuh b7 e0] W) :
  Calls Tryz.prog 109 #[.pointer (some ⟨lp,1,none⟩),.func (.func 59) #[] #[.pointer (some ⟨b6,0,none⟩),.pointer (some ⟨b7,0,none⟩)]] W (Ret fun _ w => True ∧
   St W F [Zcd lp p 1 0 m j (Zdw rd fs D j done rdn).done (Zdw rd fs D j done rdn).redone,disk p (Zdw rd fs D j done rdn).D,Zty b6 lp,Zuh b7 (Zdw rd fs D j done rdn).e] w) := by
 have hlock : ∀ W F,St W F [Zcd lp p 0 0 m j done rdn] W → Calls Tryz.prog 156 #[.pointer (some ⟨lp,2,none⟩)] W (Ret fun _ w => True ∧ St W F [Zcd lp p 0 1 m j done rdn] w) := fun W F hS => by
  refine Zab Tryz.func156 rfl Tryz.ntmps156 rfl ?_
  repeat (first|refine Yaa ?_|refine Yaf ?_|refine Yau ?_|refine Yby ?_|refine Yad ?_)
  refine Zaa _ rfl rfl rfl rfl rfl (Z6o lp 2 _ _ _ _ _ hS) ?_
  rintro _ w ⟨_,hS⟩
  repeat (first|refine Yac ?_|refine Ybu ?_)
  exact ⟨trivial,hS⟩
 refine Zab Tryz.func109 rfl Tryz.ntmps109 rfl ?_
 repeat (first|refine Yaa ?_|refine Yaf ?_|refine Yau ?_|refine Yby ?_|refine Yec ?_)
 obtain ⟨_,hc,hr,hw,hbk⟩ := hS.call [true,false,false,false]
 refine Zaa _ rfl rfl rfl rfl rfl (hlock _ _ hc) ?_
 rintro _ w ⟨_,hS⟩
 replace hS := hbk hS
 clear hc hr hw hbk;repeat (first|refine Yac ?_|refine Zyl rfl rfl rfl rfl rfl ?_|refine Yaa ?_|refine Yaf ?_|refine Yau ?_|refine Yby ?_|refine Yec ?_|refine Yab ?_|refine Zn3 rfl ?_)
 refine Zaa _ rfl rfl rfl rfl rfl (Z1o lp 1 _ _ 0 _ (hS.rd (List.mem_cons_self ..))) ?_
 rintro _ _ ⟨rfl,rfl⟩
 rw [decide_eq_false (show ¬ ¬ (0 : Int) = 0 by simp)]
 repeat (first|refine Yac ?_|refine Zyl rfl rfl rfl rfl rfl ?_|refine Yaa ?_|refine Yaf ?_|refine Yau ?_|refine Yby ?_|refine Ybo ?_|refine Yem ?_|refine Yab ?_|refine Zn3 rfl ?_)
 obtain ⟨_,hc,hr,hw,hbk⟩ := hS.call [true,true,true,true]
 refine Zdk (first := []) (captured := [.pointer (some ⟨b6,0,none⟩),.pointer (some ⟨b7,0,none⟩)]) rfl rfl rfl rfl rfl (Z59 lp p b6 b7 0 1 m j done rdn D e0 rd fs _ _ (hG.mono hw) hj hline hc) ?_
 rintro _ w ⟨_,hS⟩
 replace hS := hbk hS
 clear hc hr hw hbk;generalize Zdw rd fs D j done rdn = R at hS ⊢;repeat (first|refine Yac ?_)
 refine Zyo (args := [.pointer (some ⟨lp,1,none⟩),.bool true]) (captured := []) rfl rfl rfl rfl (.inr rfl) ?_
 repeat (first|fail)
 refine Zao (.s 0 (.s 1 (.s 2 (.s 3 (.h 4 (.h 5 .nil .no) .no))))) mixed (by kernel_rfl) rfl ?_
 have hS := hS.drew
 repeat (first|(refine X_id ?_;first|(refine Zaa 197 rfl rfl rfl rfl rfl (b32_ _) ?_;rintro _ _ ⟨rfl,rfl⟩)|refine Z0v rfl rfl rfl rfl rfl hS (fun _ hS => ?_))|refine Zyn rfl (Ret.mk ?_)|(refine Zaf ?_;first|refine Ya2 ?_|refine Ya6 ?_|refine Ybs ?_|refine Ydl ?_|refine Yax ?_)|(refine Zad ?_;first|refine Yay ?_))
 refine Zyo (args := [.pointer (some ⟨lp,2,none⟩)]) (captured := []) rfl rfl rfl rfl (.inr rfl) ?_
 repeat (first|refine Yaa ?_|refine Yaf ?_|refine Yau ?_|refine Yby ?_|refine Yad ?_)
 obtain ⟨_,hc,hr,hw,hbk⟩ := hS.call [true,false,false,false]
 refine Zaa _ rfl rfl rfl rfl rfl (Zz6 lp 2 _ _ _ _ _ hc) ?_
 rintro _ w ⟨_,hS⟩
 replace hS := hbk hS
 clear hc hr hw hbk;repeat (first|refine Yac ?_|refine Ybu ?_|refine Zyn rfl (Ret.mk ?_))
 exact ⟨trivial,hS⟩
theorem do_ (lp p b6 b7 : Nat) (m : Int) (j : Nat) (done : Int) (rdn : Bool) (D : DiskM) (e0 : Int) (rd fs : List Int) (W : World) (F : Nat → Prop) (hG : Gl W F rd fs) (hj : j ≤ 4096) (hline : D.line.length < 1073700000)
  (hS : St W F [Zcd lp p 0 0 m j done rdn,disk p D,Zty b6 lp,Zuh b7 e0] W) :
  Calls Tryz.prog 58 #[.pointer (some ⟨lp,1,none⟩),.func (.func 59) #[] #[.pointer (some ⟨b6,0,none⟩),.pointer (some ⟨b7,0,none⟩)]] W (Ret fun _ w => True ∧
   St W F [Zcd lp p 1 0 m j (Zdw rd fs D j done rdn).done (Zdw rd fs D j done rdn).redone,disk p (Zdw rd fs D j done rdn).D,Zty b6 lp,Zuh b7 (Zdw rd fs D j done rdn).e] w) := by
 refine Zab Tryz.func58 rfl Tryz.ntmps58 rfl ?_
 repeat (first|refine Yaa ?_|refine Yaf ?_|refine Yau ?_|refine Yby ?_|refine Yec ?_)
 refine Zaa _ rfl rfl rfl rfl rfl (Z1o lp 1 _ _ 0 _ (hS.rd (List.mem_cons_self ..))) ?_
 rintro _ _ ⟨rfl,rfl⟩
 rw [decide_eq_false (show ¬ ¬ (0 : Int) = 0 by simp)]
 repeat (first|refine Yeb ?_|refine Yaf ?_|refine Ybo ?_|refine Yad ?_|refine Yaj ?_|refine Yab ?_)
 obtain ⟨_,hc,hr,hw,hbk⟩ := hS.call [true,true,true,true]
 refine Zaa _ rfl rfl rfl rfl rfl (Z3m lp p b6 b7 m j done rdn D e0 rd fs _ _ (hG.mono hw) hj hline hc) ?_
 rintro _ w ⟨_,hS⟩
 replace hS := hbk hS
 clear hc hr hw hbk;repeat (first|refine Yac ?_|refine Ybu ?_)
 exact ⟨trivial,hS⟩

/-! ### Open -/
def Zt1 (rd fs : List Int) (D : DiskM) (j : Int) : RedoM :=
 if D.off = true then ⟨9,D,0,false⟩ else if j < 2 ∨ 1024 < j ∨ ¬ j % 2 = 0 ∨ (D.laid.length : Int) < j + 2 then ⟨1,D,0,false⟩ else Zdw rd fs D j.toNat 0 false
def Z9d (W : World) (F : Nat → Prop) (p : Nat) (j : Nat) (R : RedoM) (v : Value) (w : World) : Prop :=
 (¬ R.e = 0 ∧ v = .tuple #[.pointer none,.int .i64 R.e] ∧ St W F [disk p R.D] w) ∨ (R.e = 0 ∧ ∃ lp,v = .tuple #[.pointer (some ⟨lp,0,none⟩),.int .i64 0] ∧ St W F [Zcd lp p 1 0 0 j R.done R.redone,disk p R.D] w)
theorem Z8u (p : Nat) (D : DiskM) (j : Int) (rd fs : List Int) (W : World) (F : Nat → Prop) (hG : Gl W F rd fs) (hline : D.line.length < 1073700000) (hS : St W F [disk p D] W) :
  Calls Tryz.prog 24 #[.pointer (some ⟨p,0,none⟩),.int .i64 j] W (Ret fun v w => Z9d W F p j.toNat (Zt1 rd fs D j) v w) := by
 have hd := hS.rd (List.mem_cons_self ..)
 have hmost := hd.disk.1.most
 have hon := on_ p D W hd
 have hse := Zmu p D W hd
 cases hoff : D.off
 ·rw [hoff] at hon
  have e : Zt1 rd fs D j = if j < 2 ∨ 1024 < j ∨ ¬ j % 2 = 0 ∨ (D.laid.length : Int) < j + 2 then ⟨1,D,0,false⟩ else Zdw rd fs D j.toNat 0 false := by unfold Zt1; rw [if_neg (by simp [hoff])]
  by_cases h1 : j < 2
  ·rw [if_pos (.inl h1)] at e
   refine Zab Tryz.func24 rfl Tryz.ntmps24 rfl ?_
   repeat (first|refine Yev ?_|(refine X_id ?_;first|(refine Zaa 56 rfl rfl rfl rfl rfl hon ?_;rintro _ _ ⟨rfl,rfl⟩)|refine Yaf ?_|refine Yag ?_|refine Ya9 ?_|refine Ybb ?_|refine Ya1 ?_)|refine Yew ?_|refine Ye6 ?_)
   rw [e];exact .inl ⟨by simp,rfl,hS⟩
  by_cases h2 : 1024 < j
  ·rw [if_pos (.inr (.inl h2))] at e
   refine Zab Tryz.func24 rfl Tryz.ntmps24 rfl ?_
   repeat (first|refine Yfb ?_|(refine X_id ?_;first|(refine Zaa 56 rfl rfl rfl rfl rfl hon ?_;rintro _ _ ⟨rfl,rfl⟩)|refine Yaf ?_|refine Yag ?_|refine Ya9 ?_|refine Ya7 ?_|refine Ybb ?_|refine Yaz ?_|refine Ybx ?_)|refine Yew ?_|refine Ye6 ?_)
   rw [e];exact .inl ⟨by simp,rfl,hS⟩
  by_cases h3 : j % 2 = 0
  ·by_cases h4 : (D.laid.length : Int) < j + 2
   ·rw [if_pos (.inr (.inr (.inr h4)))] at e
    refine Zab Tryz.func24 rfl Tryz.ntmps24 rfl ?_
    repeat (first|refine Yes ?_|(refine X_id ?_;first|(refine Zaa 56 rfl rfl rfl rfl rfl hon ?_;rintro _ _ ⟨rfl,rfl⟩)|(refine Zaa 57 rfl rfl rfl rfl rfl hse ?_;rintro _ _ ⟨rfl,rfl⟩)|refine Yaf ?_|refine Yag ?_|refine Ya7 ?_|refine Ybb ?_|refine Ybc ?_|refine Ya1 ?_|refine Yaz ?_|refine Ybr ?_|refine Yaw ?_|refine Yb8 ?_)|refine Yew ?_|refine Ye6 ?_)
    rw [e];exact .inl ⟨by simp,rfl,hS⟩
   ·rw [if_neg (by omega)] at e
    obtain ⟨jn,rfl⟩ : ∃ n : Nat,j = n := ⟨j.toNat,by omega⟩
    rw [Int.toNat_natCast] at e ⊢;rw [e];refine Zab Tryz.func24 rfl Tryz.ntmps24 rfl ?_
    repeat (first|refine Yes ?_|(refine X_id ?_;first|(refine Zaa 56 rfl rfl rfl rfl rfl hon ?_;rintro _ _ ⟨rfl,rfl⟩)|(refine Zaa 57 rfl rfl rfl rfl rfl hse ?_;rintro _ _ ⟨rfl,rfl⟩)|refine Yaf ?_|refine Yag ?_|refine Yau ?_|refine Yan ?_|refine Ya7 ?_|refine Ybb ?_|refine Yct ?_|refine Ybc ?_|refine Yaz ?_|refine Ybr ?_|refine Ybm ?_|refine Yaw ?_|refine Yb8 ?_|refine Yaq ?_|refine Yao (fun _ hS _ => ?_)|refine Yba (fun _ _ hS _ => ?_)|refine Yar (fun _ _ hS _ => ?_))|refine Yfa ?_|refine Yej ?_)
    have hS := hS.pick [2,2,1,0]
    obtain ⟨_,hc,hr,hw,hbk⟩ := hS.call [true,true,true,true]
    refine Zaa _ rfl rfl rfl rfl rfl (do_ _ p _ _ 0 jn 0 false D 0 rd fs _ _ (hG.mono hw) (by omega) hline hc) ?_
    rintro _ w ⟨_,hS⟩
    replace hS := hbk hS
    clear hc hr hw hbk;generalize Zdw rd fs D jn 0 false = R at hS ⊢;by_cases hRe : R.e = 0
    ·rw [hRe] at hS
     repeat (first|refine Yeb ?_|refine Yag ?_|refine Ybc ?_|refine Yaq ?_|refine Ye1 ?_|refine Ye0 ?_)
     exact .inr ⟨hRe,_,rfl,hS.pick [0,0]⟩
    ·repeat (first|refine Yeb ?_|refine Ybj ?_|refine Yaq ?_|refine Yem ?_|refine Yab ?_)
     refine Zao (.s 0 (.s 1 (.s 2 .nil))) mixed (by kernel_rfl) rfl ?_
     have hS := hS.drew
     repeat (first|refine Yah ?_|refine Ye7 ?_|(refine Zaf ?_;first|refine Ya2 ?_|refine Ybl ?_|refine Ybn ?_))
     exact .inl ⟨hRe,rfl,hS.pick [1]⟩
  ·rw [if_pos (.inr (.inr (.inl h3)))] at e
   refine Zab Tryz.func24 rfl Tryz.ntmps24 rfl ?_
   repeat (first|refine Yfb ?_|(refine X_id ?_;first|(refine Zaa 56 rfl rfl rfl rfl rfl hon ?_;rintro _ _ ⟨rfl,rfl⟩)|refine Yaf ?_|refine Yag ?_|refine Ya9 ?_|refine Ya7 ?_|refine Ybb ?_|refine Ybj ?_|refine Yaz ?_|refine Ybr ?_|refine Yb8 ?_)|refine Yew ?_|refine Ye6 ?_)
   rw [e];exact .inl ⟨by simp,rfl,hS⟩
 ·rw [hoff] at hon
  refine Zab Tryz.func24 rfl Tryz.ntmps24 rfl ?_
  repeat (first|refine Yeb ?_|(refine X_id ?_;first|(refine Zaa 56 rfl rfl rfl rfl rfl hon ?_;rintro _ _ ⟨rfl,rfl⟩)|refine Yaf ?_|refine Yag ?_|refine Ybo ?_)|refine Yez ?_|refine Ye6 ?_)
  rw [show Zt1 rd fs D j = ⟨9,D,0,false⟩ by unfold Zt1; rw [if_pos hoff]]
  exact .inl ⟨by simp,rfl,hS⟩
/-! ### Read -/
def Zgb (D : DiskM) (j : Nat) (no : Int) : Int × List UInt8 := if D.off = true then (9,[]) else if no < 0 ∨ (D.laid.length : Int) - 1 - j ≤ no then (1,[]) else D.read (1 + j + no)
theorem Z4c (lp p : Nat) (o s m : Int) (j : Nat) (done : Int) (rdn : Bool) (D : DiskM) (no : Int) (W : World) (hL : Rd W (Zcd lp p o s m j done rdn)) (hD : Rd W (disk p D)) (hj : j ≤ 4096) (hline : D.line.length < 1073741824) :
  Calls Tryz.prog 62 #[.pointer (some ⟨lp,0,none⟩),.int .i64 no] W (Ret fun v w => ∃ a c,v = .tuple #[.slice a (Zgb D j no).2.length c,.int .i64 (Zgb D j no).1] ∧ (Zgb D j no).2.length ≤ c ∧ St W noF [bytes a (Zgb D j no).2] w) := by
 have hS := St.start W
 have hc := hL.pts
 have hLo := hL.ro
 have hDo := hD.ro
 have hmost := hD.disk.1.most
 have hon := fun w (h : Rd w (disk p D)) => on_ p D w h
 cases hoff : D.off
 ·rw [hoff] at hon
  have e : Zgb D j no = if no < 0 ∨ (D.laid.length : Int) - 1 - j ≤ no then (1,[]) else D.read (1 + j + no) := by unfold Zgb; rw [if_neg (by simp [hoff])]
  by_cases h1 : no < 0
  ·rw [if_pos (.inl h1)] at e
   rw [e];refine Zab Tryz.func62 rfl Tryz.ntmps62 rfl ?_
   repeat (first|refine Yev ?_|(refine X_id ?_;first|(refine Zaa 56 rfl rfl rfl rfl rfl (hon _ (hDo.rd hS)) ?_;rintro _ _ ⟨rfl,rfl⟩)|refine Yaf ?_|refine Yag ?_|refine Yau ?_|refine Yan ?_|refine Ya9 ?_|refine Ybb ?_|refine Ya1 ?_|refine Ybt ?_|refine Yb5 ?_)|refine Yew ?_|refine Ye6 ?_)
   exact ⟨none,0,rfl,Nat.le_refl _,hS.row_none⟩
  by_cases h2 : (D.laid.length : Int) - 1 - j ≤ no
  ·rw [if_pos (.inr h2)] at e
   rw [e];refine Zab Tryz.func62 rfl Tryz.ntmps62 rfl ?_
   repeat (first|refine Yes ?_|(refine X_id ?_;first|(refine Zac 115 rfl rfl rfl rfl rfl hS (Zek lp p o s m j done rdn D _ (hLo.rd hS) (hDo.rd hS) hj) ?_;rintro _ _ rfl hS)|(refine Zaa 56 rfl rfl rfl rfl rfl (hon _ (hDo.rd hS)) ?_;rintro _ _ ⟨rfl,rfl⟩)|refine Yaf ?_|refine Yag ?_|refine Yau ?_|refine Yan ?_|refine Ya7 ?_|refine Ybb ?_|refine Yaz ?_|refine Yb2 ?_|refine Ybt ?_|refine Yb5 ?_)|refine Yew ?_|refine Ye6 ?_)
   exact ⟨none,0,rfl,Nat.le_refl _,hS.row_none⟩
  ·rw [if_neg (by omega)] at e
   rw [e];refine Zab Tryz.func62 rfl Tryz.ntmps62 rfl ?_
   repeat (first|refine Yes ?_|(refine X_id ?_;first|(refine Zac 115 rfl rfl rfl rfl rfl hS (Zek lp p o s m j done rdn D _ (hLo.rd hS) (hDo.rd hS) hj) ?_;rintro _ _ rfl hS)|(refine Zaa 56 rfl rfl rfl rfl rfl (hon _ (hDo.rd hS)) ?_;rintro _ _ ⟨rfl,rfl⟩)|refine Yaf ?_|refine Yag ?_|refine Yau ?_|refine Yan ?_|refine Ya7 ?_|refine Ybb ?_|refine Yaz ?_|refine Yb6 ?_|refine Ybt ?_|refine Yb5 ?_)|refine Yfa ?_|refine Yej ?_)
   refine Zao (.s 0 (.s 1 (.s 2 (.s 3 (.s 4 (.s 5 (.s 6 (.s 7 (.s 8 (.s 9 (.s 10 (.h 11 (.s 12 (.s 13 (.s 14 (.s 15 .nil)))) .no)))))))))))) mixed (by kernel_rfl) rfl ?_
   have hS := hS.drew
   have hc := (hLo.rd hS).pts
   repeat (first|(refine Zaf ?_;first|refine Ya6 ?_|refine Ybs ?_|refine Ybk ?_|refine Ycl ?_|refine Ydx ?_|refine Yax ?_))
   refine Zaa _ rfl rfl rfl rfl rfl (Zvz p D (1 + j + no) _ (hDo.rd hS) hline) ?_
   rintro _ w ⟨a,ca,rfl,hca,hS'⟩
   replace hS := hS.plus hS';clear hS';have hc := (hLo.rd hS).pts
   repeat (first|refine Yah ?_|refine Ye0 ?_|(refine Zaf ?_;first|refine Ya2 ?_|refine Ybl ?_|refine Zai rfl rfl (fun _ => Zdp rfl rfl) rfl rfl ?_)|(refine Zad ?_;first|refine Yay ?_))
   exact ⟨a,ca,rfl,hca,hS⟩
 ·rw [hoff] at hon
  rw [show Zgb D j no = (9,[]) by unfold Zgb; rw [if_pos hoff]]
  refine Zab Tryz.func62 rfl Tryz.ntmps62 rfl ?_
  repeat (first|refine Yeb ?_|(refine X_id ?_;first|(refine Zaa 56 rfl rfl rfl rfl rfl (hon _ (hDo.rd hS)) ?_;rintro _ _ ⟨rfl,rfl⟩)|refine Yaf ?_|refine Yag ?_|refine Yau ?_|refine Yan ?_|refine Ybo ?_|refine Ybt ?_|refine Yb5 ?_)|refine Yew ?_|refine Ye6 ?_)
  exact ⟨none,0,rfl,Nat.le_refl _,hS.row_none⟩
def Zhi (n : Int) (d : List UInt8) (cnt : Nat) (x : Int × DiskM) (i : Nat) (v : Int × List UInt8) : Int × DiskM :=
 Zdl (Zdl x (1 + 2 * (i : Nat)) (Zhj n (i : Nat) (cnt : Nat) v.1 d)) (1 + 2 * (i : Nat) + 1) v.2
def Zcb (n : Int) (d : List UInt8) (l : List (Int × List UInt8)) (x : Int × DiskM) : Nat → Int × DiskM
 | 0 => x
 | i + 1 => Zhi n d l.length (Zcb n d l x i) i (l.getD i (0,[]))
theorem Zmz (n : Int) (d : List UInt8) (cnt : Nat) (x : Int × DiskM) (i : Nat) (v : Int × List UInt8) : (Zhi n d cnt x i v).2.line.length ≤ x.2.line.length + 2 ∧ (Zhi n d cnt x i v).2.laid.length = x.2.laid.length := by
 unfold Zhi
 have h1 := Zdo x (1 + 2 * (i : Nat)) (Zhj n (i : Nat) (cnt : Nat) v.1 d)
 have h2 := Zdo (Zdl x (1 + 2 * (i : Nat)) (Zhj n (i : Nat) (cnt : Nat) v.1 d)) (1 + 2 * (i : Nat) + 1) v.2
 exact ⟨by omega,by rw [h2.2,h1.2]⟩
theorem Zi2 (n : Int) (d : List UInt8) (l : List (Int × List UInt8)) (x : Int × DiskM) : ∀ i,(Zcb n d l x i).2.line.length ≤ x.2.line.length + 2 * i ∧ (Zcb n d l x i).2.laid.length = x.2.laid.length
 | 0 => by simp [Zcb]
 | i + 1 => by
  have h1 := Zi2 n d l x i
  have h2 := Zmz n d l.length (Zcb n d l x i) i (l.getD i (0,[]))
  simp only [Zcb]
  exact ⟨by omega,by rw [h2.2,h1.2]⟩
def putM (rd fs : List Int) (D : DiskM) (j : Nat) (done : Int) (l : List (Int × List UInt8)) : Int × DiskM :=
 layM rd fs j (Zdc (Zcb (done + 1) (sumB rd fs (done + 1) l) l (0,D) l.length)) (done + 1) l
def Zbm (rd fs : List Int) (D : DiskM) (j : Nat) (done : Int) (l : List (Int × List UInt8)) : Int × DiskM × Int :=
 if D.off = true then (9,D,done) else if ¬ Zca l = 0 then (Zca l,D,done) else if hasM ((D.laid.length : Int) - 1 - j) l = false then (1,D,done) else
 if (j : Int) / 2 < l.length ∨ last ≤ done then (6,D,done) else if l = [] then (0,D,done) else
 ((putM rd fs D j done l).1,(putM rd fs D j done l).2,if (putM rd fs D j done l).1 = 0 then done + 1 else done)
theorem Z3o (lp p : Nat) (o s m : Int) (j : Nat) (done : Int) (rdn : Bool) (D : DiskM) (a : Option Addr) (c : Nat) (l : List Wr) (rd fs : List Int) (W : World) (F : Nat → Prop) (hG : Gl W F rd fs) (hW : Wrs W F a l) (hj : j ≤ 4096) (hdone : 0 ≤ done)
  (hl : l.length ≤ 1048576) (hx64 : ∀ v ∈ l,v.x.s.length ≤ 140737488355328) (hline : D.line.length < 1073000000) (hS : St W F [Zcd lp p o s m j done rdn,disk p D] W) :
  Calls Tryz.prog 65 #[.pointer (some ⟨lp,0,none⟩),.slice a l.length c] W (Ret fun v w => v = .int .i64 (Zbm rd fs D j done (l.map Wr.data)).1 ∧
   St W F [Zcd lp p o s m j (Zbm rd fs D j done (l.map Wr.data)).2.2 rdn,disk p (Zbm rd fs D j done (l.map Wr.data)).2.1] w) := by
 obtain ⟨d,hd⟩ : ∃ d,d = l.map Wr.data := ⟨_,rfl⟩
 have hdl : d.length = l.length := by rw [hd]; simp
 rw [← hd];have hD := hS.rd (List.mem_cons_of_mem _ (List.mem_cons_self ..))
 have hmost := hD.disk.1.most
 have hW0 : ∀ w rs,St W F rs w → Wrs w noF a l := fun w rs h => ⟨(hW.row.rd h).ro,fun v hv => ((hW.all v hv).rd h).ro⟩
 have hon : ∀ w rs,St W F (Zcd lp p o s m j done rdn :: disk p D :: rs) w → Calls Tryz.prog 56 #[.pointer (some ⟨p,0,none⟩)] w (Ret fun v w' => v = .bool (!D.off) ∧ w = w') := fun w rs h => on_ p D w (h.rd (List.mem_cons_of_mem _ (List.mem_cons_self ..)))
 cases hoff : D.off
 ·rw [hoff] at hon
  by_cases hck : Zca d = 0
  ·cases hh : hasM ((D.laid.length : Int) - 1 - j) d
   ·rw [show Zbm rd fs D j done d = (1,D,done) by unfold Zbm; rw [if_neg (by simp [hoff]),if_neg (by simpa using hck),if_pos hh]]
    refine Zab Tryz.func65 rfl Tryz.ntmps65 rfl ?_
    repeat (first|refine Yeb ?_|(refine X_id ?_;first|(refine Zaa 56 rfl rfl rfl rfl rfl (hon _ _ hS) ?_;rintro _ _ ⟨rfl,rfl⟩)|refine Yaf ?_|refine Yag ?_|refine Yau ?_|refine Yan ?_|refine Ybb ?_|refine Ybt ?_|refine Yaq ?_)|refine Yfa ?_|refine Yej ?_)
    refine Zac _ rfl rfl rfl rfl rfl hS (Zkx a c l _ (hW0 _ _ hS) hl hx64) ?_
    rintro _ w rfl hS
    rw [← hd];repeat (first|refine Yeb ?_|refine Yaf ?_|refine Yag ?_|refine Ybc ?_|refine Yfa ?_|refine Yab ?_)
    refine Zac _ rfl rfl rfl rfl rfl hS (Zu7 lp p o s m j done rdn D _ a c l (hS.rd (List.mem_cons_self ..)) (hS.rd (List.mem_cons_of_mem _ (List.mem_cons_self ..))) hj (hW0 _ _ hS) hl) ?_
    rintro _ w rfl hS
    rw [← hd,hh];repeat (first|refine Yeb ?_|refine Yag ?_|refine Ybo ?_|refine Yet ?_|refine Yex ?_)
    exact ⟨rfl,hS⟩
   ·by_cases hfull : (j : Int) / 2 < l.length ∨ last ≤ done
    ·rw [show Zbm rd fs D j done d = (6,D,done) by unfold Zbm; rw [if_neg (by simp [hoff]),if_neg (by simpa using hck),if_neg (by simp [hh]),if_pos (by rw [hdl]; exact hfull)]]
     unfold last at hfull
     by_cases hf1 : (j : Int) / 2 < l.length
     ·refine Zab Tryz.func65 rfl Tryz.ntmps65 rfl ?_
      repeat (first|refine Yeb ?_|(refine X_id ?_;first|(refine Zaa 56 rfl rfl rfl rfl rfl (hon _ _ hS) ?_;rintro _ _ ⟨rfl,rfl⟩)|refine Yaf ?_|refine Yag ?_|refine Yau ?_|refine Yan ?_|refine Ybb ?_|refine Ybt ?_|refine Yaq ?_)|refine Yfa ?_|refine Yej ?_)
      refine Zac _ rfl rfl rfl rfl rfl hS (Zkx a c l _ (hW0 _ _ hS) hl hx64) ?_
      rintro _ w rfl hS
      rw [← hd];repeat (first|refine Yeb ?_|refine Yaf ?_|refine Yag ?_|refine Ybc ?_|refine Yfa ?_|refine Yab ?_)
      refine Zac _ rfl rfl rfl rfl rfl hS (Zu7 lp p o s m j done rdn D _ a c l (hS.rd (List.mem_cons_self ..)) (hS.rd (List.mem_cons_of_mem _ (List.mem_cons_self ..))) hj (hW0 _ _ hS) hl) ?_
      rintro _ w rfl hS
      rw [← hd,hh];repeat (first|refine Yev ?_|(refine X_id ?_;first|(refine Zaa 118 rfl rfl rfl rfl rfl (Zrp lp p o s m j done rdn _ (hS.rd (List.mem_cons_self ..)) hj) ?_;rintro _ _ ⟨rfl,rfl⟩)|refine Yaf ?_|refine Yag ?_|refine Ya9 ?_|refine Ybb ?_|refine Yat ?_|refine Ybx ?_)|refine Yff ?_|refine Yex ?_)
      exact ⟨rfl,hS⟩
     ·have hf2 : 1152921504606846976 ≤ done := by omega
      refine Zab Tryz.func65 rfl Tryz.ntmps65 rfl ?_
      repeat (first|refine Yeb ?_|(refine X_id ?_;first|(refine Zaa 56 rfl rfl rfl rfl rfl (hon _ _ hS) ?_;rintro _ _ ⟨rfl,rfl⟩)|refine Yaf ?_|refine Yag ?_|refine Yau ?_|refine Yan ?_|refine Ybb ?_|refine Ybt ?_|refine Yaq ?_)|refine Yfa ?_|refine Yej ?_)
      refine Zac _ rfl rfl rfl rfl rfl hS (Zkx a c l _ (hW0 _ _ hS) hl hx64) ?_
      rintro _ w rfl hS
      rw [← hd];repeat (first|refine Yeb ?_|refine Yaf ?_|refine Yag ?_|refine Ybc ?_|refine Yfa ?_|refine Yab ?_)
      refine Zac _ rfl rfl rfl rfl rfl hS (Zu7 lp p o s m j done rdn D _ a c l (hS.rd (List.mem_cons_self ..)) (hS.rd (List.mem_cons_of_mem _ (List.mem_cons_self ..))) hj (hW0 _ _ hS) hl) ?_
      rintro _ w rfl hS
      rw [← hd,hh];repeat (first|refine Yes ?_|(refine X_id ?_;first|(refine Zaa 118 rfl rfl rfl rfl rfl (Zrp lp p o s m j done rdn _ (hS.rd (List.mem_cons_self ..)) hj) ?_;rintro _ _ ⟨rfl,rfl⟩)|refine Yaf ?_|refine Yag ?_|refine Yau ?_|refine Yan ?_|refine Ya7 ?_|refine Ybb ?_|refine Yat ?_|refine Ybr ?_|refine Yb2 ?_|refine Yaq ?_)|refine Yff ?_|refine Yex ?_)
      exact ⟨rfl,hS⟩
    ·unfold last at hfull
     by_cases hl0 : l = []
     ·rw [show Zbm rd fs D j done d = (0,D,done) by unfold Zbm last; rw [if_neg (by simp [hoff]),if_neg (by simpa using hck),if_neg (by simp [hh]),if_neg (by rw [hdl]; exact hfull),if_pos (by rw [hd,hl0]; rfl)]]
      have hl1 : l.length = 0 := by rw [hl0]; rfl
      refine Zab Tryz.func65 rfl Tryz.ntmps65 rfl ?_
      repeat (first|refine Yeb ?_|(refine X_id ?_;first|(refine Zaa 56 rfl rfl rfl rfl rfl (hon _ _ hS) ?_;rintro _ _ ⟨rfl,rfl⟩)|refine Yaf ?_|refine Yag ?_|refine Yau ?_|refine Yan ?_|refine Ybb ?_|refine Ybt ?_|refine Yaq ?_)|refine Yfa ?_|refine Yej ?_)
      refine Zac _ rfl rfl rfl rfl rfl hS (Zkx a c l _ (hW0 _ _ hS) hl hx64) ?_
      rintro _ w rfl hS
      rw [← hd];repeat (first|refine Yeb ?_|refine Yaf ?_|refine Yag ?_|refine Ybc ?_|refine Yfa ?_|refine Yab ?_)
      refine Zac _ rfl rfl rfl rfl rfl hS (Zu7 lp p o s m j done rdn D _ a c l (hS.rd (List.mem_cons_self ..)) (hS.rd (List.mem_cons_of_mem _ (List.mem_cons_self ..))) hj (hW0 _ _ hS) hl) ?_
      rintro _ w rfl hS
      rw [← hd,hh];repeat (first|refine Yes ?_|(refine X_id ?_;first|(refine Zaa 118 rfl rfl rfl rfl rfl (Zrp lp p o s m j done rdn _ (hS.rd (List.mem_cons_self ..)) hj) ?_;rintro _ _ ⟨rfl,rfl⟩)|refine Yaf ?_|refine Yag ?_|refine Yau ?_|refine Yan ?_|refine Ya7 ?_|refine Ybb ?_|refine Yat ?_|refine Ybg ?_|refine Ybr ?_|refine Yb6 ?_|refine Yaq ?_)|refine Yff ?_|refine Yex ?_)
      exact ⟨rfl,hS⟩
     ·have hl1 : ¬ l.length = 0 := fun h => hl0 (List.length_eq_zero_iff.1 h)
      rw [show Zbm rd fs D j done d = ((putM rd fs D j done d).1,(putM rd fs D j done d).2,if (putM rd fs D j done d).1 = 0 then done + 1 else done) by
       unfold Zbm last; rw [if_neg (by simp [hoff]),if_neg (by simpa using hck),if_neg (by simp [hh]),if_neg (by rw [hdl]; exact hfull),if_neg (by intro h; rw [h] at hdl; exact hl1 hdl.symm)]]
      refine Zab Tryz.func65 rfl Tryz.ntmps65 rfl ?_
      repeat (first|refine Yeb ?_|(refine X_id ?_;first|(refine Zaa 56 rfl rfl rfl rfl rfl (hon _ _ hS) ?_;rintro _ _ ⟨rfl,rfl⟩)|refine Yaf ?_|refine Yag ?_|refine Yau ?_|refine Yan ?_|refine Ybb ?_|refine Ybt ?_|refine Yaq ?_)|refine Yfa ?_|refine Yej ?_)
      refine Zac _ rfl rfl rfl rfl rfl hS (Zkx a c l _ (hW0 _ _ hS) hl hx64) ?_
      rintro _ w rfl hS
      rw [← hd];repeat (first|refine Yeb ?_|refine Yaf ?_|refine Yag ?_|refine Ybc ?_|refine Yfa ?_|refine Yab ?_)
      refine Zac _ rfl rfl rfl rfl rfl hS (Zu7 lp p o s m j done rdn D _ a c l (hS.rd (List.mem_cons_self ..)) (hS.rd (List.mem_cons_of_mem _ (List.mem_cons_self ..))) hj (hW0 _ _ hS) hl) ?_
      rintro _ w rfl hS
      rw [← hd,hh];repeat (first|refine Yes ?_|(refine X_id ?_;first|(refine Zaa 118 rfl rfl rfl rfl rfl (Zrp lp p o s m j done rdn _ (hS.rd (List.mem_cons_self ..)) hj) ?_;rintro _ _ ⟨rfl,rfl⟩)|refine Yaf ?_|refine Yag ?_|refine Yau ?_|refine Yan ?_|refine Ya7 ?_|refine Ybb ?_|refine Yat ?_|refine Ybh ?_|refine Ybr ?_|refine Yb6 ?_|refine Ybm ?_|refine Yaw ?_|refine Yaq ?_|refine Yba (fun _ _ hS _ => ?_))|refine Yen ?_|refine Yej ?_)
      rename_i sp _ _;have hgood : ∀ v ∈ l,0 ≤ v.no ∧ v.no < (D.laid.length : Int) - 1 - j ∧ v.x.s.length = 64 := fun v hv => by
       have h1 := Zet hck v.data (by rw [hd]; exact List.mem_map.2 ⟨v,hv,rfl⟩)
       have h2 := List.all_eq_true.1 hh v.data (by rw [hd]; exact List.mem_map.2 ⟨v,hv,rfl⟩)
       exact ⟨h1.1,of_decide_eq_true h2,h1.2⟩
      have hfr := Zhv (done + 1) d (fun x hx => by
       have := (Zet hck x hx).2
       omega)
      have hpm : putM rd fs D j done d = layM rd fs j (Zdc (Zcb (done + 1) (sumB rd fs (done + 1) d) d (0,D) d.length)) (done + 1) d := rfl
      refine Zac _ rfl rfl rfl rfl rfl hS (Z4a (done + 1) a c l rd fs _ (hG.mono fun r hr => (hr.rd hS).ro) (hW0 _ _ hS) hl (by rw [← hd]; omega)) ?_
      rintro _ w rfl hS
      rw [← hd];obtain ⟨sd,hsd⟩ : ∃ sd,sd = sumB rd fs (done + 1) d := ⟨_,rfl⟩
      have hsl : sd.length = 32 := by rw [hsd]; exact Zj2 ..
      rw [← hsd] at hpm ⊢;have hl32 : LenO (bv sd) 32 := ⟨by simp [hsl]⟩
      repeat (first|refine Yeb ?_|refine Yaf ?_|refine Yat ?_|refine Yao (fun _ hS _ => ?_)|refine Yar (fun _ _ hS _ => ?_)|refine Yee ?_|refine Yab ?_)
      rename_i b8 _ _ _ _ _;have hS := hS.pick [1,2,1,0]
      refine Zaj (α := Nat) (fun i => [(0,.pointer (some ⟨lp,0,none⟩)),(1,.slice a l.length c),(6,.pointer (some ⟨sp,0,none⟩)),(7,.int .i64 (done + 1)),(8,.pointer (some ⟨b8,0,none⟩)),(62,.slice a l.length c),(63,.int .i64 (l.length : Nat)),(64,.int .i64 (i : Nat))])
       (fun i w => i ≤ l.length ∧ St W F [Zix sp p (Zcb (done + 1) sd d (0,D) i).1,disk p (Zcb (done + 1) sd d (0,D) i).2,Zcd lp p o s m j done rdn,pts b8 (.cells (bv sd).toArray 54)] w) (fun i => l.length - i) 0 ⟨rfl,rfl,rfl,rfl,rfl,rfl,rfl,rfl,trivial⟩ ⟨Nat.zero_le _,hS⟩ ?_
      clear hS;rintro i w ⟨hi,hS⟩
      have hnl := Zi2 (done + 1) sd d (0,D) i
      simp only at hnl
      obtain ⟨X,hX⟩ : ∃ X,X = Zcb (done + 1) sd d (0,D) i := ⟨_,rfl⟩
      rw [← hX] at hS hnl;by_cases hlt : i < l.length
      ·have hx0 : l[i]? = some l[i] := List.getElem?_eq_getElem hlt
       generalize l[i] = v at hx0;have hvm := List.mem_of_getElem? hx0
       have hgv := (hgood v hvm).2.2
       have hdi : d.getD i (0,[]) = (v.no,v.x.s) := by rw [List.getD_eq_getElem?_getD,hd]; simp [hx0,Wr.data]
       have hr := hW.row
       have hxs : ((l.flatMap Wr.cells).drop (i * 2)).take 2 = [.int .i64 v.no,.slice v.x.a v.x.s.length v.x.c] := Zn6 hx0
       obtain ⟨ab,ao,rfl⟩ := (hW.row.rd hS).base (by intro e; rw [e] at hxs; simp at hxs)
       repeat (first|refine Yeb ?_|(refine X_id ?_;first|refine Yaf ?_|refine Yag ?_|refine Yan ?_|refine Yat ?_|refine Ya1 ?_|refine Ybd ?_|refine Yaw ?_|refine Yb1 ?_|refine Yaq ?_|refine Ybi ?_|refine Ybq ?_|refine Yao (fun _ hS _ => ?_)|refine Yar (fun _ _ hS _ => ?_))|refine Yef ?_|refine Yab ?_)
       refine Zaa _ rfl rfl rfl rfl rfl (Z6c (done + 1) (i : Nat) (l.length : Nat) v.no sd hsl _) ?_
       rintro _ w ⟨q,k,rfl,hS'⟩
       replace hS := hS.plus hS';clear hS';repeat (first|refine Yaa ?_)
       obtain ⟨_,hc,hr,hw,hbk⟩ := hS.call [false,false,true,true,false,false]
       refine Zaa _ rfl rfl rfl rfl rfl (Zj0 sp p X _ _ 64 k (Zhj (done + 1) (i : Nat) (l.length : Nat) v.no sd) _ _ hc (hr _ (List.mem_cons_self ..)) (Zfm ..) (by omega)) ?_
       rintro _ w ⟨_,hS⟩
       replace hS := hbk hS
       clear hc hr hw hbk;have hX2 := Zdo X (1 + 2 * (i : Nat)) (Zhj (done + 1) (i : Nat) (l.length : Nat) v.no sd)
       repeat (first|refine Yeb ?_|(refine X_id ?_;first|refine Yaf ?_|refine Yan ?_|refine Yaw ?_|refine Yb1 ?_|refine Yaq ?_)|refine Yad ?_|refine Yab ?_)
       obtain ⟨_,hc,hr,hw,hbk⟩ := hS.call [true,true,false,false,false,false]
       refine Zaa _ rfl rfl rfl rfl rfl (Zj0 sp p (Zdl X (1 + 2 * (i : Nat)) (Zhj (done + 1) (i : Nat) (l.length : Nat) v.no sd)) _ _ _ _ v.x.s _ _ hc (hw _ (hW.all v hvm)) rfl (by omega)) ?_
       rintro _ w ⟨_,hS⟩
       replace hS := hbk hS
       clear hc hr hw hbk;repeat (first|refine Yeb ?_|refine Yeg ?_|refine Yad ?_|refine Yej ?_)
       refine Zae (i + 1) ⟨rfl,rfl,rfl,rfl,rfl,rfl,rfl,rfl,trivial⟩ ⟨by omega,?_⟩ (by omega)
       simp only [Zcb]
       rw [hdi,← hX,hdl];have hS := hS.pick [0,0,2,2]
       exact hS
      ·obtain rfl : i = l.length := by omega
       rw [hdl,← hX] at hpm;have hX2 := Zlm X
       repeat (first|refine Yeb ?_|refine Yaf ?_|refine Yaz ?_|refine Yeo ?_|refine Yeh ?_)
       obtain ⟨_,hc,hr,hw,hbk⟩ := hS.call [true,true,false,false]
       refine Zaa _ rfl rfl rfl rfl rfl (Zmt sp p X _ _ hc (by omega)) ?_
       rintro _ w ⟨_,hS⟩
       replace hS := hbk hS
       clear hc hr hw hbk;repeat (first|refine Yeb ?_|refine Yaf ?_|refine Yec ?_|refine Yab ?_)
       have hS := hS.pick [2,0,0]
       obtain ⟨_,hc,hr,hw,hbk⟩ := hS.call [true,true,true]
       refine Zaa _ rfl rfl rfl rfl rfl (Z4f lp sp p o s m j done rdn (Zdc X) (done + 1) a c l rd fs _ _ (hG.mono hw) (hW.mono hw) hj hl (fun v hv => by have := hgood v hv; omega) (by omega) hc) ?_
       rintro _ w ⟨rfl,hS⟩
       replace hS := hbk hS
       clear hc hr hw hbk;rw [hpm,hd];repeat (first|refine Yeb ?_|refine Yag ?_|refine Yah ?_|refine Yed ?_)
       exact ⟨rfl,hS.pick [0,1]⟩
  ·rw [show Zbm rd fs D j done d = (Zca d,D,done) by unfold Zbm; rw [if_neg (by simp [hoff]),if_pos hck]]
   refine Zab Tryz.func65 rfl Tryz.ntmps65 rfl ?_
   repeat (first|refine Yeb ?_|(refine X_id ?_;first|(refine Zaa 56 rfl rfl rfl rfl rfl (hon _ _ hS) ?_;rintro _ _ ⟨rfl,rfl⟩)|refine Yaf ?_|refine Yag ?_|refine Yau ?_|refine Yan ?_|refine Ybb ?_|refine Ybt ?_|refine Yaq ?_)|refine Yfa ?_|refine Yej ?_)
   refine Zac _ rfl rfl rfl rfl rfl hS (Zkx a c l _ (hW0 _ _ hS) hl hx64) ?_
   rintro _ w rfl hS
   rw [← hd];repeat (first|refine Yeb ?_|refine Yaf ?_|refine Yag ?_|refine Ybj ?_|refine Yet ?_|refine Yeu ?_)
   exact ⟨rfl,hS⟩
 ·rw [hoff] at hon
  rw [show Zbm rd fs D j done d = (9,D,done) by unfold Zbm; rw [if_pos hoff]]
  refine Zab Tryz.func65 rfl Tryz.ntmps65 rfl ?_
  repeat (first|refine Yeb ?_|(refine X_id ?_;first|(refine Zaa 56 rfl rfl rfl rfl rfl (hon _ _ hS) ?_;rintro _ _ ⟨rfl,rfl⟩)|refine Yaf ?_|refine Yag ?_|refine Yau ?_|refine Yan ?_|refine Ybo ?_|refine Ybt ?_|refine Yaq ?_)|refine Yew ?_|refine Yex ?_)
  exact ⟨rfl,hS⟩
end Cr
namespace Cr
open Go
set_option maxHeartbeats 64000000
theorem Zmo {d : List (Int × List UInt8)} {i k : Nat} (hi : i < d.length) (hk : k < i) (h : (d.getD k (0,[])).1 = (d.getD i (0,[])).1) : ∀ n,i < n → Zbd d n = true
 | 0,h' => absurd h' (by omega)
 | n + 1,h' => by
  simp only [Zbd]
  rcases Nat.lt_or_ge i n with hlt | hge
  ·rw [Zmo hi hk h n hlt]; rfl
  ·obtain rfl : n = i := by omega
   have hm : (d.getD n (0,[])).1 ∈ (d.take n).map (·.1) := by
    rw [← h,List.getD_eq_getElem?_getD,List.getElem?_eq_getElem (show k < d.length by omega)]
    exact List.mem_map.2 ⟨d[k],List.mem_iff_getElem.2 ⟨k,by simp; omega,by simp⟩,rfl⟩
   rw [decide_eq_true hm]; simp
end Cr
namespace Cr
open Go Go.Proofs
set_option maxHeartbeats 64000000
structure Quiet (D : DiskM) (n : Nat) : Prop where
 off : D.off = false
 armed : D.armed = false
 len : D.laid.length = n
structure Qs (x : Int × DiskM) (n : Nat) (laid : List (List UInt8)) (line : List (Int × List UInt8)) : Prop where
 e : x.1 = 0
 q : Quiet x.2 n
 laid : x.2.laid = laid
 line : x.2.line = line
theorem Qs.write {x : Int × DiskM} {n : Nat} {laid : List (List UInt8)} {line : List (Int × List UInt8)} (h : Qs x n laid line) {no : Int} {b : List UInt8} (h0 : 0 ≤ no) (h1 : no < n) (hb : b.length = 64) : Qs (Zdl x no b) n laid (line ++ [(no,b)]) := by
 obtain ⟨e,⟨qo,qa,ql⟩,hl,hn⟩ := h
 have hu : useB x.2.off x.2.armed x.2.left = true := by rw [qo,qa]; rfl
 have hw := DiskM.write_yes (D := x.2) (no := no) (b := b) qo (by simp [Zc9,h0,ql,h1]) hb hu
 unfold Zdl
 rw [if_pos e,hw];refine ⟨rfl,⟨?_,qa,ql⟩,hl,by simp [hn]⟩
 show Zoc x.2.off x.2.armed x.2.left = false
 rw [qo,qa]; rfl
theorem Qs.flush {x : Int × DiskM} {n : Nat} {laid : List (List UInt8)} {line : List (Int × List UInt8)} (h : Qs x n laid line) : Qs (Zdc x) n (Zb7 laid line) [] := by
 obtain ⟨e,⟨qo,qa,ql⟩,hl,hn⟩ := h
 have hu : useB x.2.off x.2.armed x.2.left = true := by rw [qo,qa]; rfl
 have hw := DiskM.flush_yes (D := x.2) qo hu
 unfold Zdc
 rw [if_pos e,hw];refine ⟨rfl,⟨?_,qa,?_⟩,?_,rfl⟩
 ·show Zoc x.2.off x.2.armed x.2.left = false
  rw [qo,qa]; rfl
 ·show (Zb7 x.2.laid x.2.line).length = n
  rw [Zaw]; exact ql
 ·show Zb7 x.2.laid x.2.line = _
  rw [hl,hn]
theorem Qs.puts (k : Int) {n : Nat} {laid : List (List UInt8)} : ∀ (l : List (Int × List UInt8)) {x : Int × DiskM} {line : List (Int × List UInt8)},Qs x n laid line → (∀ v ∈ l,0 ≤ k + v.1 ∧ k + v.1 < n ∧ v.2.length = 64) → Qs (Zf9 k x l) n laid (line ++ l.map fun v => (k + v.1,v.2))
 | [],_,_,h,_ => by simpa [Zf9] using h
 | v :: l,x,line,h,hl => by
  have hv := hl v (List.mem_cons_self ..)
  have := Qs.puts k l (h.write hv.1 hv.2.1 hv.2.2) fun u hu => hl u (List.mem_cons_of_mem _ hu)
  simpa [Zf9] using this
theorem Qs.notes (m : Int) (d : List UInt8) (l : List (Int × List UInt8)) {n : Nat} {laid : List (List UInt8)} {x : Int × DiskM} {line : List (Int × List UInt8)} (h : Qs x n laid line) (hl : ∀ v ∈ l,v.2.length = 64) (hn : 2 * l.length < n) :
  ∀ i,i ≤ l.length → ∃ L,(∀ v ∈ L,0 ≤ v.1 ∧ v.1 < 1 + 2 * (l.length : Int)) ∧ Qs (Zcb m d l x i) n laid (line ++ L)
 | 0,_ => ⟨[],by simp,by simpa [Zcb] using h⟩
 | i + 1,hi => by
  obtain ⟨L,hL,hq⟩ := Qs.notes m d l h hl hn i (by omega)
  have hv : (l.getD i (0,[])).2.length = 64 := by
   rw [List.getD_eq_getElem?_getD,List.getElem?_eq_getElem (by omega)];exact hl _ (List.getElem_mem _)
  have h1 := hq.write (no := 1 + 2 * (i : Nat)) (b := Zhj m (i : Nat) (l.length : Nat) (l.getD i (0,[])).1 d) (by omega) (by omega) (Zfm ..)
  have h2 := h1.write (no := 1 + 2 * (i : Nat) + 1) (b := (l.getD i (0,[])).2) (by omega) (by omega) hv
  refine ⟨L ++ [(1 + 2 * ((i : Nat) : Int),Zhj m (i : Nat) (l.length : Nat) (l.getD i (0,[])).1 d),(1 + 2 * ((i : Nat) : Int) + 1,(l.getD i (0,[])).2)],?_,by simpa [Zcb,Zhi,List.append_assoc] using h2⟩
  intro v hv
  rcases List.mem_append.1 hv with hv | hv
  ·exact hL v hv
  ·simp only [List.mem_cons,List.not_mem_nil,or_false] at hv
   rcases hv with rfl | rfl <;> (simp only; omega)
def Zcg (l : List (Int × List UInt8)) (m : Int) : Option (List UInt8) := (l.reverse.find? fun v => v.1 == m).map (·.2)
theorem Zdy (v : Int × List UInt8) (l : List (Int × List UInt8)) (m : Int) : Zcg (v :: l) m = (Zcg l m).or (if v.1 = m then some v.2 else none) := by
 unfold Zcg
 rw [List.reverse_cons,List.find?_append];cases h : l.reverse.find? fun v => v.1 == m with
 | some x => simp
 | none => by_cases e : v.1 = m <;> simp [e]
theorem Zgr {l : List (Int × List UInt8)} {m : Int} (h : ∀ v ∈ l,v.1 ≠ m) : Zcg l m = none := by
 unfold Zcg
 rw [List.find?_eq_none.2 (fun v hv => by simpa using h v (List.mem_reverse.1 hv))]; rfl
theorem Zlz (k m : Int) : ∀ l : List (Int × List UInt8),Zcg (l.map fun v => (k + v.1,v.2)) (k + m) = Zcg l m
 | [] => rfl
 | v :: l => by
  rw [List.map_cons,Zdy,Zdy,Zlz k m l]
  congr 1
  by_cases e : v.1 = m
  ·rw [if_pos e,if_pos (by rw [e])]
  ·rw [if_neg e,if_neg (fun h => e (Int.add_left_cancel h))]
theorem Zqr {l : List (Int × List UInt8)} {m : Int} {s : List UInt8} (h : Zcg l m = some s) : (m,s) ∈ l := by
 unfold Zcg at h
 obtain ⟨v,hv,rfl⟩ := Option.map_eq_some_iff.1 h
 have h1 := List.mem_of_find?_eq_some hv
 have h2 := List.find?_some hv
 simp only [beq_iff_eq] at h2
 subst h2
 exact List.mem_reverse.1 h1
theorem Zc8 : ∀ (xs : List (Int × List UInt8)) (l : List (List UInt8)) (k : Nat),k < l.length → (∀ v ∈ xs,0 ≤ v.1) → (Zb7 l xs).getD k [] = (Zcg xs k).getD (l.getD k [])
 | [],_,_,_,_ => rfl
 | v :: xs,l,k,hk,hx => by
  have hv := hx v (List.mem_cons_self ..)
  have ih := Zc8 xs (l.set v.1.toNat v.2) k (by simpa using hk) fun u hu => hx u (List.mem_cons_of_mem _ hu)
  have e : Zb7 l (v :: xs) = Zb7 (l.set v.1.toNat v.2) xs := rfl
  rw [e,ih,Zdy];cases Zcg xs k with
  | some s => rfl
  | none =>
   simp only [Option.getD_none,Option.none_or]
   rw [List.getD_eq_getElem?_getD,List.getElem?_set];by_cases e2 : v.1.toNat = k
   ·rw [if_pos e2,if_pos (by omega),if_pos (by omega)]; rfl
   ·rw [if_neg e2,if_neg (by omega)]; simp [List.getD_eq_getElem?_getD]
theorem Zug {D : DiskM} (h : D.line = []) (no : Int) : D.find no = D.laid.getD no.toNat [] := by unfold DiskM.find; rw [h]; rfl
theorem Zqs {l : List (Int × List UInt8)} (h : Zbd l l.length = false) {v : Int × List UInt8} (hv : v ∈ l) : Zcg l v.1 = some v.2 := by
 obtain ⟨i,hi,rfl⟩ := List.mem_iff_getElem.1 hv
 cases h1 : Zcg l l[i].1 with
 | none =>
  unfold Zcg at h1
  rw [Option.map_eq_none_iff,List.find?_eq_none] at h1;have := h1 l[i] (List.mem_reverse.2 (List.getElem_mem _))
  simp at this
 | some s =>
  obtain ⟨k,hk,hk'⟩ := List.mem_iff_getElem.1 (Zqr h1)
  have hg : ∀ {a : Nat} (ha : a < l.length),l.getD a (0,[]) = l[a] := fun ha => by simp [List.getD_eq_getElem?_getD,ha]
  rcases Nat.lt_trichotomy k i with hlt | rfl | hlt
  ·have := Zmo (d := l) hi hlt (by rw [hg hk,hg hi,hk']) l.length hi
   rw [this] at h; cases h
  ·rw [hk']
  ·have := Zmo (d := l) hk hlt (by rw [hg hk,hg hi,hk']) l.length hk
   rw [this] at h; cases h
structure Done (R : Int × DiskM × Int) (D : DiskM) (j n : Nat) (done : Int) (l : List (Int × List UInt8)) : Prop where
 e : R.1 = 0
 q : Quiet R.2.1 n
 line : R.2.1.line = []
 lo : done ≤ R.2.2
 hi : R.2.2 ≤ done + 1
 at_ : ∀ k,1 + j + k < n → R.2.1.laid.getD (1 + j + k) [] = (Zcg l (k : Nat)).getD (D.laid.getD (1 + j + k) [])
theorem Zq3 (rd fs : List Int) {D : DiskM} {j n : Nat} {done : Int} {l : List (Int × List UInt8)} (hq : Quiet D n) (hline : D.line = []) (hc : Zca l = 0) (hh : hasM ((n : Int) - 1 - j) l = true) (hm : (l.length : Int) ≤ (j : Int) / 2) (hd : done < last) :
  Done (Zbm rd fs D j done l) D j n done l := by
 have hgood : ∀ v ∈ l,0 ≤ v.1 ∧ v.1 < (n : Int) - 1 - j ∧ v.2.length = 64 := fun v hv => by
  have h1 := Zet hc v hv
  have h2 := List.all_eq_true.1 hh v hv
  exact ⟨h1.1,of_decide_eq_true h2,h1.2⟩
 unfold Zbm
 rw [if_neg (by simp [hq.off]),if_neg (by simpa using hc),hq.len,if_neg (by simp [hh]),if_neg (by omega)]
 by_cases h0 : l = []
 ·rw [if_pos h0]
  subst h0
  exact ⟨rfl,hq,hline,Int.le_refl _,by simp only; omega,fun k hk => rfl⟩
 ·rw [if_neg h0]
  have hlen : 0 < l.length := List.length_pos_iff.2 h0
  obtain ⟨v0,hv0⟩ := List.exists_mem_of_ne_nil l h0
  have hv0 := hgood v0 hv0
  have hq0 : Qs (0,D) n D.laid [] := ⟨rfl,hq,rfl,hline⟩
  obtain ⟨L,hL,h1⟩ := hq0.notes (done + 1) (sumB rd fs (done + 1) l) l (fun v hv => (hgood v hv).2.2) (by omega) l.length (Nat.le_refl _)
  have h2 := Qs.puts (1 + j) l h1.flush (fun v hv => by have := hgood v hv; omega)
  have h3 := (h2.flush.write (no := 0) (b := Zeq rd fs (done + 1)) (by omega) (by omega) (Zbs _)).flush
  have e : putM rd fs D j done l = Zdc (Zdl (Zdc (Zf9 (1 + j) (Zdc (Zcb (done + 1) (sumB rd fs (done + 1) l) l (0,D) l.length)) l)) 0 (Zeq rd fs (done + 1))) := rfl
  rw [← e] at h3;refine ⟨h3.e,h3.q,h3.line,?_,?_,fun k hk => ?_⟩
  ·simp only [h3.e,if_true]; omega
  ·simp only [h3.e,if_true]; omega
  ·simp only
   rw [h3.laid];have l1 : D.laid.length = n := hq.len
   rw [Zc8 _ _ _ (by rw [Zaw,Zaw,l1]; exact hk) (fun v hv => by simp only [List.nil_append,List.mem_singleton] at hv; rw [hv]; exact Int.le_refl _),
    Zgr (l := [] ++ [(0,Zeq rd fs (done + 1))]) (fun v hv => by simp only [List.nil_append,List.mem_singleton] at hv; rw [hv]; simp only; omega),Option.getD_none,
    Zc8 _ _ _ (by rw [Zaw,l1]; exact hk) (fun v hv => by
     simp only [List.nil_append,List.mem_map] at hv
     obtain ⟨u,hu,rfl⟩ := hv
     have := hgood u hu
     simp only; omega),
    show ((1 + j + k : Nat) : Int) = (1 + (j : Int)) + (k : Nat) by omega,List.nil_append,Zlz]
   congr 1
   rw [Zc8 _ _ _ (by rw [l1]; exact hk) (fun v hv => (hL v (by simpa using hv)).1),Zgr (fun v hv => by have := hL v (by simpa using hv); omega)]
   rfl
end Cr
namespace Cr
open Go Go.Proofs
set_option maxRecDepth 10000
set_option maxHeartbeats 64000000

/-! ### maps as lists -/
section
variable {β γ : Type}
def getA (k : Int) : List (Int × β) → Option β
 | [] => none
 | x :: l => if k = x.1 then some x.2 else getA k l
def setA (k : Int) (v : β) : List (Int × β) → List (Int × β)
 | [] => [(k,v)]
 | x :: l => if k = x.1 then (k,v) :: l else x :: setA k v l
def delA (k : Int) : List (Int × β) → List (Int × β)
 | [] => []
 | x :: l => if k = x.1 then l else x :: delA k l
def Zav (l : List (Int × β)) : List Int := l.map (·.1)
theorem getA_none {k : Int} : ∀ {l : List (Int × β)},getA k l = none ↔ k ∉ Zav l
 | [] => by simp [getA,Zav]
 | x :: l => by
  unfold getA
  by_cases h : k = x.1
  ·simp [h,Zav]
  ·have := getA_none (k := k) (l := l)
   simp only [Zav] at this
   simp [h,Zav,this]
theorem Zjj {k : Int} {v : β} : ∀ {l : List (Int × β)},getA k l = some v → (k,v) ∈ l
 | x :: l,h => by
  unfold getA at h
  split at h
  ·rename_i e
   cases h
   rw [e]; exact List.mem_cons_self ..
  ·exact List.mem_cons_of_mem _ (Zjj h)
theorem Zd1 {k : Int} {v : β} : ∀ {l : List (Int × β)},(Zav l).Nodup → (k,v) ∈ l → getA k l = some v
 | x :: l,hn,h => by
  have hn' : x.1 ∉ Zav l ∧ (Zav l).Nodup := List.nodup_cons.1 hn
  unfold getA
  rcases List.mem_cons.1 h with e | h
  ·rw [← e]; simp
  ·have : k ≠ x.1 := fun e => hn'.1 (by rw [← e]; exact List.mem_map.2 ⟨_,h,rfl⟩)
   rw [if_neg this]; exact Zd1 hn'.2 h
theorem Zep {k k' : Int} {v : β} : ∀ {l : List (Int × β)},getA k (setA k' v l) = if k = k' then some v else getA k l
 | [] => by simp [setA,getA]
 | x :: l => by
  unfold setA
  by_cases h : k' = x.1
  ·rw [if_pos h]
   by_cases h2 : k = k'
   ·simp [getA,h2]
   ·simp [getA,h2,← h]
  ·rw [if_neg h]
   by_cases h2 : k = k'
   ·have := Zep (k := k) (k' := k') (v := v) (l := l)
    subst h2
    simp only [getA,if_neg h]
    simpa using this
   ·simp [getA,h2,Zep (k := k) (k' := k') (v := v) (l := l)]
theorem Zht {k k' : Int} : ∀ {l : List (Int × β)},(Zav l).Nodup → getA k (delA k' l) = if k = k' then none else getA k l
 | [],_ => by simp [delA,getA]
 | x :: l,hn => by
  have hn' : x.1 ∉ Zav l ∧ (Zav l).Nodup := List.nodup_cons.1 hn
  unfold delA
  by_cases h : k' = x.1
  ·rw [if_pos h]
   by_cases h2 : k = k'
   ·rw [if_pos h2,getA_none,h2,h]; exact hn'.1
   ·simp [getA,h2,← h]
  ·rw [if_neg h]
   by_cases h2 : k = k'
   ·subst h2
    simp [getA,h,Zht (k := k) (k' := k) hn'.2]
   ·simp [getA,h2,Zht (k := k) (k' := k') hn'.2]
theorem Zij {k : Int} : ∀ {l : List (Int × β)},(Zav (delA k l)).Sublist (Zav l)
 | [] => by simp [delA,Zav]
 | x :: l => by
  unfold delA
  split
  ·exact List.sublist_cons_self ..
  ·exact (Zij (k := k) (l := l)).cons_cons _
theorem Zni {k : Int} : ∀ {l : List (Int × β)},(delA k l).Sublist l
 | [] => by simp [delA]
 | x :: l => by
  unfold delA
  split
  ·exact List.sublist_cons_self ..
  ·exact (Zni (k := k) (l := l)).cons_cons _
theorem Zr0 {k : Int} {v : β} : ∀ {l : List (Int × β)},k ∉ Zav l → setA k v l = l ++ [(k,v)]
 | [],_ => rfl
 | x :: l,h => by
  have h' : ¬ k = x.1 ∧ k ∉ Zav l := by simpa [Zav] using h
  simp [setA,h'.1,Zr0 h'.2]
theorem Zsr {k : Int} (f : β → γ) : ∀ {l : List (Int × β)},getA k (l.map fun x => (x.1,f x.2)) = (getA k l).map f
 | [] => rfl
 | x :: l => by
  simp only [List.map_cons,getA]
  split
  ·rfl
  ·exact Zsr f
theorem Zr1 {k : Int} {v : β} (f : β → γ) : ∀ {l : List (Int × β)},setA k (f v) (l.map fun x => (x.1,f x.2)) = (setA k v l).map fun x => (x.1,f x.2)
 | [] => rfl
 | x :: l => by
  simp only [List.map_cons,setA]
  split
  ·rfl
  ·simp [Zr1 f]
theorem Zsy {k : Int} (f : β → γ) : ∀ {l : List (Int × β)},delA k (l.map fun x => (x.1,f x.2)) = (delA k l).map fun x => (x.1,f x.2)
 | [] => rfl
 | x :: l => by
  simp only [List.map_cons,delA]
  split
  ·rfl
  ·simp [Zsy f]
end

/-! ### nodes -/
structure StatM where
 kind : Int
 mode : Int
 owner : Int
 group : Int
 deriving DecidableEq
def StatM.check (s : StatM) : Int := if ¬ (0 ≤ s.kind ∧ s.kind < 5) then 17 else if ¬ (0 ≤ s.mode ∧ s.mode < 4096) then 11 else if ¬ (0 ≤ s.owner ∧ s.owner < 65536) ∨ ¬ (0 ≤ s.group ∧ s.group < 65536) then 1 else 0
theorem StatM.check_ok {s : StatM} (h : s.check = 0) : (0 ≤ s.kind ∧ s.kind < 5) ∧ (0 ≤ s.mode ∧ s.mode < 4096) ∧ (0 ≤ s.owner ∧ s.owner < 65536) ∧ (0 ≤ s.group ∧ s.group < 65536) := by
 unfold StatM.check at h
 split at h
 ·cases h
 ·split at h
  ·cases h
  ·split at h
   ·cases h
   ·omega
def StatM.num (s : StatM) : Int := if s.check = 0 then ((s.kind * 4096 + s.mode) * 65536 + s.owner) * 65536 + s.group else 0
def nblk (n : Nat) : Nat := (n + 63) / 64
structure Nd where
 st : StatM
 data : List UInt8
 deriving DecidableEq
structure Sto where
 nd : Nd
 blocks : List Int
def Zgg (d : List UInt8) (i : Nat) : List UInt8 := Zct ((d.drop (64 * i)).take 64)
def Zqc (s : Sto) : List UInt8 := [1] ++ bigB s.nd.st.num 8 ++ bigB (s.nd.data.length : Nat) 4 ++ s.blocks.flatMap fun b => bigB b 4
def stoB (s : Sto) : List UInt8 := Zct (Zqc s)
def Zd5 : List UInt8 := [67,82,69,69,76]
def Zcf (rd fs : List Int) (n : Nat) : List UInt8 := Zct (Zd5 ++ bigB (n : Nat) 4 ++ digest rd fs [Zd5,bigB (n : Nat) 4])
abbrev Ents := List (Int × Sto)
def Zay (A : Ents) : List Int := A.flatMap fun x => x.2.blocks
structure Sto.ok (s : Sto) (nb : Nat) : Prop where
 st : s.nd.st.check = 0
 len : s.nd.data.length ≤ 512
 cnt : s.blocks.length = nblk s.nd.data.length
 low : ∀ b ∈ s.blocks,0 ≤ b ∧ b < nb
structure Enc (rd fs : List Int) (dat : List (List UInt8)) (n nb : Nat) (A : Ents) : Prop where
 len : dat.length = 1 + n + nb
 front : dat.getD 0 [] = Zcf rd fs n
 keys : ∀ k ∈ Zav A,0 ≤ k ∧ k < n
 nodup : (Zav A).Nodup
 node : ∀ i,i < n → dat.getD (1 + i) [] = match getA (i : Nat) A with | some s => stoB s | none => zero64
 ok : ∀ x ∈ A,x.2.ok nb
 at_ : ∀ x ∈ A,∀ k b,x.2.blocks[k]? = some b → dat.getD (1 + n + b.toNat) [] = Zgg x.2.nd.data k
 apart : (Zay A).Nodup
abbrev Tb := List (Option Nd)
def tabOf (A : Ents) (n : Nat) : Tb := (List.range n).map fun i => (getA (i : Nat) A).map (·.nd)
theorem Zb2 (A : Ents) (n : Nat) : (tabOf A n).length = n := by simp [tabOf]
theorem Zfg (A : Ents) {n i : Nat} (h : i < n) : (tabOf A n)[i]? = some ((getA (i : Nat) A).map (·.nd)) := by simp [tabOf,h]
def Zvw (T : Tb) (nb : Nat) : Int := T.foldl (fun r x => match x with | some x => r - (nblk x.data.length : Nat) | none => r) (nb : Int)

/-! ### changes -/
structure Chg where
 no : Int
 nd : Nd
 drop : Bool
def badC : List Chg → Int
 | [] => 0
 | c :: l => if c.drop then badC l else if ¬ c.nd.st.check = 0 then c.nd.st.check else if 512 < c.nd.data.length then 2 else badC l
def Zlj (l : List Chg) : Bool := Zbd (l.map fun c => (c.no,[])) l.length
def Zeu (l : List Chg) (n : Nat) : Int := if l.any (fun c => decide (c.no < 0) || decide ((n : Int) ≤ c.no)) then 1 else if Zlj l then 8 else badC l
def Zgo (x : Tb × Nat × Bool) (nb : Nat) (c : Chg) : Tb × Nat × Bool :=
 if x.2.2 then x else if c.drop then (x.1,x.2.1 + 1,false) else
 if Zvw x.1 nb < (nblk c.nd.data.length : Nat) then (x.1,x.2.1,true) else (x.1.set c.no.toNat (some c.nd),x.2.1 + 1 + nblk c.nd.data.length,false)
def Zjd (T : Tb) (l : List Chg) : Tb := l.foldl (fun T c => T.set c.no.toNat none) T
def runT (T : Tb) (nb : Nat) (l : List Chg) : Tb × Nat × Bool := l.foldl (fun x c => Zgo x nb c) (Zjd T l,0,false)
def putT (T : Tb) (nb most : Nat) (l : List Chg) : Int × Tb :=
 if (runT T nb l).2.2 then (6,T) else if most < (runT T nb l).2.1 then (6,T) else (0,(runT T nb l).1)
def Zh0 (T : Tb) (nb most : Nat) (l : List Chg) : Int × Tb := if ¬ Zeu l T.length = 0 then (Zeu l T.length,T) else putT T nb most l
def Zea (A : Ents) (l : List Chg) : Ents := l.foldl (fun A c => delA c.no A) A
def Zgt (A : Ents) (nb : Nat) : List Int := ((List.range nb).map fun k => ((k : Nat) : Int)).filter fun b => decide (b ∉ Zay A)
structure ApS where
 A : Ents
 free : List Int
 w : List (Int × List UInt8)
def Zce (n : Nat) (bs : List Int) (d : List UInt8) : List (Int × List UInt8) := (List.range bs.length).map fun i => (1 + (n : Int) + bs.getD i 0,Zgg d i)
def ApS.step (n : Nat) (z : ApS) (c : Chg) : Option ApS :=
 if c.drop then some { z with w := z.w ++ [(1 + c.no,zero64)] } else
 if z.free.length < nblk c.nd.data.length then none else
 some ⟨setA c.no ⟨c.nd,z.free.take (nblk c.nd.data.length)⟩ z.A,z.free.drop (nblk c.nd.data.length),z.w ++ (Zce n (z.free.take (nblk c.nd.data.length)) c.nd.data ++ [(1 + c.no,stoB ⟨c.nd,z.free.take (nblk c.nd.data.length)⟩)])⟩
def ApS.run (n : Nat) (z : ApS) : List Chg → Option ApS
 | [] => some z
 | c :: l => (z.step n c).bind fun z => z.run n l
def ApS.start (A : Ents) (nb : Nat) (l : List Chg) : ApS := ⟨Zea A l,Zgt (Zea A l) nb,[]⟩
end Cr
namespace Cr
open Go Go.Proofs
set_option maxRecDepth 100000
set_option maxHeartbeats 64000000
attribute [local irreducible] Calls

theorem Z1p (n k : Int) (W : World) : Calls Tryz.prog 145 #[.int .i64 n,.int .i64 k] W (Ret fun v w => v = .bool (decide (0 ≤ n ∧ n < k)) ∧ W = w) := by
 by_cases h : 0 ≤ n
 ·by_cases h2 : n < k
  ·refine Zab Tryz.func145 rfl Tryz.ntmps145 rfl ?_
   repeat (first|refine Yes ?_|(refine X_id ?_;first|refine Yaf ?_|refine Yag ?_|refine Ya9 ?_|refine Ya1 ?_|refine Yb2 ?_)|refine Yep ?_|refine Yed ?_)
   exact ⟨by simp [h,h2],rfl⟩
  ·refine Zab Tryz.func145 rfl Tryz.ntmps145 rfl ?_
   repeat (first|refine Yes ?_|(refine X_id ?_;first|refine Yaf ?_|refine Yag ?_|refine Ya9 ?_|refine Yaz ?_|refine Yb2 ?_)|refine Yep ?_|refine Yed ?_)
   exact ⟨by simp [h,h2],rfl⟩
 ·refine Zab Tryz.func145 rfl Tryz.ntmps145 rfl ?_
  repeat (first|refine Yev ?_|refine Yaf ?_|refine Yag ?_|refine Ya7 ?_|refine Yb6 ?_|refine Yep ?_|refine Yed ?_)
  exact ⟨by simp [h],rfl⟩
theorem Zej {n k : Int} (h : 0 ≤ n ∧ n < k) (W : World) : Calls Tryz.prog 145 #[.int .i64 n,.int .i64 k] W (Ret fun v w => v = .bool true ∧ W = w) := by
 have := Z1p n k W
 rwa [decide_eq_true h] at this
theorem Znn {n k : Int} (h : ¬ (0 ≤ n ∧ n < k)) (W : World) : Calls Tryz.prog 145 #[.int .i64 n,.int .i64 k] W (Ret fun v w => v = .bool false ∧ W = w) := by
 have := Z1p n k W
 rwa [decide_eq_false h] at this
abbrev StatM.cells (s : StatM) : List Value := [.int .i64 s.kind,.int .i64 s.mode,.int .i64 s.owner,.int .i64 s.group]
abbrev StatM.val (s : StatM) : Value := .agg (StatM.cells s).toArray
theorem Zqo (s : StatM) (W : World) : Calls Tryz.prog 88 #[s.val] W (Ret fun v w => v = .int .i64 s.check ∧ St W noF [] w) := by
 have hS := St.start W
 by_cases h1 : 0 ≤ s.kind ∧ s.kind < 5
 ·by_cases h2 : 0 ≤ s.mode ∧ s.mode < 4096
  ·by_cases h3 : 0 ≤ s.owner ∧ s.owner < 65536
   ·by_cases h4 : 0 ≤ s.group ∧ s.group < 65536
    ·refine Zab Tryz.func88 rfl Tryz.ntmps88 rfl ?_
     repeat (first|refine Yes ?_|(refine X_id ?_;first|(refine Zaa 145 rfl rfl rfl rfl rfl (Zej h1 _) ?_;rintro _ _ ⟨rfl,rfl⟩)|(refine Zaa 145 rfl rfl rfl rfl rfl (Zej h2 _) ?_;rintro _ _ ⟨rfl,rfl⟩)|(refine Zaa 145 rfl rfl rfl rfl rfl (Zej h3 _) ?_;rintro _ _ ⟨rfl,rfl⟩)|(refine Zaa 145 rfl rfl rfl rfl rfl (Zej h4 _) ?_;rintro _ _ ⟨rfl,rfl⟩)|refine Yaf ?_|refine Yag ?_|refine Yan ?_|refine Ya7 ?_|refine Ybb ?_|refine Yaq ?_|refine Yba (fun _ _ hS _ => ?_))|refine Ye2 ?_|refine Yab ?_|refine Yas ?_|refine Yam ?_)
     exact ⟨by simp [StatM.check,h1,h2,h3,h4],hS.drops⟩
    ·refine Zab Tryz.func88 rfl Tryz.ntmps88 rfl ?_
     repeat (first|refine Yes ?_|(refine X_id ?_;first|(refine Zaa 145 rfl rfl rfl rfl rfl (Zej h1 _) ?_;rintro _ _ ⟨rfl,rfl⟩)|(refine Zaa 145 rfl rfl rfl rfl rfl (Zej h2 _) ?_;rintro _ _ ⟨rfl,rfl⟩)|(refine Zaa 145 rfl rfl rfl rfl rfl (Zej h3 _) ?_;rintro _ _ ⟨rfl,rfl⟩)|(refine Zaa 145 rfl rfl rfl rfl rfl (Znn h4 _) ?_;rintro _ _ ⟨rfl,rfl⟩)|refine Yaf ?_|refine Yag ?_|refine Yan ?_|refine Ya7 ?_|refine Ybb ?_|refine Ybo ?_|refine Yaq ?_|refine Yba (fun _ _ hS _ => ?_))|refine Yew ?_|refine Yex ?_)
     exact ⟨by simp [StatM.check,h1,h2,h3,h4],hS.drops⟩
   ·refine Zab Tryz.func88 rfl Tryz.ntmps88 rfl ?_
    repeat (first|refine Yev ?_|(refine X_id ?_;first|(refine Zaa 145 rfl rfl rfl rfl rfl (Zej h1 _) ?_;rintro _ _ ⟨rfl,rfl⟩)|(refine Zaa 145 rfl rfl rfl rfl rfl (Zej h2 _) ?_;rintro _ _ ⟨rfl,rfl⟩)|(refine Zaa 145 rfl rfl rfl rfl rfl (Znn h3 _) ?_;rintro _ _ ⟨rfl,rfl⟩)|refine Yaf ?_|refine Yag ?_|refine Yan ?_|refine Ya9 ?_|refine Ybb ?_|refine Ybo ?_|refine Yaq ?_|refine Yba (fun _ _ hS _ => ?_))|refine Yew ?_|refine Yex ?_)
    exact ⟨by simp [StatM.check,h1,h2,h3],hS.drops⟩
  ·refine Zab Tryz.func88 rfl Tryz.ntmps88 rfl ?_
   repeat (first|refine Yeb ?_|(refine X_id ?_;first|(refine Zaa 145 rfl rfl rfl rfl rfl (Zej h1 _) ?_;rintro _ _ ⟨rfl,rfl⟩)|(refine Zaa 145 rfl rfl rfl rfl rfl (Znn h2 _) ?_;rintro _ _ ⟨rfl,rfl⟩)|refine Yag ?_|refine Yan ?_|refine Ybb ?_|refine Ybo ?_|refine Yaq ?_|refine Yba (fun _ _ hS _ => ?_))|refine Yew ?_|refine Yex ?_)
   exact ⟨by simp [StatM.check,h1,h2],hS.drops⟩
 ·refine Zab Tryz.func88 rfl Tryz.ntmps88 rfl ?_
  repeat (first|refine Yeb ?_|(refine X_id ?_;first|(refine Zaa 145 rfl rfl rfl rfl rfl (Znn h1 _) ?_;rintro _ _ ⟨rfl,rfl⟩)|refine Yag ?_|refine Yan ?_|refine Ybo ?_|refine Yaq ?_|refine Yba (fun _ _ hS _ => ?_))|refine Yez ?_|refine Yex ?_)
  exact ⟨by simp [StatM.check,h1],hS.drops⟩
theorem Zsb (s : StatM) (W : World) : Calls Tryz.prog 174 #[s.val] W (Ret fun v w => v = .int .i64 s.num ∧ St W noF [] w) := by
 have hc := Zqo s
 have hS := St.start W
 by_cases h : s.check = 0
 ·have h4 := StatM.check_ok h
  rw [h] at hc;refine Zab Tryz.func174 rfl Tryz.ntmps174 rfl ?_
  repeat (first|refine Yeb ?_|(refine X_id ?_;first|(refine Zac 88 rfl rfl rfl rfl rfl hS (hc _) ?_;rintro _ _ rfl hS)|refine Yag ?_|refine Yan ?_|refine Ybc ?_|refine Yaw ?_|refine Yb1 ?_|refine Yaq ?_|refine Ybi ?_|refine Yba (fun _ _ hS _ => ?_))|refine Ye1 ?_|refine Yed ?_)
  exact ⟨by simp [StatM.num,h],hS.drops⟩
 ·refine Zab Tryz.func174 rfl Tryz.ntmps174 rfl ?_
  repeat (first|refine Yeb ?_|(refine X_id ?_;first|(refine Zac 88 rfl rfl rfl rfl rfl hS (hc _) ?_;rintro _ _ rfl hS)|refine Yag ?_|refine Ybj ?_|refine Ybi ?_|refine Yba (fun _ _ hS _ => ?_))|refine Yet ?_|refine Yeu ?_)
  exact ⟨by simp [StatM.num,h],hS.drops⟩
theorem Zle {n : Int} {c k : Nat} (h : k < c) : (bigB n c).take (k + 1) = (bigB n c).take k ++ [Z0r n c k] := by
 rw [List.take_add_one]
 congr 1
 have hl : k < (bigB n c).length := by rw [Zag]; exact h
 have := Zpj n c k h c (Nat.le_refl _)
 rw [if_pos h] at this;have e : (bigB n c)[k] = (bigB n c).getD k 0 := by rw [List.getD_eq_getElem?_getD,List.getElem?_eq_getElem hl]; rfl
 rw [List.getElem?_eq_getElem hl,e];unfold bigB
 rw [this]; rfl
theorem Zm7 (n : Int) (c : Nat) (hc : c ≤ 64) (W : World) :
  Calls Tryz.prog 123 #[.int .i64 n,.int .i64 (c : Nat)] W (Ret fun v w => ∃ a k,v = .slice a c k ∧ c ≤ k ∧ St W noF [own 5 1 a k (bv (bigB n c))] w) := by
 have hS := St.start W
 refine Zab Tryz.func123 rfl Tryz.ntmps123 rfl ?_
 repeat (first|refine Yeb ?_|refine Yaf ?_|refine Yag ?_|refine Ybv ?_|refine Yee ?_|refine Yab ?_)
 refine Zaj (α := Nat × Option Addr × Nat) (fun z => [(0,.int .i64 n),(1,.int .i64 (c : Nat)),(5,.slice z.2.1 z.1 z.2.2),(6,.int .i64 ((c : Int) - 1 - (z.1 : Nat)))])
  (fun z w => z.1 ≤ c ∧ z.1 ≤ z.2.2 ∧ St W noF [own 5 1 z.2.1 z.2.2 (bv ((bigB n c).take z.1))] w) (fun z => c - z.1) (0,none,0) ⟨rfl,rfl,rfl,by simp [look],trivial⟩ ⟨Nat.zero_le _,Nat.le_refl _,hS.own_none _ _ _⟩ ?_
 clear hS;rintro ⟨i,a,k⟩ w ⟨hi,hk,hS⟩
 simp only at hi hk hS ⊢
 have htl : ((bigB n c).take i).length = i := by rw [List.length_take,Zag]; omega
 by_cases hlt : i < c
 ·have e8 : (8 * ((c : Int) - 1 - (i : Nat))).toNat = 8 * (c - 1 - i) := by omega
  repeat (first|refine Yeb ?_|(refine X_id ?_;first|refine Yaf ?_|refine Yb2 ?_|refine Yb1 ?_|refine Ycs ?_|refine Yc0 ?_|refine Ycp ?_|refine Ybe (fun _ _ hS _ => ?_))|refine Yef ?_|refine Yab ?_)
  rw [e8];repeat (first|fail)
  refine Zas (n := i) (m := 1) rfl rfl rfl rfl rfl hS (by simp [htl]) hk ((hS.rd (List.mem_cons_self ..)).own_row) (by simp) (by simp [Value.oneCell']) (by omega) (by simp only [maxLen]; omega) (fun a' c' w hS hc' _ => ?_)
  repeat (first|refine Yeb ?_|refine Yaf ?_|refine Yag ?_|refine Ybv ?_|refine Yad ?_|refine Yej ?_)
  have e1 : (c : Int) - 1 - ((i + 1 : Nat) : Int) = (c : Int) - 1 - (i : Nat) - 1 := by omega
  refine Zae (z := (i,a,k)) (i + 1,a',c') ⟨rfl,rfl,rfl,by simp only; rw [e1]; rfl,trivial⟩ ⟨by simp only; omega,hc',?_⟩ (by simp only; omega)
  rw [e8] at hS;show St W noF [own 5 1 a' c' (bv ((bigB n c).take (i + 1)))] w
  rw [Zle hlt,Zb8];have h := hS.pick [0]
  exact h
 ·obtain rfl : i = c := by omega
  rw [List.take_of_length_le (by rw [Zag]; omega)] at hS
  repeat (first|refine Yeb ?_|refine Yaf ?_|refine Yag ?_|refine Yb6 ?_|refine Yek ?_|refine Yfd ?_)
  exact ⟨a,k,rfl,hk,hS⟩
theorem Zqf (s : List UInt8) : Zal (bv (List.replicate 64 0)) 0 ((bv s).take 64) = bv (Zct s) := by
 unfold Zal Zct
 rw [List.take_append,Zb8,Zky];simp only [List.take_zero,List.nil_append,Nat.zero_add]
 congr 1
 rw [List.length_take,Zak,← Zfs,List.take_replicate,List.drop_replicate,Zfs]
 congr 2
 omega
theorem Znf (a : Option Addr) (c : Nat) (s : List UInt8) (W : World) (hs : Rd W (bytes a s)) :
  Calls Tryz.prog 64 #[.slice a s.length c] W (Ret fun v w => ∃ p,v = .slice (some ⟨p,0,none⟩) 64 64 ∧ St W noF [bytes (some ⟨p,0,none⟩) (Zct s)] w) := by
 have hS := St.start W
 have hso := hs.ro
 refine Zab Tryz.func64 rfl Tryz.ntmps64 rfl ?_
 repeat (first|refine Yeb ?_|refine Yag ?_|refine Yec ?_|refine Yab ?_)
 refine Zny (c := 64) rfl rfl rfl (by omega) (by omega) rfl rfl hS (fun p w hS => ?_)
 repeat (first|refine Yeb ?_|refine Yeq ?_|refine Yec ?_|refine Yab ?_)
 refine Zpz rfl rfl rfl rfl rfl hS (hso.rd hS) (by simp) Zdb (by simp) (fun w hS => ?_)
 rw [Zqf] at hS;repeat (first|refine Yeb ?_|refine Yeq ?_|refine Yep ?_|refine Yed ?_)
 exact ⟨p,rfl,hS.head Zgp⟩
theorem Zsp (n : Nat) (W : World) (hn : n ≤ 1099511627776) : Calls Tryz.prog 129 #[.int .i64 (n : Nat)] W (Ret fun v w => v = .int .i64 (nblk n : Nat) ∧ W = w) := by
 by_cases h0 : n = 0
 ·subst h0
  refine Zab Tryz.func129 rfl Tryz.ntmps129 rfl ?_
  repeat (first|refine Yeb ?_|refine Yaf ?_|refine Yag ?_|refine Ya1 ?_|refine Yet ?_|refine Yeu ?_)
  exact ⟨rfl,rfl⟩
 ·have e : ((nblk n : Nat) : Int) = ((n : Int) - 1) / 64 + 1 := by unfold nblk; omega
  rw [e];refine Zab Tryz.func129 rfl Tryz.ntmps129 rfl ?_
  repeat (first|refine Yeb ?_|(refine X_id ?_;first|refine Yaf ?_|refine Yag ?_|refine Yaz ?_|refine Yaw ?_|refine Ybv ?_|refine Yc6 ?_)|refine Ye1 ?_|refine Yed ?_)
  exact ⟨rfl,rfl⟩
end Cr
namespace Cr
open Go
set_option maxHeartbeats 64000000
theorem Sep.merge {r s t : Res} {rs : List Res} {h : Frag} (H : Sep (r :: s :: rs) h) (hm : ∀ h1 h3,r h1 → s h3 → (∀ k,h1 k = none ∨ h3 k = none) → t (fun k => (h1 k).or (h3 k))) : Sep (t :: rs) h := by
 obtain ⟨h1,h2,a,⟨h3,h4,b,c,d',u'⟩,d,u⟩ := H
 refine ⟨fun k => (h1 k).or (h3 k),h4,hm h1 h3 a b fun k => ?_,c,fun k => ?_,fun k => ?_⟩
 ·rcases d k with e | e
  ·exact .inl e
  ·rw [u'] at e; simp at e; exact .inr e.1
 ·rcases d k with e | e
  ·rcases d' k with e' | e'
   ·left; simp [e,e']
   ·exact .inr e'
  ·rw [u'] at e; simp at e; exact .inr e.2
 ·rw [u,u']; cases e1 : h1 k <;> simp [e1]
theorem St.merge {W : World} {F : Nat → Prop} {r s t : Res} {rs : List Res} {w : World} (hS : St W F (r :: s :: rs) w) (hm : ∀ h1 h3,r h1 → s h3 → (∀ k,h1 k = none ∨ h3 k = none) → t (fun k => (h1 k).or (h3 k))) : St W F (t :: rs) w :=
 hS.imp fun _ h => h.merge hm
abbrev RowD := Option Addr × List Value
def bag (X : List RowD) : Res := fun h => ∀ x ∈ X,∃ h',row x.1 x.2 h' ∧ ∀ b o,h' b = some o → h b = some o
theorem Ro.bag {W : World} {F : Nat → Prop} {X : List RowD} (H : Ro W F (Cr.bag X)) {x : RowD} (hx : x ∈ X) : Ro W F (row x.1 x.2) := H.mono fun _ hh => hh x hx
theorem Rd.bag {w : World} {X : List RowD} (H : Rd w (Cr.bag X)) {x : RowD} (hx : x ∈ X) : Rd w (row x.1 x.2) := H.mono fun _ hh => hh x hx
theorem Z3v (h : Frag) : bag [] h := fun x hx => by cases hx
section
variable {W : World} {F : Nat → Prop} {rs : List Res} {w : World}
theorem St.bagSub {X Y : List RowD} (hS : St W F (bag X :: rs) w) (h : ∀ x ∈ Y,x ∈ X) : St W F (bag Y :: rs) w := hS.head fun _ hg x hx => hg x (h x hx)
theorem St.bagNil (hS : St W F rs w) : St W F (bag [] :: rs) w := by
 obtain ⟨h,hs,s⟩ := hS
 exact ⟨h,⟨fun _ => none,h,Z3v _,hs,fun _ => .inl rfl,fun _ => by simp⟩,s⟩
theorem Zv8 {h1 h3 : Frag} {b : Nat} {o : Obj} (e : h1 b = some o) : (h1 b).or (h3 b) = some o := by rw [e]; rfl
theorem Zr7 {h1 h3 : Frag} (d : ∀ k,h1 k = none ∨ h3 k = none) {b : Nat} {o : Obj} (e : h3 b = some o) : (h1 b).or (h3 b) = some o := by
 rcases d b with e' | e'
 ·rw [e',e]; rfl
 ·rw [e'] at e; cases e
theorem St.bagJoin {X Y : List RowD} (hS : St W F (bag X :: bag Y :: rs) w) : St W F (bag (X ++ Y) :: rs) w :=
 hS.merge fun h1 h3 a b d x hx => by
  rcases List.mem_append.1 hx with hx | hx
  ·obtain ⟨h',hr,hs⟩ := a x hx
   exact ⟨h',hr,fun b o e => Zv8 (hs b o e)⟩
  ·obtain ⟨h',hr,hs⟩ := b x hx
   exact ⟨h',hr,fun b o e => Zr7 d (hs b o e)⟩
theorem St.toBag {r : Res} {a : Option Addr} {cs : List Value} (hS : St W F (r :: rs) w) (hr : ∀ h,r h → row a cs h) : St W F (bag [(a,cs)] :: rs) w :=
 hS.head fun h hg x hx => by
  rw [List.mem_singleton] at hx; subst hx
  exact ⟨h,hr h hg,fun _ _ e => e⟩
theorem St.bagAdd {r : Res} {a : Option Addr} {cs : List Value} {X : List RowD} (hS : St W F (r :: bag X :: rs) w) (hr : ∀ h,r h → row a cs h) : St W F (bag ((a,cs) :: X) :: rs) w :=
 (hS.toBag hr).bagJoin
theorem St.bagPart {X : List RowD} {a a' : Option Addr} {cs cs' : List Value} (hS : St W F (bag X :: rs) w) (hx : (a,cs) ∈ X) (hp : ∀ h,row a cs h → ∃ h',row a' cs' h' ∧ ∀ b o,h' b = some o → h b = some o) : St W F (bag ((a',cs') :: X) :: rs) w :=
 hS.head fun h hg x hx' => by
  rcases List.mem_cons.1 hx' with rfl | hx'
  ·obtain ⟨h1,hr,hs⟩ := hg _ hx
   obtain ⟨h2,hr2,hs2⟩ := hp h1 hr
   exact ⟨h2,hr2,fun b o e => hs b o (hs2 b o e)⟩
  ·exact hg x hx'
theorem own.shrink {T : TypeId} {e : Nat} {a : Option Addr} {c : Nat} {cs : List Value} (k : Nat) : ∀ h,own T e a c cs h → own T e a c (cs.take k) h := fun h H => by
 obtain ⟨hl,hm,H⟩ := H
 refine ⟨by rw [List.length_take]; omega,hm,H.imp id fun ⟨b,cells,ha,hh,hs,ht⟩ => ⟨b,cells,ha,hh,hs,?_⟩⟩
 rw [List.length_take,← List.take_take,ht]
end
end Cr
