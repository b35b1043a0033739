/-
  Layer 4 (wal): found.
  Layer 4 (wal): redo.
  sync.Mutex,sync.Once,as one goroutine meets them.
  Layer 4 (wal): Once.Do at Open; Open.
  Layer 4 (wal): Open,Read.
  Layer 4 (wal): Commit.
  Places that are met twice.
  A disk that is on and not armed: what writes and flushes leave on it. No program is in sight.
  What a transaction leaves behind on a disk that is on and not armed (as Pl1,without the document's check). No program is in sight.
  Layer 7 (inode) in plain words: nodes,their sectors,and how changes are applied. No program is in sight.
  Layer 6 (mode): Check,Number,Of.
  Layer 7 (inode): numbers,sectors.
  The library's slices.Grow and slices.Concat,of bytes.
-/
import Derived.Test.YtpbgaojjlepkcaaGreatDoorAbn7
import Derived.Test.YtpbgaojjlepkcaaGreatDoorAbn6
import Derived.Laws.LoneSync
import Derived.Test.YtpbgaojjlepkcaaGreatDoorAbn3
import Derived.Test.YtpbgaojjlepkcaaGreatDoorAbn4
import Derived.Test.YtpbgaojjlepkcaaGreatDoorAbn5
namespace Cr
open Go Go.Proofs
set_option maxRecDepth 100000
set_option maxHeartbeats 64000000
attribute [local irreducible] Calls
instance : NoGuard Tryz.prog 79 := ⟨by kernel_rfl⟩

theorem Z1n (D : DiskM) (hok : D.ok) (j : Nat) (number at_ : Int) : (entM D j number at_).d.length = 32 := by
 unfold entM
 split
 ·simp [Ent.none]
 ·split
  ·simp [Ent.none]
  ·rename_i h
   have h1 : (D.read (1 + 2 * at_)).1 = 0 := Decidable.byContradiction fun e => h (.inl e)
   have := Zio hok h1
   simp [Zvg,this]
theorem Zxm {D : DiskM} {j : Nat} {number at_ : Int} (h : (entM D j number at_).ok = true) : 0 ≤ at_ ∧ at_ < (j : Int) / 2 := by
 unfold entM at h
 split at h
 ·simp [Ent.none] at h
 ·rename_i h'; omega
theorem Z5m (D : DiskM) (hok : D.ok) (j : Nat) (number at_ : Int) : (entM D j number at_).b.length ≤ 64 := by
 unfold entM
 split
 ·simp [Ent.none]
 ·split
  ·simp [Ent.none]
  ·rename_i h
   have h1 : (D.read (1 + 2 * at_ + 1)).1 = 0 := Decidable.byContradiction fun e => h (.inr e)
   have := Zio hok h1
   simp [Zvg,this]
theorem Zh2 (number : Int) (d : List (Int × List UInt8)) (h : ∀ x ∈ d,x.2.length ≤ 64) : (Zbu (Zgh number d)).length ≤ 20 + d.length * 76 := by
 have key : ∀ d : List (Int × List UInt8),(∀ x ∈ d,x.2.length ≤ 64) → (Zbu (d.flatMap fun v => [bigB v.1 4,v.2])).length ≤ d.length * 76 := by
  intro d
  induction d with
  | nil => intro _; simp [Zbu]
  | cons x d ih =>
   intro h
   have h1 := ih fun y hy => h y (List.mem_cons_of_mem _ hy)
   have h2 := h x (List.mem_cons_self ..)
   simp only [Zbu,List.flatMap_cons,List.cons_append,List.nil_append,List.length_append,Zcf,Zag,List.length_cons] at h1 ⊢
   omega
 have h1 := key d h
 unfold Zbu at h1
 simp only [Zgh,Zbu,List.flatMap_cons,List.cons_append,List.nil_append,List.length_append,Zcf,Zag]
 omega
def entW (e : Ent) : Int × List UInt8 := (e.no,e.b)
def Zkz (e0 e : Ent) : Bool := e.ok && decide (e.count = e0.count) && decide (e.d = e0.d)
def Zdd (D : DiskM) (j : Nat) (number : Int) (n : Nat) : List Ent := (List.range n).map fun i => entM D j number (i : Nat)
theorem Zqk (D : DiskM) (j : Nat) (number : Int) (n : Nat) : Zdd D j number (n + 1) = Zdd D j number n ++ [entM D j number (n : Nat)] := by simp [Zdd,List.range_succ]
def Zqh (D : DiskM) (j : Nat) (number : Int) : Option (List (Int × List UInt8)) :=
 if (entM D j number 0).ok = true ∧ 1 ≤ (entM D j number 0).count then
  if (Zdd D j number (entM D j number 0).count.toNat).all (Zkz (entM D j number 0)) = true then some ((Zdd D j number (entM D j number 0).count.toNat).map entW) else none
 else none
def Zdt (rd fs : List Int) (D : DiskM) (j : Nat) (number : Int) : List (Int × List UInt8) :=
 match Zqh D j number with
 | none => []
 | some ws => if Zch ws = 0 ∧ sumB rd fs number ws = (entM D j number 0).d then ws else []
theorem Zsj {D : DiskM} {j : Nat} {number : Int} {e0 : Ent} {n i : Nat} (hi : i < n) (h : Zkz e0 (entM D j number (i : Nat)) = false) : (Zdd D j number n).all (Zkz e0) = false := by
 rw [List.all_eq_false];exact ⟨_,List.mem_map.2 ⟨i,List.mem_range.2 hi,rfl⟩,by simp [h]⟩
theorem Z5h (lp p : Nat) (o s m : Int) (j : Nat) (done : Int) (rdn : Bool) (D : DiskM) (number : Int) (rd fs : List Int) (W : World) (hG : Gl W noF rd fs) (hL : Rd W (Zcm lp p o s m j done rdn)) (hD : Rd W (disk p D)) (hj : j ≤ 4096) (hline : D.line.length < 1073741824) :
  Calls Tryz.prog 132 #[.pointer (some ⟨lp,0,none⟩),.int .i64 number] W (Ret fun v w => ∃ a c ws O,v = .slice a ws.length c ∧ ws.map Wr.data = Zdt rd fs D j number ∧ (a = none ↔ ws = []) ∧ (∀ v ∈ ws,v.x ∈ O) ∧
   St W noF [own 185 2 a c (ws.flatMap Wr.cells),rds O] w) := by
 have hS := St.start W
 have hLo := hL.ro
 have hDo := hD.ro
 have hok := hD.disk.1
 obtain ⟨e0,he0⟩ : ∃ e0,e0 = entM D j number 0 := ⟨_,rfl⟩
 have hd0 : e0.d.length = 32 := he0 ▸ Z1n D hok j number 0
 have hl0 : LenO (bv e0.d) 32 := ⟨by simp [hd0]⟩
 have hnil : ∀ w,St W noF [] w → Zdt rd fs D j number = [] → ∃ a c ws O,(Value.slice none 0 0) = .slice a ws.length c ∧ ws.map Wr.data = Zdt rd fs D j number ∧ (a = none ↔ ws = []) ∧ (∀ v ∈ ws,v.x ∈ O) ∧
   St W noF [own 185 2 a c (ws.flatMap Wr.cells),rds O] w := fun w h e => ⟨none,0,[],[],rfl,by rw [e]; rfl,by simp,by simp,h.rdsNil.own_none _ _ _⟩
 refine Zab Tryz.func132 rfl Tryz.ntmps132 rfl ?_
 repeat (first|refine Yea ?_|refine Yen ?_|refine Yae ?_|refine Ycj ?_|refine Yad ?_|refine Yab ?_)
 refine Zaa _ rfl rfl rfl rfl rfl (Z1m lp p o s m j done rdn D number 0 _ (hLo.rd hS) (hDo.rd hS) hj hline (by omega)) ?_
 rintro _ w ⟨a0,c0,rfl,hc0,hS'⟩
 replace hS := hS.plus hS';clear hS';rw [← he0] at hS hc0 ⊢;have hfl : Zqh D j number = if e0.ok = true ∧ 1 ≤ e0.count then if (Zdd D j number e0.count.toNat).all (Zkz e0) = true then some ((Zdd D j number e0.count.toNat).map entW) else none else none := by unfold Zqh; rw [← he0]
 obtain ⟨no0,b0,n0,d0,ok0⟩ := e0
 simp only at hd0 hl0 hfl hS hc0
 unfold Ent.val
 simp only
 cases ok0
 ·repeat (first|refine Yep ?_|(refine X_id ?_;first|refine Yaf ?_|refine Yag ?_|refine Yat ?_|refine Ya8 ?_|refine Ybq ?_|refine Yao (fun _ hS _ => ?_)|refine Yar (fun _ _ hS _ => ?_))|refine Yek ?_|refine Ye2 ?_)
  refine hnil _ hS.drops ?_
  unfold Zdt
  rw [hfl,if_neg (by simp)]
 ·by_cases h1 : n0 < 1
  ·repeat (first|refine Yer ?_|(refine X_id ?_;first|refine Yaf ?_|refine Yag ?_|refine Yat ?_|refine Ya1 ?_|refine Ybd ?_|refine Ya2 ?_|refine Yao (fun _ hS _ => ?_)|refine Yar (fun _ _ hS _ => ?_))|refine Yek ?_|refine Ye2 ?_)
   refine hnil _ hS.drops ?_
   unfold Zdt
   rw [hfl,if_neg (by omega)]
  ·repeat (first|refine Yer ?_|(refine X_id ?_;first|refine Yaf ?_|refine Yag ?_|refine Yat ?_|refine Ya1 ?_|refine Ybd ?_|refine Ya6 ?_|refine Yao (fun _ hS _ => ?_)|refine Yar (fun _ _ hS _ => ?_))|refine Yae ?_|refine Zhh ?_|refine Yad ?_|refine Yal ?_|refine Yak ?_|refine Yai ?_|refine Yab ?_)
   rename_i b6 w6 _ _ b8 w8 _ _ w9 _ _ w10 _;replace hS := (hS.pick [0]).rdsNil.own_none 185 2 none
   rw [if_pos ⟨rfl,by omega⟩] at hfl;have hbad : ∀ i : Nat,i < n0.toNat → Zkz ⟨no0,b0,n0,d0,true⟩ (entM D j number (i : Nat)) = false → Zdt rd fs D j number = [] := fun i hi h => by
    unfold Zdt
    rw [hfl,if_neg (by rw [Zsj hi h]; simp)]
   refine Zal (α := Nat × Option Addr × Nat × List Wr × List Bs) (fun z => [(0,.pointer (some ⟨lp,0,none⟩)),(1,.int .i64 number),(5,.slice z.2.1 z.2.2.2.1.length z.2.2.1),(7,.int .i64 n0),(8,.pointer (some ⟨b8,0,none⟩)),(10,.int .i64 (z.1 : Nat))])
    (fun z w => (z.1 ≤ n0.toNat ∧ z.1 ≤ 2048 ∧ z.2.2.2.1.length = z.1 ∧ z.2.2.2.1.length ≤ z.2.2.1) ∧ (z.2.2.2.1.map Wr.data = (Zdd D j number z.1).map entW ∧ (Zdd D j number z.1).all (Zkz ⟨no0,b0,n0,d0,true⟩) = true ∧ (z.2.1 = none ↔ z.1 = 0) ∧ (∀ v ∈ z.2.2.2.1,v.x ∈ z.2.2.2.2) ∧ (∀ v ∈ z.2.2.2.1,v.x.s.length ≤ 64)) ∧
     St W noF [own 185 2 z.2.1 z.2.2.1 (z.2.2.2.1.flatMap Wr.cells),rds z.2.2.2.2,pts b8 (.cells (bv d0).toArray 79)] w) (fun z => n0.toNat - z.1)
    (0,none,0,[],[]) ⟨rfl,rfl,rfl,rfl,rfl,rfl,trivial⟩ ⟨⟨Nat.zero_le _,Nat.zero_le _,rfl,Nat.le_refl _⟩,⟨rfl,rfl,by simp,by simp,by simp⟩,hS⟩ ?_
   clear hS;rintro ⟨i,a5,c5,ws,O⟩ w ⟨⟨hi,hi2,hwl,hwc⟩,⟨hwd,hgood,hnone,hO,hw64⟩,hS⟩
   simp only at hi hi2 hwl hwc hwd hgood hnone hO hw64 hS ⊢
   by_cases hlt : i < n0.toNat
   ·have hlt' : (i : Int) < n0 := by omega
    repeat (first|refine Yea ?_|refine Yaf ?_|refine Ya2 ?_|refine Yee ?_|refine Yab ?_)
    refine Zaa _ rfl rfl rfl rfl rfl (Z1m lp p o s m j done rdn D number (i : Nat) _ (hLo.rd hS) (hDo.rd hS) hj hline (by omega)) ?_
    rintro _ w ⟨a1,c1,rfl,hc1,hS'⟩
    replace hS := hS.plus hS';clear hS';have hok1 := fun h => (Zxm (D := D) (j := j) (number := number) (at_ := (i : Nat)) h)
    have hsucc := Zqk D j number i
    have hd1 := Z1n D hok j number (i : Nat)
    have hbadi := hbad i hlt
    have hb1 := Z5m D hok j number (i : Nat)
    generalize entM D j number (i : Nat) = e1 at hS hc1 hok1 hsucc hd1 hbadi hb1 ⊢;obtain ⟨no1,b1,n1,d1,ok1⟩ := e1
    simp only at hd1 hS hc1 hok1 hb1
    have hl1 : LenO (bv d1) 32 := ⟨by simp [hd1]⟩
    unfold Ent.val
    simp only
    cases ok1
    ·have hf := hbadi (by simp [Zkz])
     repeat (first|refine Yep ?_|(refine X_id ?_;first|refine Yaf ?_|refine Yag ?_|refine Yat ?_|refine Ya8 ?_|refine Ybq ?_|refine Yao (fun _ hS _ => ?_)|refine Yar (fun _ _ hS _ => ?_))|refine Yae ?_|refine Yad ?_|refine Ya9 ?_|refine Yaj ?_|refine Ye5 ?_)
     refine Zam (.s 0 (.s 1 (.s 2 (.s 3 (.h 4 (.s 5 (.s 6 (.s 7 (.s 8 (.s 9 (.s 11 (.h 10 (.s 12 (.s 13 .nil)) .no))))))) .no))))) mixed (by kernel_rfl) rfl ?_
     have hS := hS.drew
     repeat (first|refine Yea ?_|refine Yag ?_|refine Yek ?_|refine Ye2 ?_|(refine Zae ?_;first|refine Yay ?_|refine Ya3 ?_|refine Ycb ?_|refine Ydq ?_|refine Ycw ?_|refine Ycc ?_))
     exact hnil _ hS.drops hf
    ·by_cases hn : n1 = n0
     ·by_cases hd : d1 = d0
      ·subst hn hd
       repeat (first|refine Yer ?_|(refine X_id ?_;first|refine Yaf ?_|refine Yag ?_|refine Yat ?_|refine Ya1 ?_|refine Ybd ?_|refine Ya4 ?_|refine Ybg ?_|refine Yao (fun _ hS _ => ?_)|refine Yar (fun _ _ hS _ => ?_))|refine Yeb ?_|refine Yab ?_)
       refine X_yl (Zia rfl rfl rfl hd1 hd0) rfl rfl ?_
       rw [decide_eq_false (not_not_intro rfl)];repeat (first|refine Yea ?_|refine Yaf ?_|refine Ya1 ?_|refine Ybg ?_|refine Ybn (fun _ _ hS _ => ?_)|refine Yet ?_|refine Yab ?_)
       have hok2 := hok1 rfl
       refine Zar rfl rfl rfl rfl rfl hS (Zek (f := Wr.cells) (n := 2) fun _ _ => rfl) hwc (hS.rd (List.mem_cons_self ..)).own_row rfl (fun u hu => by
        simp only [List.mem_cons,List.not_mem_nil,or_false] at hu
        rcases hu with rfl | rfl <;> rfl) (by omega) (by simp only [maxLen]; omega) (fun a' c' w hS hc' hnil' => ?_)
       repeat (first|refine Yea ?_|refine Yes ?_|refine Yad ?_|refine Yei ?_)
       refine Zaf (z := (i,a5,c5,ws,O)) (i + 1,a',c',ws ++ [(⟨no1,⟨a1,c1,b1⟩⟩ : Wr)],O ++ [(⟨a1,c1,b1⟩ : Bs)]) ⟨rfl,rfl,?_,rfl,rfl,rfl,trivial⟩ ⟨⟨by simp only; omega,by simp only; omega,by simp; omega,by simp; omega⟩,⟨?_,?_,?_,?_,?_⟩,?_⟩ (by simp only; omega)
       ·show some _ = some _
        simp
       ·show (ws ++ _).map Wr.data = _
        rw [hsucc,List.map_append,List.map_append,hwd]
        rfl
       ·show (Zdd D j number (i + 1)).all _ = true
        rw [hsucc,List.all_append,hgood];simp [Zkz]
       ·show a' = none ↔ i + 1 = 0
        rw [hnil']; simp
       ·intro v hv
        simp only [List.mem_append,List.mem_singleton] at hv ⊢
        rcases hv with hv | rfl
        ·exact .inl (hO v hv)
        ·exact .inr rfl
       ·intro v hv
        simp only [List.mem_append,List.mem_singleton] at hv
        rcases hv with hv | rfl
        ·exact hw64 v hv
        ·exact hb1
       ·skip
        have hS := hS.pick [4,4,0,3]
        replace hS := St.rdsCons (x := ⟨a1,c1,b1⟩) hS
        have hS := hS.pick [1,0,0]
        simpa [Wr.cells] using hS
      ·have hf := hbadi (by simp [Zkz,hd])
       repeat (first|refine Yer ?_|(refine X_id ?_;first|refine Yaf ?_|refine Yag ?_|refine Yat ?_|refine Ya1 ?_|refine Ybd ?_|refine Ya4 ?_|refine Ybg ?_|refine Yao (fun _ hS _ => ?_)|refine Yar (fun _ _ hS _ => ?_))|refine Yeb ?_|refine Yab ?_)
       refine X_yl (Zia rfl rfl rfl hd1 hd0) rfl rfl ?_
       rw [decide_eq_true hd];repeat (first|refine Yea ?_|refine Yag ?_|refine Ya1 ?_|refine Yae ?_|refine Yad ?_|refine Ya9 ?_|refine Yaj ?_|refine Ye5 ?_)
       refine Zam (.s 0 (.s 1 (.s 2 (.s 3 (.h 4 (.s 5 (.s 6 (.s 7 (.s 8 (.s 9 (.s 11 (.h 10 (.s 12 (.s 13 .nil)) .no))))))) .no))))) mixed (by kernel_rfl) rfl ?_
       have hS := hS.drew
       repeat (first|refine Yea ?_|refine Yag ?_|refine Yek ?_|refine Ye2 ?_|(refine Zae ?_;first|refine Yay ?_|refine Ya3 ?_|refine Ycb ?_|refine Ydq ?_|refine Ycw ?_|refine Ycc ?_))
       exact hnil _ hS.drops hf
     ·have hf := hbadi (by simp [Zkz,hn])
      repeat (first|refine Yeu ?_|(refine X_id ?_;first|refine Yaf ?_|refine Yag ?_|refine Yat ?_|refine Ya8 ?_|refine Ya1 ?_|refine Ybd ?_|refine Ybj ?_|refine Yao (fun _ hS _ => ?_)|refine Yar (fun _ _ hS _ => ?_))|refine Yae ?_|refine Yad ?_|refine Ya9 ?_|refine Yaj ?_|refine Ye5 ?_)
      refine Zam (.s 0 (.s 1 (.s 2 (.s 3 (.h 4 (.s 5 (.s 6 (.s 7 (.s 8 (.s 9 (.s 11 (.h 10 (.s 12 (.s 13 .nil)) .no))))))) .no))))) mixed (by kernel_rfl) rfl ?_
      have hS := hS.drew
      repeat (first|refine Yea ?_|refine Yag ?_|refine Yek ?_|refine Ye2 ?_|(refine Zae ?_;first|refine Yay ?_|refine Ya3 ?_|refine Ycb ?_|refine Ydq ?_|refine Ycw ?_|refine Ycc ?_))
      exact hnil _ hS.drops hf
   ·obtain rfl : i = n0.toNat := by omega
    have hn0 : ((n0.toNat : Nat) : Int) = n0 := by omega
    obtain ⟨ad,rfl⟩ : ∃ ad,a5 = some ad := by
     cases a5 with
     | none => have := hnone.1 rfl; omega
     | some ad => exact ⟨ad,rfl⟩
    obtain ⟨d,hd⟩ : ∃ d,d = ws.map Wr.data := ⟨_,rfl⟩
    rw [if_pos hgood,← hwd,← hd] at hfl;have hfm : Zdt rd fs D j number = if Zch d = 0 ∧ sumB rd fs number d = d0 then d else [] := by
     unfold Zdt
     rw [hfl,← he0]
    have hdw : d.length = ws.length := by rw [hd]; simp
    have hfr := Zh2 number d (fun x hx => by
     rw [hd] at hx;obtain ⟨v,hv,rfl⟩ := List.mem_map.1 hx
     exact hw64 v hv)
    have hWW : ∀ w rs,St W noF (own 185 2 (some ad) c5 (ws.flatMap Wr.cells) :: rds O :: rs) w → Wrs w noF (some ad) ws := fun w rs h => ⟨(h.rd (List.mem_cons_self ..)).own_row.ro,fun v hv => (h.rd (List.mem_cons_of_mem _ (List.mem_cons_self ..))).ro.rds _ (hO v hv)⟩
    repeat (first|refine Yea ?_|refine Yaf ?_|refine Ya6 ?_|refine Yeq ?_|refine Yeg ?_)
    refine Zam (.s 0 (.s 1 (.s 2 (.s 3 (.h 4 (.s 5 (.s 6 (.s 7 (.s 8 (.s 9 (.s 11 (.h 10 (.s 12 (.s 13 .nil)) .no))))))) .no))))) mixed (by kernel_rfl) rfl ?_
    have hS := hS.drew
    repeat (first|(refine Zae ?_;first|refine Ya3 ?_|refine Ydq ?_|refine Yb6 ?_|refine Ycx ?_))
    refine Zad _ rfl rfl rfl rfl rfl hS (Zk8 (some ad) c5 ws _ (hWW _ _ hS) (by omega) (fun v hv => by have := hw64 v hv; omega)) ?_
    rintro _ w rfl hS
    rw [← hd];by_cases hck : Zch d = 0
    ·repeat (first|(refine Zae ?_;first|refine Ya3 ?_|refine Yb7 ?_|refine Yb6 ?_|refine Zbv rfl rfl rfl rfl (fun _ => Zh9 rfl rfl rfl (by omega)) rfl rfl ?_|refine Ycx ?_|refine Ydv ?_)|(refine Zac ?_;first|refine Yaz ?_))
     refine Zad _ rfl rfl rfl rfl rfl hS (Z33 number (some ad) c5 ws rd fs _ (hG.mono fun r hr => (hr.rd hS).ro) (hWW _ _ hS) (by omega) (by rw [← hd]; omega)) ?_
     rintro _ w rfl hS
     rw [← hd];repeat (first|(refine Zac ?_;first|refine Yaz ?_))
     refine Zbv rfl rfl rfl rfl (fun _ => Zia rfl rfl rfl (Zkf ..) hd0) rfl rfl ?_
     by_cases hsm : sumB rd fs number d = d0
     ·rw [decide_eq_false (not_not_intro hsm)]
      repeat (first|refine Yea ?_|refine Yen ?_|refine Yfa ?_|refine Yab ?_|refine Yb4 ?_|refine Yam ?_|(refine Zae ?_;first|refine Yay ?_|refine Yb7 ?_))
      refine ⟨some ad,c5,ws,O,rfl,?_,?_,hO,hS.pick [0,0]⟩
      ·rw [hfm,if_pos ⟨hck,hsm⟩,hd]
      ·constructor
       ·intro h; cases h
       ·intro h; rw [h] at hwl; simp at hwl; omega
     ·rw [decide_eq_true hsm]
      repeat (first|refine Yea ?_|refine Yag ?_|refine Yek ?_|refine Ye2 ?_|(refine Zae ?_;first|refine Yay ?_|refine Yb7 ?_))
      exact hnil _ hS.drops (by rw [hfm,if_neg (fun h => hsm h.2)])
    ·repeat (first|refine Yea ?_|refine Yag ?_|refine Yek ?_|refine Ye2 ?_|(refine Zae ?_;first|refine Yay ?_|refine Ya3 ?_|refine Ycb ?_|refine Yb7 ?_|refine Zbv rfl rfl rfl rfl (fun _ => Zj2 rfl rfl rfl (by omega)) rfl rfl ?_|refine Ycw ?_|refine Ycc ?_)|(refine Zac ?_;first|refine Yaz ?_))
     exact hnil _ hS.drops (by rw [hfm,if_neg (fun h => hck h.1)])
theorem Zfb {d : List (Int × List UInt8)} (h : Zch d = 0) : ∀ x ∈ d,0 ≤ x.1 ∧ x.2.length = 64 := by
 intro x hx
 unfold Zch at h
 by_cases ha : d.any badW = true
 ·rw [if_pos ha] at h; cases h
 ·have : badW x = false := by
   cases hb : badW x
   ·rfl
   ·exact absurd (List.any_eq_true.2 ⟨x,hx,hb⟩) ha
  unfold badW at this
  simp only [Bool.or_eq_false_iff,decide_eq_false_iff_not] at this
  omega
theorem Z0m {D : DiskM} {j : Nat} {number at_ : Int} (h : (entM D j number at_).ok = true) : (entM D j number at_).no < (D.laid.length : Int) - 1 - j := by
 unfold entM at h ⊢
 split at h
 ·simp [Ent.none] at h
 ·rename_i h1
  rw [if_neg h1]
  split at h
  ·simp [Ent.none] at h
  ·rename_i h2
   rw [if_neg h2];simp only [Zvg,Bool.and_eq_true,decide_eq_true_eq] at h ⊢
   exact h.2
theorem Zvc (rd fs : List Int) (D : DiskM) (j : Nat) (number : Int) : (∀ x ∈ Zdt rd fs D j number,0 ≤ x.1 ∧ x.1 < (D.laid.length : Int) - 1 - j ∧ x.2.length = 64) ∧ ((Zdt rd fs D j number).length : Int) ≤ (j : Int) / 2 := by
 unfold Zdt
 cases hf : Zqh D j number with
 | none => simp; omega
 | some ws =>
  simp only
  split
  ·rename_i hc
   unfold Zqh at hf
   split at hf
   ·split at hf
    ·rename_i h1 h2
     simp only [Option.some.injEq] at hf
     have hall := List.all_eq_true.1 h2
     have hg : ∀ e ∈ Zdd D j number (entM D j number 0).count.toNat,e.ok = true := fun e he => by
      have := hall e he
      simp only [Zkz,Bool.and_eq_true] at this
      exact this.1.1
     constructor
     ·intro x hx
      have h3 := Zfb hc.1 x hx
      refine ⟨h3.1,?_,h3.2⟩
      rw [← hf] at hx;obtain ⟨e,he,rfl⟩ := List.mem_map.1 hx
      obtain ⟨i,hi,rfl⟩ := List.mem_map.1 he
      exact Z0m (hg _ he)
     ·rw [← hf]
      simp only [List.length_map,Zdd,List.length_range]
      rcases Nat.eq_zero_or_pos (entM D j number 0).count.toNat with h0 | h0
      ·rw [h0]; omega
      ·have := hg (entM D j number ((entM D j number 0).count.toNat - 1 : Nat)) (List.mem_map.2 ⟨_,List.mem_range.2 (by omega),rfl⟩)
       have := (Zxm this).2
       omega
    ·cases hf
   ·cases hf
  ·simp; omega

structure RedoM where
 e : Int
 D : DiskM
 done : Int
 redone : Bool
def last : Int := 1152921504606846976
def Zeb (rd fs : List Int) (D : DiskM) (j : Nat) (done : Int) (rdn : Bool) : RedoM :=
 if ¬ (D.read 0).1 = 0 then ⟨(D.read 0).1,D,done,rdn⟩ else
 if (Zba rd fs (D.read 0).2).2 = false then ⟨5,D,done,rdn⟩ else
 if last ≤ (Zba rd fs (D.read 0).2).1 then ⟨0,D,(Zba rd fs (D.read 0).2).1,rdn⟩ else
 if Zdt rd fs D j ((Zba rd fs (D.read 0).2).1 + 1) = [] then
  ⟨(Zqs D ((Zba rd fs (D.read 0).2).1 + 1)).1,(Zqs D ((Zba rd fs (D.read 0).2).1 + 1)).2,(Zba rd fs (D.read 0).2).1,rdn⟩
 else
  ⟨(layM rd fs j (0,D) ((Zba rd fs (D.read 0).2).1 + 1) (Zdt rd fs D j ((Zba rd fs (D.read 0).2).1 + 1))).1,(layM rd fs j (0,D) ((Zba rd fs (D.read 0).2).1 + 1) (Zdt rd fs D j ((Zba rd fs (D.read 0).2).1 + 1))).2,
   if (layM rd fs j (0,D) ((Zba rd fs (D.read 0).2).1 + 1) (Zdt rd fs D j ((Zba rd fs (D.read 0).2).1 + 1))).1 = 0 then (Zba rd fs (D.read 0).2).1 + 1 else (Zba rd fs (D.read 0).2).1,true⟩
theorem Z6w (lp p : Nat) (o s m : Int) (j : Nat) (done : Int) (rdn : Bool) (D : DiskM) (rd fs : List Int) (W : World) (F : Nat → Prop) (hG : Gl W F rd fs) (hj : j ≤ 4096) (hline : D.line.length < 1073700000) (hS : St W F [Zcm lp p o s m j done rdn,disk p D] W) :
  Calls Tryz.prog 80 #[.pointer (some ⟨lp,0,none⟩)] W (Ret fun v w => v = .int .i64 (Zeb rd fs D j done rdn).e ∧ St W F [Zcm lp p o s m j (Zeb rd fs D j done rdn).done (Zeb rd fs D j done rdn).redone,disk p (Zeb rd fs D j done rdn).D] w) := by
 have hok := (hS.rd (List.mem_cons_of_mem _ (List.mem_cons_self ..)) : Rd W (disk p D)).disk.1
 have h64 := fun (h : (D.read 0).1 = 0) => Zio hok h
 obtain ⟨R,hR⟩ : ∃ R,R = Zeb rd fs D j done rdn := ⟨_,rfl⟩
 rw [← hR];have e := hR
 unfold Zeb at e
 clear hR;refine Zab Tryz.func80 rfl Tryz.ntmps80 rfl ?_
 repeat (first|refine Yea ?_|(refine X_id ?_;first|refine Yaf ?_|refine Yag ?_|refine Yau ?_|refine Yan ?_|refine Yap ?_)|refine Yeb ?_|refine Yab ?_)
 refine Zaa _ rfl rfl rfl rfl rfl (Zwl p D 0 _ (hS.rd (List.mem_cons_of_mem _ (List.mem_cons_self ..))) (by omega)) ?_
 rintro _ w ⟨a,ca,rfl,hca,hS'⟩
 replace hS := hS.plus hS';clear hS';generalize D.read 0 = ra at h64 hca hS e ⊢;obtain ⟨ea,la⟩ := ra
 simp only at h64 hca hS e ⊢
 by_cases hea : ea = 0
 ·subst hea
  have hla := h64 rfl
  rw [if_neg (by simp)] at e;rw [hla];have hnb : (Zba rd fs la).2 = true → 0 ≤ (Zba rd fs la).1 ∧ (Zba rd fs la).1 ≤ 1152921504606846976 := fun h => by
   unfold Zba at h ⊢
   split at h
   ·rename_i h1; rw [if_pos h1]; omega
   ·rename_i h1
    rw [if_neg h1];simp only [Ziu,Bool.and_eq_true,decide_eq_true_eq] at h ⊢
    omega
  repeat (first|refine Yea ?_|refine Yff ?_|refine Yem ?_|refine Yab ?_)
  refine Zad _ rfl rfl rfl rfl rfl hS (Z2u a ca la rd fs _ (hG.mono fun r hr => (hr.rd hS).ro) (hS.rd (List.mem_cons_self ..)) hla (by omega)) ?_
  rintro _ w rfl hS
  generalize Zba rd fs la = hn at hnb e ⊢;obtain ⟨n,ok⟩ := hn
  simp only at hnb e ⊢
  cases ok
  ·rw [if_pos rfl] at e
   subst e
   repeat (first|refine Yea ?_|refine Yaf ?_|refine Yag ?_|refine Yat ?_|refine Ybq ?_|refine Yek ?_|refine Yel ?_)
   exact ⟨rfl,hS.pick [1,1]⟩
  ·rw [if_neg (by simp)] at e
   have hn1 := hnb rfl
   by_cases hl : last ≤ n
   ·rw [if_pos hl] at e
    subst e
    unfold last at hl
    repeat (first|refine Yea ?_|(refine X_id ?_;first|refine Yaf ?_|refine Yag ?_|refine Yau ?_|refine Yan ?_|refine Yat ?_|refine Ybd ?_|refine Yb9 ?_|refine Yao (fun _ hS _ => ?_))|refine Yez ?_|refine Yel ?_)
    exact ⟨rfl,hS.pick [1,1]⟩
   ·rw [if_neg hl] at e
    unfold last at hl
    repeat (first|refine Yea ?_|(refine X_id ?_;first|refine Yaf ?_|refine Yag ?_|refine Yau ?_|refine Yan ?_|refine Yat ?_|refine Ybd ?_|refine Yce ?_|refine Ya0 ?_|refine Yao (fun _ hS _ => ?_))|refine Yem ?_|refine Yab ?_)
    have hfg := Zvc rd fs D j (n + 1)
    refine Zaa _ rfl rfl rfl rfl rfl (Z5h lp p o s m j n rdn D (n + 1) rd fs _ (hG.mono fun r hr => (hr.rd hS).ro) (hS.rd (List.mem_cons_of_mem _ (List.mem_cons_self ..))) (hS.rd (List.mem_cons_of_mem _ (List.mem_cons_of_mem _ (List.mem_cons_self ..)))) hj (by omega)) ?_
    rintro _ w ⟨fa,fc,ws,O,rfl,hwd,hnone,hO,hS'⟩
    replace hS := hS.plus hS';clear hS';rw [← hwd] at e hfg;by_cases hws : ws = []
    ·obtain rfl := hnone.2 hws
     rw [if_pos (by rw [hws]; rfl)] at e
     subst e
     repeat (first|refine Yea ?_|(refine X_id ?_;first|refine Yaf ?_|refine Yag ?_|refine Ya0 ?_|refine X_yl (Zg0 rfl rfl rfl) rfl rfl ?_)|refine Yem ?_|refine Yab ?_)
     obtain ⟨_,hc,hr,hw,hbk⟩ := hS.call [false,false,false,true,true]
     refine Zaa _ rfl rfl rfl rfl rfl (clear_ lp p o s m j n rdn D (n + 1) _ _ (by omega) hc) ?_
     rintro _ w ⟨rfl,hS⟩
     replace hS := hbk hS
     clear hc hr hw hbk;repeat (first|refine Yea ?_|refine Yag ?_|refine Yah ?_|refine Yec ?_)
     exact ⟨rfl,hS.pick [0,0]⟩
    ·obtain ⟨ad,rfl⟩ : ∃ ad,fa = some ad := by
      cases fa with
      | none => exact absurd (hnone.1 rfl) hws
      | some ad => exact ⟨ad,rfl⟩
     rw [if_neg (by simpa using hws)] at e;have hwl : ws.length ≤ 2048 := by
      have := hfg.2
      rw [List.length_map] at this;omega
     repeat (first|refine Yea ?_|(refine X_id ?_;first|refine Yaf ?_|refine Yag ?_|refine Yau ?_|refine Yan ?_|refine Ybl ?_|refine Ya0 ?_|refine X_yl (Zg0 rfl rfl rfl) rfl rfl ?_|refine Yap ?_|refine Yao (fun _ hS _ => ?_)|refine Ya5 (fun _ _ hS _ => ?_))|refine Yev ?_|refine Yab ?_)
     have hS := hS.pick [4,0,3,0,0]
     have hmost := hok.most
     have hvno : ∀ v ∈ ws,-4611686018427387904 ≤ v.no ∧ v.no ≤ 4611686018427387904 := fun v hv => by
      have := hfg.1 v.data (List.mem_map.2 ⟨v,hv,rfl⟩)
      simp only [Wr.data] at this
      omega
     obtain ⟨_,hc,hr,hw,hbk⟩ := hS.call [true,true,true,false,false]
     refine Zaa _ rfl rfl rfl rfl rfl (Z38 lp _ p o s m j n true (0,D) (n + 1) (some ad) fc ws rd fs _ _ (hG.mono hw) ⟨(hr _ (List.mem_cons_self ..)).own_row,fun v hv => Ro.rds (hr _ (List.mem_cons_of_mem _ (List.mem_cons_self ..))) _ (hO v hv)⟩ hj (by omega) hvno (by simp only; omega) hc) ?_
     rintro _ w ⟨rfl,hS⟩
     replace hS := hbk hS
     clear hc hr hw hbk;subst e
     repeat (first|refine Yea ?_|refine Yag ?_|refine Yah ?_|refine Yel ?_)
     exact ⟨rfl,hS.pick [0,1]⟩
 ·rw [if_pos hea] at e
  subst e
  repeat (first|refine Yea ?_|refine Yfg ?_|refine Yek ?_|refine Yel ?_)
  exact ⟨rfl,hS.pick [1,1]⟩
instance : Und Tryz.prog 365 .unsafePointer := ⟨Tryz.underlying365⟩
theorem Zlh {P : Program} {o : Oper} {σ : Env} {w : World} {x : Operand} {src dst t : TypeId} {n : Nat} {a : Addr} {v : Value} (ho : o.op = .convert src dst x) (hx : ev σ x = some (.pointer (some a))) [hs : Und P src (.pointer t)] [hd : Und P dst .unsafePointer] [hz : Siz P t n] (hn : Nat.blt 0 n = true) (hc : w.cell? a = some v) : Yl P o σ w (.pointer (some a)) := ⟨fun N ds f ha => by
 have hpos : 0 < n := Zan hn
 have hsz : (P.info? t).map (fun i => decide (i.size = 0)) = some false := by
  have := hz.siz
  cases hi : P.info? t with
  | none => rw [hi] at this; cases this
  | some i =>
   rw [hi] at this;simp only [Option.map_some,Option.some.injEq] at this ⊢
   exact decide_eq_false (by omega)
 have := run_convert_to_unsafe hs.und hd.und hsz hc
 simp [execOp,ho,ha.eval hx,this]⟩
theorem Z5a (b off : Nat) (l l' : List Value) (T : TypeId) (W : World) (F : Nat → Prop) [hn : Nth l off (.int .i32 0)] [hs : Spl l off [.int .i32 1] l'] (hS : St W F [pts b (.cells l.toArray T)] W) :
  Calls Tryz.prog 234 #[.pointer (some ⟨b,off,none⟩)] W (Ret fun _ w => True ∧ St W F [pts b (.cells l'.toArray T)] w) := by
 have hn1 : Nth l' off (.int .i32 1) := ⟨by
  have h := hs.spl
  rw [← h.2];simp at h
  rw [List.append_assoc,List.getElem?_append_right (by simp; omega),List.length_take,Nat.min_eq_left (by omega)];simp⟩
 refine Zab Tryz.func234 rfl Tryz.ntmps234 rfl ?_
 repeat (first|refine Yea ?_|(refine X_id ?_;first|refine Yaf ?_|refine Yau ?_|refine Yby ?_|refine Zox rfl rfl rfl rfl rfl ?_|refine Z6f rfl rfl rfl rfl rfl hS (fun _ hS => ?_))|refine Yev ?_|refine Yab ?_)
 refine X_yl (Zlh rfl rfl rfl hS.cell) rfl rfl ?_
 repeat (first|refine Yea ?_|(refine X_id ?_;first|refine Zyl rfl rfl rfl rfl rfl ?_)|refine Yah ?_|refine Yab ?_|refine Yaq ?_|refine Z10 rfl (Ret.mk ?_))
 exact ⟨trivial,hS⟩
theorem Zz7 (b off : Nat) (l l' : List Value) (T : TypeId) (W : World) (F : Nat → Prop) [hn : Nth l off (.int .i32 1)] [hs : Spl l off [.int .i32 0] l'] (hS : St W F [pts b (.cells l.toArray T)] W) :
  Calls Tryz.prog 235 #[.pointer (some ⟨b,off,none⟩)] W (Ret fun _ w => True ∧ St W F [pts b (.cells l'.toArray T)] w) := by
 refine Zab Tryz.func235 rfl Tryz.ntmps235 rfl ?_
 repeat (first|refine Yea ?_|refine Yaf ?_|refine Yau ?_|refine Yby ?_|refine Yap ?_|refine Yev ?_|refine Yab ?_)
 refine X_yl (Zlh rfl rfl rfl hS.cell) rfl rfl ?_
 repeat (first|refine Yea ?_|(refine X_id ?_;first|refine Yaf ?_|refine Yau ?_|refine Yby ?_|refine Zox rfl rfl rfl rfl rfl ?_|refine Zyl rfl rfl rfl rfl rfl ?_)|refine Yeb ?_|refine Yab ?_)
 refine Z1x (s := 0) rfl rfl rfl rfl rfl rfl hS (fun _ hS => ?_)
 repeat (first|refine Yea ?_|(refine X_id ?_;first|refine Yaf ?_|refine Yag ?_|refine Ya4 ?_|refine Zox rfl rfl rfl rfl rfl ?_)|refine Yem ?_|refine Yab ?_|refine Ybt ?_)
 exact ⟨trivial,hS⟩
theorem Z1s (b off : Nat) (l : List Value) (T : TypeId) (x : Int) (W : World) [hn : Nth l off (.int .u32 x)] (hL : Rd W (pts b (.cells l.toArray T))) :
  Calls Tryz.prog 128 #[.pointer (some ⟨b,off,none⟩)] W (Ret fun v w => v = .bool (decide (¬ x = 0)) ∧ W = w) := by
 have hc := hL.pts
 have hS := St.start W
 refine Zab Tryz.func128 rfl Tryz.ntmps128 rfl ?_
 repeat (first|refine Yea ?_|(refine X_id ?_;first|refine Yaf ?_|refine Yag ?_|refine Yau ?_|refine Yby ?_|refine X_yl (Zm0 rfl rfl rfl) rfl rfl ?_|refine Zym rfl rfl rfl (Za6 (by assumption)) rfl rfl ?_)|refine Ye1 ?_|refine Yec ?_)
 exact ⟨rfl,rfl⟩
abbrev Zu2 (b lp : Nat) : Res := pts b (.cells #[.pointer (some ⟨lp,0,none⟩)] 85)
abbrev Zvf (b : Nat) (e : Int) : Res := pts b (.cells #[.int .i64 e] 31)
theorem b32_ (W : World) : Calls Tryz.prog 237 #[.bool true] W (Ret fun v w => v = .int .u32 1 ∧ W = w) := by
 refine Zab Tryz.func237 rfl Tryz.ntmps237 rfl ?_
 repeat (first|refine Yea ?_|refine Yen ?_|refine Yek ?_|refine Yel ?_)
 exact ⟨rfl,rfl⟩
theorem Z4w (lp p b6 b7 : Nat) (o s m : Int) (j : Nat) (done : Int) (rdn : Bool) (D : DiskM) (e0 : Int) (rd fs : List Int) (W : World) (F : Nat → Prop) (hG : Gl W F rd fs) (hj : j ≤ 4096) (hline : D.line.length < 1073700000)
  (hS : St W F [Zcm lp p o s m j done rdn,disk p D,Zu2 b6 lp,Zvf b7 e0] W) :
  Calls Tryz.prog 79 #[.pointer (some ⟨b6,0,none⟩),.pointer (some ⟨b7,0,none⟩)] W (Ret fun _ w => True ∧
   St W F [Zcm lp p o s m j (Zeb rd fs D j done rdn).done (Zeb rd fs D j done rdn).redone,disk p (Zeb rd fs D j done rdn).D,Zu2 b6 lp,Zvf b7 (Zeb rd fs D j done rdn).e] w) := by
 refine Zab Tryz.func79 rfl Tryz.ntmps79 rfl ?_
 repeat (first|refine Yaa ?_|refine Yap ?_|refine Yad ?_)
 obtain ⟨_,hc,hr,hw,hbk⟩ := hS.call [true,true,false,false]
 refine Zaa _ rfl rfl rfl rfl rfl (Z6w lp p o s m j done rdn D rd fs _ _ (hG.mono hw) hj hline hc) ?_
 rintro _ w ⟨rfl,hS⟩
 replace hS := hbk hS
 clear hc hr hw hbk;generalize Zeb rd fs D j done rdn = R at hS ⊢;repeat (first|refine Yea ?_|refine Yao (fun _ hS _ => ?_)|refine Ybt ?_)
 exact ⟨trivial,hS⟩
theorem Z3f (lp p b6 b7 : Nat) (m : Int) (j : Nat) (done : Int) (rdn : Bool) (D : DiskM) (e0 : Int) (rd fs : List Int) (W : World) (F : Nat → Prop) (hG : Gl W F rd fs) (hj : j ≤ 4096) (hline : D.line.length < 1073700000)
  (hS : St W F [Zcm lp p 0 0 m j done rdn,disk p D,Zu2 b6 lp,Zvf b7 e0] W) :
  Calls Tryz.prog 129 #[.pointer (some ⟨lp,1,none⟩),.func (.func 79) #[] #[.pointer (some ⟨b6,0,none⟩),.pointer (some ⟨b7,0,none⟩)]] W (Ret fun _ w => True ∧
   St W F [Zcm lp p 1 0 m j (Zeb rd fs D j done rdn).done (Zeb rd fs D j done rdn).redone,disk p (Zeb rd fs D j done rdn).D,Zu2 b6 lp,Zvf b7 (Zeb rd fs D j done rdn).e] w) := by
 have hlock : ∀ W F,St W F [Zcm lp p 0 0 m j done rdn] W → Calls Tryz.prog 196 #[.pointer (some ⟨lp,2,none⟩)] W (Ret fun _ w => True ∧ St W F [Zcm lp p 0 1 m j done rdn] w) := fun W F hS => by
  refine Zab Tryz.func196 rfl Tryz.ntmps196 rfl ?_
  repeat (first|refine Yaa ?_|refine Yaf ?_|refine Yau ?_|refine Yby ?_|refine Yad ?_)
  refine Zaa _ rfl rfl rfl rfl rfl (Z5a lp 2 _ _ _ _ _ hS) ?_
  rintro _ w ⟨_,hS⟩
  repeat (first|refine Yac ?_|refine Ybt ?_)
  exact ⟨trivial,hS⟩
 refine Zab Tryz.func129 rfl Tryz.ntmps129 rfl ?_
 repeat (first|refine Yaa ?_|refine Yaf ?_|refine Yau ?_|refine Yby ?_|refine Yeb ?_)
 obtain ⟨_,hc,hr,hw,hbk⟩ := hS.call [true,false,false,false]
 refine Zaa _ rfl rfl rfl rfl rfl (hlock _ _ hc) ?_
 rintro _ w ⟨_,hS⟩
 replace hS := hbk hS
 clear hc hr hw hbk;repeat (first|refine Yac ?_|refine Zyp rfl rfl rfl rfl rfl ?_|refine Yaa ?_|refine Yaf ?_|refine Yau ?_|refine Yby ?_|refine Yeb ?_|refine Yab ?_|refine Zo1 rfl ?_)
 refine Zaa _ rfl rfl rfl rfl rfl (Z1s lp 1 _ _ 0 _ (hS.rd (List.mem_cons_self ..))) ?_
 rintro _ _ ⟨rfl,rfl⟩
 rw [decide_eq_false (show ¬ ¬ (0 : Int) = 0 by simp)]
 repeat (first|refine Yac ?_|refine Zyp rfl rfl rfl rfl rfl ?_|refine Yaa ?_|refine Yaf ?_|refine Yau ?_|refine Yby ?_|refine Ybq ?_|refine Yev ?_|refine Yab ?_|refine Zo1 rfl ?_)
 obtain ⟨_,hc,hr,hw,hbk⟩ := hS.call [true,true,true,true]
 refine Zb4 (first := []) (captured := [.pointer (some ⟨b6,0,none⟩),.pointer (some ⟨b7,0,none⟩)]) rfl rfl rfl rfl rfl (Z4w lp p b6 b7 0 1 m j done rdn D e0 rd fs _ _ (hG.mono hw) hj hline hc) ?_
 rintro _ w ⟨_,hS⟩
 replace hS := hbk hS
 clear hc hr hw hbk;generalize Zeb rd fs D j done rdn = R at hS ⊢;repeat (first|refine Yac ?_)
 refine Zyt (args := [.pointer (some ⟨lp,1,none⟩),.bool true]) (captured := []) rfl rfl rfl rfl (.inr rfl) ?_
 repeat (first|fail)
 refine Zam (.s 0 (.s 1 (.s 2 (.s 3 (.h 4 (.h 5 .nil .no) .no))))) mixed (by kernel_rfl) rfl ?_
 have hS := hS.drew
 repeat (first|(refine X_id ?_;first|(refine Zaa 237 rfl rfl rfl rfl rfl (b32_ _) ?_;rintro _ _ ⟨rfl,rfl⟩)|refine Z00 rfl rfl rfl rfl rfl hS (fun _ hS => ?_))|refine Zys rfl (Ret.mk ?_)|(refine Zae ?_;first|refine Yay ?_|refine Ya3 ?_|refine Ybr ?_|refine Yc9 ?_|refine Yas ?_)|(refine Zac ?_;first|refine Yaz ?_))
 refine Zyt (args := [.pointer (some ⟨lp,2,none⟩)]) (captured := []) rfl rfl rfl rfl (.inr rfl) ?_
 repeat (first|refine Yaa ?_|refine Yaf ?_|refine Yau ?_|refine Yby ?_|refine Yad ?_)
 obtain ⟨_,hc,hr,hw,hbk⟩ := hS.call [true,false,false,false]
 refine Zaa _ rfl rfl rfl rfl rfl (Zz7 lp 2 _ _ _ _ _ hc) ?_
 rintro _ w ⟨_,hS⟩
 replace hS := hbk hS
 clear hc hr hw hbk;repeat (first|refine Yac ?_|refine Ybt ?_|refine Zys rfl (Ret.mk ?_))
 exact ⟨trivial,hS⟩
theorem do_ (lp p b6 b7 : Nat) (m : Int) (j : Nat) (done : Int) (rdn : Bool) (D : DiskM) (e0 : Int) (rd fs : List Int) (W : World) (F : Nat → Prop) (hG : Gl W F rd fs) (hj : j ≤ 4096) (hline : D.line.length < 1073700000)
  (hS : St W F [Zcm lp p 0 0 m j done rdn,disk p D,Zu2 b6 lp,Zvf b7 e0] W) :
  Calls Tryz.prog 78 #[.pointer (some ⟨lp,1,none⟩),.func (.func 79) #[] #[.pointer (some ⟨b6,0,none⟩),.pointer (some ⟨b7,0,none⟩)]] W (Ret fun _ w => True ∧
   St W F [Zcm lp p 1 0 m j (Zeb rd fs D j done rdn).done (Zeb rd fs D j done rdn).redone,disk p (Zeb rd fs D j done rdn).D,Zu2 b6 lp,Zvf b7 (Zeb rd fs D j done rdn).e] w) := by
 refine Zab Tryz.func78 rfl Tryz.ntmps78 rfl ?_
 repeat (first|refine Yaa ?_|refine Yaf ?_|refine Yau ?_|refine Yby ?_|refine Yeb ?_)
 refine Zaa _ rfl rfl rfl rfl rfl (Z1s lp 1 _ _ 0 _ (hS.rd (List.mem_cons_self ..))) ?_
 rintro _ _ ⟨rfl,rfl⟩
 rw [decide_eq_false (show ¬ ¬ (0 : Int) = 0 by simp)]
 repeat (first|refine Yea ?_|refine Yaf ?_|refine Ybq ?_|refine Yad ?_|refine Yaj ?_|refine Yab ?_)
 obtain ⟨_,hc,hr,hw,hbk⟩ := hS.call [true,true,true,true]
 refine Zaa _ rfl rfl rfl rfl rfl (Z3f lp p b6 b7 m j done rdn D e0 rd fs _ _ (hG.mono hw) hj hline hc) ?_
 rintro _ w ⟨_,hS⟩
 replace hS := hbk hS
 clear hc hr hw hbk;repeat (first|refine Yac ?_|refine Ybt ?_)
 exact ⟨trivial,hS⟩

/-! ### Open -/
def Zu3 (rd fs : List Int) (D : DiskM) (j : Int) : RedoM :=
 if D.off = true then ⟨9,D,0,false⟩ else if j < 2 ∨ 1024 < j ∨ ¬ j % 2 = 0 ∨ (D.laid.length : Int) < j + 2 then ⟨1,D,0,false⟩ else Zeb rd fs D j.toNat 0 false
def Z7n (W : World) (F : Nat → Prop) (p : Nat) (j : Nat) (R : RedoM) (v : Value) (w : World) : Prop :=
 (¬ R.e = 0 ∧ v = .tuple #[.pointer none,.int .i64 R.e] ∧ St W F [disk p R.D] w) ∨ (R.e = 0 ∧ ∃ lp,v = .tuple #[.pointer (some ⟨lp,0,none⟩),.int .i64 0] ∧ St W F [Zcm lp p 1 0 0 j R.done R.redone,disk p R.D] w)
theorem Z6z (p : Nat) (D : DiskM) (j : Int) (rd fs : List Int) (W : World) (F : Nat → Prop) (hG : Gl W F rd fs) (hline : D.line.length < 1073700000) (hS : St W F [disk p D] W) :
  Calls Tryz.prog 37 #[.pointer (some ⟨p,0,none⟩),.int .i64 j] W (Ret fun v w => Z7n W F p j.toNat (Zu3 rd fs D j) v w) := by
 have hd := hS.rd (List.mem_cons_self ..)
 have hmost := hd.disk.1.most
 have hon := on_ p D W hd
 have hse := Zno p D W hd
 cases hoff : D.off
 ·rw [hoff] at hon
  have e : Zu3 rd fs D j = if j < 2 ∨ 1024 < j ∨ ¬ j % 2 = 0 ∨ (D.laid.length : Int) < j + 2 then ⟨1,D,0,false⟩ else Zeb rd fs D j.toNat 0 false := by unfold Zu3; rw [if_neg (by simp [hoff])]
  by_cases h1 : j < 2
  ·rw [if_pos (.inl h1)] at e
   refine Zab Tryz.func37 rfl Tryz.ntmps37 rfl ?_
   repeat (first|refine Yep ?_|(refine X_id ?_;first|(refine Zaa 76 rfl rfl rfl rfl rfl hon ?_;rintro _ _ ⟨rfl,rfl⟩)|refine Yaf ?_|refine Yag ?_|refine Ya8 ?_|refine Ybd ?_|refine Ya2 ?_)|refine Yfc ?_|refine Yfh ?_)
   rw [e];exact .inl ⟨by simp,rfl,hS⟩
  by_cases h2 : 1024 < j
  ·rw [if_pos (.inr (.inl h2))] at e
   refine Zab Tryz.func37 rfl Tryz.ntmps37 rfl ?_
   repeat (first|refine Yeu ?_|(refine X_id ?_;first|(refine Zaa 76 rfl rfl rfl rfl rfl hon ?_;rintro _ _ ⟨rfl,rfl⟩)|refine Yaf ?_|refine Yag ?_|refine Ya8 ?_|refine Ya1 ?_|refine Ybd ?_|refine Ya6 ?_|refine Ybx ?_)|refine Yfc ?_|refine Yfh ?_)
   rw [e];exact .inl ⟨by simp,rfl,hS⟩
  by_cases h3 : j % 2 = 0
  ·by_cases h4 : (D.laid.length : Int) < j + 2
   ·rw [if_pos (.inr (.inr (.inr h4)))] at e
    refine Zab Tryz.func37 rfl Tryz.ntmps37 rfl ?_
    repeat (first|refine Yer ?_|(refine X_id ?_;first|(refine Zaa 76 rfl rfl rfl rfl rfl hon ?_;rintro _ _ ⟨rfl,rfl⟩)|(refine Zaa 77 rfl rfl rfl rfl rfl hse ?_;rintro _ _ ⟨rfl,rfl⟩)|refine Yaf ?_|refine Yag ?_|refine Ya1 ?_|refine Ybd ?_|refine Ya4 ?_|refine Ya2 ?_|refine Ya6 ?_|refine Ybs ?_|refine Ya0 ?_|refine Ych ?_)|refine Yfc ?_|refine Yfh ?_)
    rw [e];exact .inl ⟨by simp,rfl,hS⟩
   ·rw [if_neg (by omega)] at e
    obtain ⟨jn,rfl⟩ : ∃ n : Nat,j = n := ⟨j.toNat,by omega⟩
    rw [Int.toNat_natCast] at e ⊢;rw [e];refine Zab Tryz.func37 rfl Tryz.ntmps37 rfl ?_
    repeat (first|refine Yer ?_|(refine X_id ?_;first|(refine Zaa 76 rfl rfl rfl rfl rfl hon ?_;rintro _ _ ⟨rfl,rfl⟩)|(refine Zaa 77 rfl rfl rfl rfl rfl hse ?_;rintro _ _ ⟨rfl,rfl⟩)|refine Yaf ?_|refine Yag ?_|refine Yau ?_|refine Yan ?_|refine Ya1 ?_|refine Ybd ?_|refine Ycg ?_|refine Ya4 ?_|refine Ya6 ?_|refine Ybs ?_|refine Ybl ?_|refine Ya0 ?_|refine Ych ?_|refine Yap ?_|refine Yao (fun _ hS _ => ?_)|refine Ya5 (fun _ _ hS _ => ?_)|refine Yar (fun _ _ hS _ => ?_))|refine Ye4 ?_|refine Yei ?_)
    have hS := hS.pick [2,2,1,0]
    obtain ⟨_,hc,hr,hw,hbk⟩ := hS.call [true,true,true,true]
    refine Zaa _ rfl rfl rfl rfl rfl (do_ _ p _ _ 0 jn 0 false D 0 rd fs _ _ (hG.mono hw) (by omega) hline hc) ?_
    rintro _ w ⟨_,hS⟩
    replace hS := hbk hS
    clear hc hr hw hbk;generalize Zeb rd fs D jn 0 false = R at hS ⊢;by_cases hRe : R.e = 0
    ·rw [hRe] at hS
     repeat (first|refine Yea ?_|refine Yag ?_|refine Ya4 ?_|refine Yap ?_|refine Yfa ?_|refine Yex ?_)
     exact .inr ⟨hRe,_,rfl,hS.pick [0,0]⟩
    ·repeat (first|refine Yea ?_|refine Ybj ?_|refine Yap ?_|refine Yev ?_|refine Yab ?_)
     refine Zam (.s 0 (.s 1 (.s 2 .nil))) mixed (by kernel_rfl) rfl ?_
     have hS := hS.drew
     repeat (first|refine Yah ?_|refine Yew ?_|(refine Zae ?_;first|refine Yay ?_|refine Ybm ?_|refine Ybk ?_))
     exact .inl ⟨hRe,rfl,hS.pick [1]⟩
  ·rw [if_pos (.inr (.inr (.inl h3)))] at e
   refine Zab Tryz.func37 rfl Tryz.ntmps37 rfl ?_
   repeat (first|refine Yeu ?_|(refine X_id ?_;first|(refine Zaa 76 rfl rfl rfl rfl rfl hon ?_;rintro _ _ ⟨rfl,rfl⟩)|refine Yaf ?_|refine Yag ?_|refine Ya8 ?_|refine Ya1 ?_|refine Ybd ?_|refine Ybj ?_|refine Ya6 ?_|refine Ybs ?_|refine Ych ?_)|refine Yfc ?_|refine Yfh ?_)
   rw [e];exact .inl ⟨by simp,rfl,hS⟩
 ·rw [hoff] at hon
  refine Zab Tryz.func37 rfl Tryz.ntmps37 rfl ?_
  repeat (first|refine Yea ?_|(refine X_id ?_;first|(refine Zaa 76 rfl rfl rfl rfl rfl hon ?_;rintro _ _ ⟨rfl,rfl⟩)|refine Yaf ?_|refine Yag ?_|refine Ybq ?_)|refine Yfb ?_|refine Yfh ?_)
  rw [show Zu3 rd fs D j = ⟨9,D,0,false⟩ by unfold Zu3; rw [if_pos hoff]]
  exact .inl ⟨by simp,rfl,hS⟩
/-! ### Read -/
def Zgt (D : DiskM) (j : Nat) (no : Int) : Int × List UInt8 := if D.off = true then (9,[]) else if no < 0 ∨ (D.laid.length : Int) - 1 - j ≤ no then (1,[]) else D.read (1 + j + no)
theorem Z35 (lp p : Nat) (o s m : Int) (j : Nat) (done : Int) (rdn : Bool) (D : DiskM) (no : Int) (W : World) (hL : Rd W (Zcm lp p o s m j done rdn)) (hD : Rd W (disk p D)) (hj : j ≤ 4096) (hline : D.line.length < 1073741824) :
  Calls Tryz.prog 82 #[.pointer (some ⟨lp,0,none⟩),.int .i64 no] W (Ret fun v w => ∃ a c,v = .tuple #[.slice a (Zgt D j no).2.length c,.int .i64 (Zgt D j no).1] ∧ (Zgt D j no).2.length ≤ c ∧ St W noF [bytes a (Zgt D j no).2] w) := by
 have hS := St.start W
 have hc := hL.pts
 have hLo := hL.ro
 have hDo := hD.ro
 have hmost := hD.disk.1.most
 have hon := fun w (h : Rd w (disk p D)) => on_ p D w h
 cases hoff : D.off
 ·rw [hoff] at hon
  have e : Zgt D j no = if no < 0 ∨ (D.laid.length : Int) - 1 - j ≤ no then (1,[]) else D.read (1 + j + no) := by unfold Zgt; rw [if_neg (by simp [hoff])]
  by_cases h1 : no < 0
  ·rw [if_pos (.inl h1)] at e
   rw [e];refine Zab Tryz.func82 rfl Tryz.ntmps82 rfl ?_
   repeat (first|refine Yep ?_|(refine X_id ?_;first|(refine Zaa 76 rfl rfl rfl rfl rfl (hon _ (hDo.rd hS)) ?_;rintro _ _ ⟨rfl,rfl⟩)|refine Yaf ?_|refine Yag ?_|refine Yau ?_|refine Yan ?_|refine Ya8 ?_|refine Ybd ?_|refine Ya2 ?_|refine Ybu ?_|refine Yb5 ?_)|refine Yfc ?_|refine Yfh ?_)
   exact ⟨none,0,rfl,Nat.le_refl _,hS.row_none⟩
  by_cases h2 : (D.laid.length : Int) - 1 - j ≤ no
  ·rw [if_pos (.inr h2)] at e
   rw [e];refine Zab Tryz.func82 rfl Tryz.ntmps82 rfl ?_
   repeat (first|refine Yer ?_|(refine X_id ?_;first|(refine Zad 135 rfl rfl rfl rfl rfl hS (Ze5 lp p o s m j done rdn D _ (hLo.rd hS) (hDo.rd hS) hj) ?_;rintro _ _ rfl hS)|(refine Zaa 76 rfl rfl rfl rfl rfl (hon _ (hDo.rd hS)) ?_;rintro _ _ ⟨rfl,rfl⟩)|refine Yaf ?_|refine Yag ?_|refine Yau ?_|refine Yan ?_|refine Ya1 ?_|refine Ybd ?_|refine Ya6 ?_|refine Yb9 ?_|refine Ybu ?_|refine Yb5 ?_)|refine Yfc ?_|refine Yfh ?_)
   exact ⟨none,0,rfl,Nat.le_refl _,hS.row_none⟩
  ·rw [if_neg (by omega)] at e
   rw [e];refine Zab Tryz.func82 rfl Tryz.ntmps82 rfl ?_
   repeat (first|refine Yer ?_|(refine X_id ?_;first|(refine Zad 135 rfl rfl rfl rfl rfl hS (Ze5 lp p o s m j done rdn D _ (hLo.rd hS) (hDo.rd hS) hj) ?_;rintro _ _ rfl hS)|(refine Zaa 76 rfl rfl rfl rfl rfl (hon _ (hDo.rd hS)) ?_;rintro _ _ ⟨rfl,rfl⟩)|refine Yaf ?_|refine Yag ?_|refine Yau ?_|refine Yan ?_|refine Ya1 ?_|refine Ybd ?_|refine Ya6 ?_|refine Yce ?_|refine Ybu ?_|refine Yb5 ?_)|refine Ye4 ?_|refine Yei ?_)
   refine Zam (.s 0 (.s 1 (.s 2 (.s 3 (.s 4 (.s 5 (.s 6 (.s 7 (.s 8 (.s 9 (.s 10 (.h 11 (.s 12 (.s 13 (.s 14 (.s 15 .nil)))) .no)))))))))))) mixed (by kernel_rfl) rfl ?_
   have hS := hS.drew
   have hc := (hLo.rd hS).pts
   repeat (first|(refine Zae ?_;first|refine Ya3 ?_|refine Ybr ?_|refine Ybe ?_|refine Yda ?_|refine Yc1 ?_|refine Yas ?_))
   refine Zaa _ rfl rfl rfl rfl rfl (Zwl p D (1 + j + no) _ (hDo.rd hS) hline) ?_
   rintro _ w ⟨a,ca,rfl,hca,hS'⟩
   replace hS := hS.plus hS';clear hS';have hc := (hLo.rd hS).pts
   repeat (first|refine Yah ?_|refine Yex ?_|(refine Zae ?_;first|refine Yay ?_|refine Ybm ?_|refine Ycq ?_)|(refine Zac ?_;first|refine Yaz ?_))
   exact ⟨a,ca,rfl,hca,hS⟩
 ·rw [hoff] at hon
  rw [show Zgt D j no = (9,[]) by unfold Zgt; rw [if_pos hoff]]
  refine Zab Tryz.func82 rfl Tryz.ntmps82 rfl ?_
  repeat (first|refine Yea ?_|(refine X_id ?_;first|(refine Zaa 76 rfl rfl rfl rfl rfl (hon _ (hDo.rd hS)) ?_;rintro _ _ ⟨rfl,rfl⟩)|refine Yaf ?_|refine Yag ?_|refine Yau ?_|refine Yan ?_|refine Ybq ?_|refine Ybu ?_|refine Yb5 ?_)|refine Yfc ?_|refine Yfh ?_)
  exact ⟨none,0,rfl,Nat.le_refl _,hS.row_none⟩
def Zhw (n : Int) (d : List UInt8) (cnt : Nat) (x : Int × DiskM) (i : Nat) (v : Int × List UInt8) : Int × DiskM :=
 Zdv (Zdv x (1 + 2 * (i : Nat)) (Zhx n (i : Nat) (cnt : Nat) v.1 d)) (1 + 2 * (i : Nat) + 1) v.2
def Zcj (n : Int) (d : List UInt8) (l : List (Int × List UInt8)) (x : Int × DiskM) : Nat → Int × DiskM
 | 0 => x
 | i + 1 => Zhw n d l.length (Zcj n d l x i) i (l.getD i (0,[]))
theorem Znz (n : Int) (d : List UInt8) (cnt : Nat) (x : Int × DiskM) (i : Nat) (v : Int × List UInt8) : (Zhw n d cnt x i v).2.line.length ≤ x.2.line.length + 2 ∧ (Zhw n d cnt x i v).2.laid.length = x.2.laid.length := by
 unfold Zhw
 have h1 := Zd0 x (1 + 2 * (i : Nat)) (Zhx n (i : Nat) (cnt : Nat) v.1 d)
 have h2 := Zd0 (Zdv x (1 + 2 * (i : Nat)) (Zhx n (i : Nat) (cnt : Nat) v.1 d)) (1 + 2 * (i : Nat) + 1) v.2
 exact ⟨by omega,by rw [h2.2,h1.2]⟩
theorem Zja (n : Int) (d : List UInt8) (l : List (Int × List UInt8)) (x : Int × DiskM) : ∀ i,(Zcj n d l x i).2.line.length ≤ x.2.line.length + 2 * i ∧ (Zcj n d l x i).2.laid.length = x.2.laid.length
 | 0 => by simp [Zcj]
 | i + 1 => by
  have h1 := Zja n d l x i
  have h2 := Znz n d l.length (Zcj n d l x i) i (l.getD i (0,[]))
  simp only [Zcj]
  exact ⟨by omega,by rw [h2.2,h1.2]⟩
def putM (rd fs : List Int) (D : DiskM) (j : Nat) (done : Int) (l : List (Int × List UInt8)) : Int × DiskM :=
 layM rd fs j (Zdo (Zcj (done + 1) (sumB rd fs (done + 1) l) l (0,D) l.length)) (done + 1) l
def Zbr (rd fs : List Int) (D : DiskM) (j : Nat) (done : Int) (l : List (Int × List UInt8)) : Int × DiskM × Int :=
 if D.off = true then (9,D,done) else if ¬ Zch l = 0 then (Zch l,D,done) else if hasM ((D.laid.length : Int) - 1 - j) l = false then (1,D,done) else
 if (j : Int) / 2 < l.length ∨ last ≤ done then (6,D,done) else if l = [] then (0,D,done) else
 ((putM rd fs D j done l).1,(putM rd fs D j done l).2,if (putM rd fs D j done l).1 = 0 then done + 1 else done)
theorem Z3i (lp p : Nat) (o s m : Int) (j : Nat) (done : Int) (rdn : Bool) (D : DiskM) (a : Option Addr) (c : Nat) (l : List Wr) (rd fs : List Int) (W : World) (F : Nat → Prop) (hG : Gl W F rd fs) (hW : Wrs W F a l) (hj : j ≤ 4096) (hdone : 0 ≤ done)
  (hl : l.length ≤ 1048576) (hx64 : ∀ v ∈ l,v.x.s.length ≤ 140737488355328) (hline : D.line.length < 1073000000) (hS : St W F [Zcm lp p o s m j done rdn,disk p D] W) :
  Calls Tryz.prog 84 #[.pointer (some ⟨lp,0,none⟩),.slice a l.length c] W (Ret fun v w => v = .int .i64 (Zbr rd fs D j done (l.map Wr.data)).1 ∧
   St W F [Zcm lp p o s m j (Zbr rd fs D j done (l.map Wr.data)).2.2 rdn,disk p (Zbr rd fs D j done (l.map Wr.data)).2.1] w) := by
 obtain ⟨d,hd⟩ : ∃ d,d = l.map Wr.data := ⟨_,rfl⟩
 have hdl : d.length = l.length := by rw [hd]; simp
 rw [← hd];have hD := hS.rd (List.mem_cons_of_mem _ (List.mem_cons_self ..))
 have hmost := hD.disk.1.most
 have hW0 : ∀ w rs,St W F rs w → Wrs w noF a l := fun w rs h => ⟨(hW.row.rd h).ro,fun v hv => ((hW.all v hv).rd h).ro⟩
 have hon : ∀ w rs,St W F (Zcm lp p o s m j done rdn :: disk p D :: rs) w → Calls Tryz.prog 76 #[.pointer (some ⟨p,0,none⟩)] w (Ret fun v w' => v = .bool (!D.off) ∧ w = w') := fun w rs h => on_ p D w (h.rd (List.mem_cons_of_mem _ (List.mem_cons_self ..)))
 cases hoff : D.off
 ·rw [hoff] at hon
  by_cases hck : Zch d = 0
  ·cases hh : hasM ((D.laid.length : Int) - 1 - j) d
   ·rw [show Zbr rd fs D j done d = (1,D,done) by unfold Zbr; rw [if_neg (by simp [hoff]),if_neg (by simpa using hck),if_pos hh]]
    refine Zab Tryz.func84 rfl Tryz.ntmps84 rfl ?_
    repeat (first|refine Yea ?_|(refine X_id ?_;first|(refine Zaa 76 rfl rfl rfl rfl rfl (hon _ _ hS) ?_;rintro _ _ ⟨rfl,rfl⟩)|refine Yaf ?_|refine Yag ?_|refine Yau ?_|refine Yan ?_|refine Ybd ?_|refine Ybu ?_|refine Yap ?_)|refine Ye4 ?_|refine Yei ?_)
    refine Zad _ rfl rfl rfl rfl rfl hS (Zk8 a c l _ (hW0 _ _ hS) hl hx64) ?_
    rintro _ w rfl hS
    rw [← hd];repeat (first|refine Yea ?_|refine Yaf ?_|refine Yag ?_|refine Ya4 ?_|refine Ye4 ?_|refine Yab ?_)
    refine Zad _ rfl rfl rfl rfl rfl hS (Zvz lp p o s m j done rdn D _ a c l (hS.rd (List.mem_cons_self ..)) (hS.rd (List.mem_cons_of_mem _ (List.mem_cons_self ..))) hj (hW0 _ _ hS) hl) ?_
    rintro _ w rfl hS
    rw [← hd,hh];repeat (first|refine Yea ?_|refine Yag ?_|refine Ybq ?_|refine Yek ?_|refine Yey ?_)
    exact ⟨rfl,hS⟩
   ·by_cases hfull : (j : Int) / 2 < l.length ∨ last ≤ done
    ·rw [show Zbr rd fs D j done d = (6,D,done) by unfold Zbr; rw [if_neg (by simp [hoff]),if_neg (by simpa using hck),if_neg (by simp [hh]),if_pos (by rw [hdl]; exact hfull)]]
     unfold last at hfull
     by_cases hf1 : (j : Int) / 2 < l.length
     ·refine Zab Tryz.func84 rfl Tryz.ntmps84 rfl ?_
      repeat (first|refine Yea ?_|(refine X_id ?_;first|(refine Zaa 76 rfl rfl rfl rfl rfl (hon _ _ hS) ?_;rintro _ _ ⟨rfl,rfl⟩)|refine Yaf ?_|refine Yag ?_|refine Yau ?_|refine Yan ?_|refine Ybd ?_|refine Ybu ?_|refine Yap ?_)|refine Ye4 ?_|refine Yei ?_)
      refine Zad _ rfl rfl rfl rfl rfl hS (Zk8 a c l _ (hW0 _ _ hS) hl hx64) ?_
      rintro _ w rfl hS
      rw [← hd];repeat (first|refine Yea ?_|refine Yaf ?_|refine Yag ?_|refine Ya4 ?_|refine Ye4 ?_|refine Yab ?_)
      refine Zad _ rfl rfl rfl rfl rfl hS (Zvz lp p o s m j done rdn D _ a c l (hS.rd (List.mem_cons_self ..)) (hS.rd (List.mem_cons_of_mem _ (List.mem_cons_self ..))) hj (hW0 _ _ hS) hl) ?_
      rintro _ w rfl hS
      rw [← hd,hh];repeat (first|refine Yep ?_|(refine X_id ?_;first|(refine Zaa 138 rfl rfl rfl rfl rfl (Zsy lp p o s m j done rdn _ (hS.rd (List.mem_cons_self ..)) hj) ?_;rintro _ _ ⟨rfl,rfl⟩)|refine Yaf ?_|refine Yag ?_|refine Ya8 ?_|refine Ybd ?_|refine Yav ?_|refine Ybx ?_)|refine Ye0 ?_|refine Yey ?_)
      exact ⟨rfl,hS⟩
     ·have hf2 : 1152921504606846976 ≤ done := by omega
      refine Zab Tryz.func84 rfl Tryz.ntmps84 rfl ?_
      repeat (first|refine Yea ?_|(refine X_id ?_;first|(refine Zaa 76 rfl rfl rfl rfl rfl (hon _ _ hS) ?_;rintro _ _ ⟨rfl,rfl⟩)|refine Yaf ?_|refine Yag ?_|refine Yau ?_|refine Yan ?_|refine Ybd ?_|refine Ybu ?_|refine Yap ?_)|refine Ye4 ?_|refine Yei ?_)
      refine Zad _ rfl rfl rfl rfl rfl hS (Zk8 a c l _ (hW0 _ _ hS) hl hx64) ?_
      rintro _ w rfl hS
      rw [← hd];repeat (first|refine Yea ?_|refine Yaf ?_|refine Yag ?_|refine Ya4 ?_|refine Ye4 ?_|refine Yab ?_)
      refine Zad _ rfl rfl rfl rfl rfl hS (Zvz lp p o s m j done rdn D _ a c l (hS.rd (List.mem_cons_self ..)) (hS.rd (List.mem_cons_of_mem _ (List.mem_cons_self ..))) hj (hW0 _ _ hS) hl) ?_
      rintro _ w rfl hS
      rw [← hd,hh];repeat (first|refine Yer ?_|(refine X_id ?_;first|(refine Zaa 138 rfl rfl rfl rfl rfl (Zsy lp p o s m j done rdn _ (hS.rd (List.mem_cons_self ..)) hj) ?_;rintro _ _ ⟨rfl,rfl⟩)|refine Yaf ?_|refine Yag ?_|refine Yau ?_|refine Yan ?_|refine Ya1 ?_|refine Ybd ?_|refine Yav ?_|refine Ybs ?_|refine Yb9 ?_|refine Yap ?_)|refine Ye0 ?_|refine Yey ?_)
      exact ⟨rfl,hS⟩
    ·unfold last at hfull
     by_cases hl0 : l = []
     ·rw [show Zbr rd fs D j done d = (0,D,done) by unfold Zbr last; rw [if_neg (by simp [hoff]),if_neg (by simpa using hck),if_neg (by simp [hh]),if_neg (by rw [hdl]; exact hfull),if_pos (by rw [hd,hl0]; rfl)]]
      have hl1 : l.length = 0 := by rw [hl0]; rfl
      refine Zab Tryz.func84 rfl Tryz.ntmps84 rfl ?_
      repeat (first|refine Yea ?_|(refine X_id ?_;first|(refine Zaa 76 rfl rfl rfl rfl rfl (hon _ _ hS) ?_;rintro _ _ ⟨rfl,rfl⟩)|refine Yaf ?_|refine Yag ?_|refine Yau ?_|refine Yan ?_|refine Ybd ?_|refine Ybu ?_|refine Yap ?_)|refine Ye4 ?_|refine Yei ?_)
      refine Zad _ rfl rfl rfl rfl rfl hS (Zk8 a c l _ (hW0 _ _ hS) hl hx64) ?_
      rintro _ w rfl hS
      rw [← hd];repeat (first|refine Yea ?_|refine Yaf ?_|refine Yag ?_|refine Ya4 ?_|refine Ye4 ?_|refine Yab ?_)
      refine Zad _ rfl rfl rfl rfl rfl hS (Zvz lp p o s m j done rdn D _ a c l (hS.rd (List.mem_cons_self ..)) (hS.rd (List.mem_cons_of_mem _ (List.mem_cons_self ..))) hj (hW0 _ _ hS) hl) ?_
      rintro _ w rfl hS
      rw [← hd,hh];repeat (first|refine Yer ?_|(refine X_id ?_;first|(refine Zaa 138 rfl rfl rfl rfl rfl (Zsy lp p o s m j done rdn _ (hS.rd (List.mem_cons_self ..)) hj) ?_;rintro _ _ ⟨rfl,rfl⟩)|refine Yaf ?_|refine Yag ?_|refine Yau ?_|refine Yan ?_|refine Ya1 ?_|refine Ybd ?_|refine Yav ?_|refine Ybi ?_|refine Ybs ?_|refine Yce ?_|refine Yap ?_)|refine Ye0 ?_|refine Yey ?_)
      exact ⟨rfl,hS⟩
     ·have hl1 : ¬ l.length = 0 := fun h => hl0 (List.length_eq_zero_iff.1 h)
      rw [show Zbr rd fs D j done d = ((putM rd fs D j done d).1,(putM rd fs D j done d).2,if (putM rd fs D j done d).1 = 0 then done + 1 else done) by
       unfold Zbr last; rw [if_neg (by simp [hoff]),if_neg (by simpa using hck),if_neg (by simp [hh]),if_neg (by rw [hdl]; exact hfull),if_neg (by intro h; rw [h] at hdl; exact hl1 hdl.symm)]]
      refine Zab Tryz.func84 rfl Tryz.ntmps84 rfl ?_
      repeat (first|refine Yea ?_|(refine X_id ?_;first|(refine Zaa 76 rfl rfl rfl rfl rfl (hon _ _ hS) ?_;rintro _ _ ⟨rfl,rfl⟩)|refine Yaf ?_|refine Yag ?_|refine Yau ?_|refine Yan ?_|refine Ybd ?_|refine Ybu ?_|refine Yap ?_)|refine Ye4 ?_|refine Yei ?_)
      refine Zad _ rfl rfl rfl rfl rfl hS (Zk8 a c l _ (hW0 _ _ hS) hl hx64) ?_
      rintro _ w rfl hS
      rw [← hd];repeat (first|refine Yea ?_|refine Yaf ?_|refine Yag ?_|refine Ya4 ?_|refine Ye4 ?_|refine Yab ?_)
      refine Zad _ rfl rfl rfl rfl rfl hS (Zvz lp p o s m j done rdn D _ a c l (hS.rd (List.mem_cons_self ..)) (hS.rd (List.mem_cons_of_mem _ (List.mem_cons_self ..))) hj (hW0 _ _ hS) hl) ?_
      rintro _ w rfl hS
      rw [← hd,hh];repeat (first|refine Yer ?_|(refine X_id ?_;first|(refine Zaa 138 rfl rfl rfl rfl rfl (Zsy lp p o s m j done rdn _ (hS.rd (List.mem_cons_self ..)) hj) ?_;rintro _ _ ⟨rfl,rfl⟩)|refine Yaf ?_|refine Yag ?_|refine Yau ?_|refine Yan ?_|refine Ya1 ?_|refine Ybd ?_|refine Yav ?_|refine Ybh ?_|refine Ybs ?_|refine Yce ?_|refine Ybl ?_|refine Ya0 ?_|refine Yap ?_|refine Ya5 (fun _ _ hS _ => ?_))|refine Yem ?_|refine Yei ?_)
      rename_i sp _ _;have hgood : ∀ v ∈ l,0 ≤ v.no ∧ v.no < (D.laid.length : Int) - 1 - j ∧ v.x.s.length = 64 := fun v hv => by
       have h1 := Zfb hck v.data (by rw [hd]; exact List.mem_map.2 ⟨v,hv,rfl⟩)
       have h2 := List.all_eq_true.1 hh v.data (by rw [hd]; exact List.mem_map.2 ⟨v,hv,rfl⟩)
       exact ⟨h1.1,of_decide_eq_true h2,h1.2⟩
      have hfr := Zh2 (done + 1) d (fun x hx => by
       have := (Zfb hck x hx).2
       omega)
      have hpm : putM rd fs D j done d = layM rd fs j (Zdo (Zcj (done + 1) (sumB rd fs (done + 1) d) d (0,D) d.length)) (done + 1) d := rfl
      refine Zad _ rfl rfl rfl rfl rfl hS (Z33 (done + 1) a c l rd fs _ (hG.mono fun r hr => (hr.rd hS).ro) (hW0 _ _ hS) hl (by rw [← hd]; omega)) ?_
      rintro _ w rfl hS
      rw [← hd];obtain ⟨sd,hsd⟩ : ∃ sd,sd = sumB rd fs (done + 1) d := ⟨_,rfl⟩
      have hsl : sd.length = 32 := by rw [hsd]; exact Zkf ..
      rw [← hsd] at hpm ⊢;have hl32 : LenO (bv sd) 32 := ⟨by simp [hsl]⟩
      repeat (first|refine Yea ?_|refine Yaf ?_|refine Yav ?_|refine Yao (fun _ hS _ => ?_)|refine Yar (fun _ _ hS _ => ?_)|refine Yed ?_|refine Yab ?_)
      rename_i b8 _ _ _ _ _;have hS := hS.pick [1,2,1,0]
      refine Zal (α := Nat) (fun i => [(0,.pointer (some ⟨lp,0,none⟩)),(1,.slice a l.length c),(6,.pointer (some ⟨sp,0,none⟩)),(7,.int .i64 (done + 1)),(8,.pointer (some ⟨b8,0,none⟩)),(62,.slice a l.length c),(63,.int .i64 (l.length : Nat)),(64,.int .i64 (i : Nat))])
       (fun i w => i ≤ l.length ∧ St W F [Zi7 sp p (Zcj (done + 1) sd d (0,D) i).1,disk p (Zcj (done + 1) sd d (0,D) i).2,Zcm lp p o s m j done rdn,pts b8 (.cells (bv sd).toArray 79)] w) (fun i => l.length - i) 0 ⟨rfl,rfl,rfl,rfl,rfl,rfl,rfl,rfl,trivial⟩ ⟨Nat.zero_le _,hS⟩ ?_
      clear hS;rintro i w ⟨hi,hS⟩
      have hnl := Zja (done + 1) sd d (0,D) i
      simp only at hnl
      obtain ⟨X,hX⟩ : ∃ X,X = Zcj (done + 1) sd d (0,D) i := ⟨_,rfl⟩
      rw [← hX] at hS hnl;by_cases hlt : i < l.length
      ·have hx0 : l[i]? = some l[i] := List.getElem?_eq_getElem hlt
       generalize l[i] = v at hx0;have hvm := List.mem_of_getElem? hx0
       have hgv := (hgood v hvm).2.2
       have hdi : d.getD i (0,[]) = (v.no,v.x.s) := by rw [List.getD_eq_getElem?_getD,hd]; simp [hx0,Wr.data]
       have hr := hW.row
       have hxs : ((l.flatMap Wr.cells).drop (i * 2)).take 2 = [.int .i64 v.no,.slice v.x.a v.x.s.length v.x.c] := Zo5 hx0
       obtain ⟨ab,ao,rfl⟩ := (hW.row.rd hS).base (by intro e; rw [e] at hxs; simp at hxs)
       repeat (first|refine Yea ?_|(refine X_id ?_;first|refine Yaf ?_|refine Yag ?_|refine Yan ?_|refine Yav ?_|refine Ya2 ?_|refine Ybc ?_|refine Ya0 ?_|refine Ycf ?_|refine Yap ?_|refine Ybg ?_|refine Ybp ?_|refine Yao (fun _ hS _ => ?_)|refine Yar (fun _ _ hS _ => ?_))|refine Yee ?_|refine Yab ?_)
       refine Zaa _ rfl rfl rfl rfl rfl (Z4y (done + 1) (i : Nat) (l.length : Nat) v.no sd hsl _) ?_
       rintro _ w ⟨q,k,rfl,hS'⟩
       replace hS := hS.plus hS';clear hS';repeat (first|refine Yaa ?_)
       obtain ⟨_,hc,hr,hw,hbk⟩ := hS.call [false,false,true,true,false,false]
       refine Zaa _ rfl rfl rfl rfl rfl (Zke sp p X _ _ 64 k (Zhx (done + 1) (i : Nat) (l.length : Nat) v.no sd) _ _ hc (hr _ (List.mem_cons_self ..)) (Zf0 ..) (by omega)) ?_
       rintro _ w ⟨_,hS⟩
       replace hS := hbk hS
       clear hc hr hw hbk;have hX2 := Zd0 X (1 + 2 * (i : Nat)) (Zhx (done + 1) (i : Nat) (l.length : Nat) v.no sd)
       repeat (first|refine Yea ?_|(refine X_id ?_;first|refine Yaf ?_|refine Yan ?_|refine Ya0 ?_|refine Ycf ?_|refine Yap ?_)|refine Yad ?_|refine Yab ?_)
       obtain ⟨_,hc,hr,hw,hbk⟩ := hS.call [true,true,false,false,false,false]
       refine Zaa _ rfl rfl rfl rfl rfl (Zke sp p (Zdv X (1 + 2 * (i : Nat)) (Zhx (done + 1) (i : Nat) (l.length : Nat) v.no sd)) _ _ _ _ v.x.s _ _ hc (hw _ (hW.all v hvm)) rfl (by omega)) ?_
       rintro _ w ⟨_,hS⟩
       replace hS := hbk hS
       clear hc hr hw hbk;repeat (first|refine Yea ?_|refine Yef ?_|refine Yad ?_|refine Yei ?_)
       refine Zaf (i + 1) ⟨rfl,rfl,rfl,rfl,rfl,rfl,rfl,rfl,trivial⟩ ⟨by omega,?_⟩ (by omega)
       simp only [Zcj]
       rw [hdi,← hX,hdl];have hS := hS.pick [0,0,2,2]
       exact hS
      ·obtain rfl : i = l.length := by omega
       rw [hdl,← hX] at hpm;have hX2 := Zl5 X
       repeat (first|refine Yea ?_|refine Yaf ?_|refine Ya6 ?_|refine Yeq ?_|refine Yeg ?_)
       obtain ⟨_,hc,hr,hw,hbk⟩ := hS.call [true,true,false,false]
       refine Zaa _ rfl rfl rfl rfl rfl (Znm sp p X _ _ hc (by omega)) ?_
       rintro _ w ⟨_,hS⟩
       replace hS := hbk hS
       clear hc hr hw hbk;repeat (first|refine Yea ?_|refine Yaf ?_|refine Yeb ?_|refine Yab ?_)
       have hS := hS.pick [2,0,0]
       obtain ⟨_,hc,hr,hw,hbk⟩ := hS.call [true,true,true]
       refine Zaa _ rfl rfl rfl rfl rfl (Z38 lp sp p o s m j done rdn (Zdo X) (done + 1) a c l rd fs _ _ (hG.mono hw) (hW.mono hw) hj hl (fun v hv => by have := hgood v hv; omega) (by omega) hc) ?_
       rintro _ w ⟨rfl,hS⟩
       replace hS := hbk hS
       clear hc hr hw hbk;rw [hpm,hd];repeat (first|refine Yea ?_|refine Yag ?_|refine Yah ?_|refine Yec ?_)
       exact ⟨rfl,hS.pick [0,1]⟩
  ·rw [show Zbr rd fs D j done d = (Zch d,D,done) by unfold Zbr; rw [if_neg (by simp [hoff]),if_pos hck]]
   refine Zab Tryz.func84 rfl Tryz.ntmps84 rfl ?_
   repeat (first|refine Yea ?_|(refine X_id ?_;first|(refine Zaa 76 rfl rfl rfl rfl rfl (hon _ _ hS) ?_;rintro _ _ ⟨rfl,rfl⟩)|refine Yaf ?_|refine Yag ?_|refine Yau ?_|refine Yan ?_|refine Ybd ?_|refine Ybu ?_|refine Yap ?_)|refine Ye4 ?_|refine Yei ?_)
   refine Zad _ rfl rfl rfl rfl rfl hS (Zk8 a c l _ (hW0 _ _ hS) hl hx64) ?_
   rintro _ w rfl hS
   rw [← hd];repeat (first|refine Yea ?_|refine Yaf ?_|refine Yag ?_|refine Ybj ?_|refine Yek ?_|refine Yel ?_)
   exact ⟨rfl,hS⟩
 ·rw [hoff] at hon
  rw [show Zbr rd fs D j done d = (9,D,done) by unfold Zbr; rw [if_pos hoff]]
  refine Zab Tryz.func84 rfl Tryz.ntmps84 rfl ?_
  repeat (first|refine Yea ?_|(refine X_id ?_;first|(refine Zaa 76 rfl rfl rfl rfl rfl (hon _ _ hS) ?_;rintro _ _ ⟨rfl,rfl⟩)|refine Yaf ?_|refine Yag ?_|refine Yau ?_|refine Yan ?_|refine Ybq ?_|refine Ybu ?_|refine Yap ?_)|refine Yfc ?_|refine Yey ?_)
  exact ⟨rfl,hS⟩
end Cr
namespace Cr
open Go
set_option maxHeartbeats 64000000
theorem Znh {d : List (Int × List UInt8)} {i k : Nat} (hi : i < d.length) (hk : k < i) (h : (d.getD k (0,[])).1 = (d.getD i (0,[])).1) : ∀ n,i < n → Zbm d n = true
 | 0,h' => absurd h' (by omega)
 | n + 1,h' => by
  simp only [Zbm]
  rcases Nat.lt_or_ge i n with hlt | hge
  ·rw [Znh hi hk h n hlt]; rfl
  ·obtain rfl : n = i := by omega
   have hm : (d.getD n (0,[])).1 ∈ (d.take n).map (·.1) := by
    rw [← h,List.getD_eq_getElem?_getD,List.getElem?_eq_getElem (show k < d.length by omega)]
    exact List.mem_map.2 ⟨d[k],List.mem_iff_getElem.2 ⟨k,by simp; omega,by simp⟩,rfl⟩
   rw [decide_eq_true hm]; simp
end Cr
namespace Cr
open Go Go.Proofs
set_option maxHeartbeats 64000000
structure Quiet (D : DiskM) (n : Nat) : Prop where
 off : D.off = false
 armed : D.armed = false
 len : D.laid.length = n
structure Qs (x : Int × DiskM) (n : Nat) (laid : List (List UInt8)) (line : List (Int × List UInt8)) : Prop where
 e : x.1 = 0
 q : Quiet x.2 n
 laid : x.2.laid = laid
 line : x.2.line = line
theorem Qs.write {x : Int × DiskM} {n : Nat} {laid : List (List UInt8)} {line : List (Int × List UInt8)} (h : Qs x n laid line) {no : Int} {b : List UInt8} (h0 : 0 ≤ no) (h1 : no < n) (hb : b.length = 64) : Qs (Zdv x no b) n laid (line ++ [(no,b)]) := by
 obtain ⟨e,⟨qo,qa,ql⟩,hl,hn⟩ := h
 have hu : useB x.2.off x.2.armed x.2.left = true := by rw [qo,qa]; rfl
 have hw := DiskM.write_yes (D := x.2) (no := no) (b := b) qo (by simp [Zdm,h0,ql,h1]) hb hu
 unfold Zdv
 rw [if_pos e,hw];refine ⟨rfl,⟨?_,qa,ql⟩,hl,by simp [hn]⟩
 show Zpd x.2.off x.2.armed x.2.left = false
 rw [qo,qa]; rfl
theorem Qs.flush {x : Int × DiskM} {n : Nat} {laid : List (List UInt8)} {line : List (Int × List UInt8)} (h : Qs x n laid line) : Qs (Zdo x) n (Zca laid line) [] := by
 obtain ⟨e,⟨qo,qa,ql⟩,hl,hn⟩ := h
 have hu : useB x.2.off x.2.armed x.2.left = true := by rw [qo,qa]; rfl
 have hw := DiskM.flush_yes (D := x.2) qo hu
 unfold Zdo
 rw [if_pos e,hw];refine ⟨rfl,⟨?_,qa,?_⟩,?_,rfl⟩
 ·show Zpd x.2.off x.2.armed x.2.left = false
  rw [qo,qa]; rfl
 ·show (Zca x.2.laid x.2.line).length = n
  rw [Zay]; exact ql
 ·show Zca x.2.laid x.2.line = _
  rw [hl,hn]
theorem Qs.puts (k : Int) {n : Nat} {laid : List (List UInt8)} : ∀ (l : List (Int × List UInt8)) {x : Int × DiskM} {line : List (Int × List UInt8)},Qs x n laid line → (∀ v ∈ l,0 ≤ k + v.1 ∧ k + v.1 < n ∧ v.2.length = 64) → Qs (Zgs k x l) n laid (line ++ l.map fun v => (k + v.1,v.2))
 | [],_,_,h,_ => by simpa [Zgs] using h
 | v :: l,x,line,h,hl => by
  have hv := hl v (List.mem_cons_self ..)
  have := Qs.puts k l (h.write hv.1 hv.2.1 hv.2.2) fun u hu => hl u (List.mem_cons_of_mem _ hu)
  simpa [Zgs] using this
theorem Qs.notes (m : Int) (d : List UInt8) (l : List (Int × List UInt8)) {n : Nat} {laid : List (List UInt8)} {x : Int × DiskM} {line : List (Int × List UInt8)} (h : Qs x n laid line) (hl : ∀ v ∈ l,v.2.length = 64) (hn : 2 * l.length < n) :
  ∀ i,i ≤ l.length → ∃ L,(∀ v ∈ L,0 ≤ v.1 ∧ v.1 < 1 + 2 * (l.length : Int)) ∧ Qs (Zcj m d l x i) n laid (line ++ L)
 | 0,_ => ⟨[],by simp,by simpa [Zcj] using h⟩
 | i + 1,hi => by
  obtain ⟨L,hL,hq⟩ := Qs.notes m d l h hl hn i (by omega)
  have hv : (l.getD i (0,[])).2.length = 64 := by
   rw [List.getD_eq_getElem?_getD,List.getElem?_eq_getElem (by omega)];exact hl _ (List.getElem_mem _)
  have h1 := hq.write (no := 1 + 2 * (i : Nat)) (b := Zhx m (i : Nat) (l.length : Nat) (l.getD i (0,[])).1 d) (by omega) (by omega) (Zf0 ..)
  have h2 := h1.write (no := 1 + 2 * (i : Nat) + 1) (b := (l.getD i (0,[])).2) (by omega) (by omega) hv
  refine ⟨L ++ [(1 + 2 * ((i : Nat) : Int),Zhx m (i : Nat) (l.length : Nat) (l.getD i (0,[])).1 d),(1 + 2 * ((i : Nat) : Int) + 1,(l.getD i (0,[])).2)],?_,by simpa [Zcj,Zhw,List.append_assoc] using h2⟩
  intro v hv
  rcases List.mem_append.1 hv with hv | hv
  ·exact hL v hv
  ·simp only [List.mem_cons,List.not_mem_nil,or_false] at hv
   rcases hv with rfl | rfl <;> (simp only; omega)
def Zcv (l : List (Int × List UInt8)) (m : Int) : Option (List UInt8) := (l.reverse.find? fun v => v.1 == m).map (·.2)
theorem Zed (v : Int × List UInt8) (l : List (Int × List UInt8)) (m : Int) : Zcv (v :: l) m = (Zcv l m).or (if v.1 = m then some v.2 else none) := by
 unfold Zcv
 rw [List.reverse_cons,List.find?_append];cases h : l.reverse.find? fun v => v.1 == m with
 | some x => simp
 | none => by_cases e : v.1 = m <;> simp [e]
theorem Zg7 {l : List (Int × List UInt8)} {m : Int} (h : ∀ v ∈ l,v.1 ≠ m) : Zcv l m = none := by
 unfold Zcv
 rw [List.find?_eq_none.2 (fun v hv => by simpa using h v (List.mem_reverse.1 hv))]; rfl
theorem Zmk (k m : Int) : ∀ l : List (Int × List UInt8),Zcv (l.map fun v => (k + v.1,v.2)) (k + m) = Zcv l m
 | [] => rfl
 | v :: l => by
  rw [List.map_cons,Zed,Zed,Zmk k m l]
  congr 1
  by_cases e : v.1 = m
  ·rw [if_pos e,if_pos (by rw [e])]
  ·rw [if_neg e,if_neg (fun h => e (Int.add_left_cancel h))]
theorem Zr4 {l : List (Int × List UInt8)} {m : Int} {s : List UInt8} (h : Zcv l m = some s) : (m,s) ∈ l := by
 unfold Zcv at h
 obtain ⟨v,hv,rfl⟩ := Option.map_eq_some_iff.1 h
 have h1 := List.mem_of_find?_eq_some hv
 have h2 := List.find?_some hv
 simp only [beq_iff_eq] at h2
 subst h2
 exact List.mem_reverse.1 h1
theorem Zdl : ∀ (xs : List (Int × List UInt8)) (l : List (List UInt8)) (k : Nat),k < l.length → (∀ v ∈ xs,0 ≤ v.1) → (Zca l xs).getD k [] = (Zcv xs k).getD (l.getD k [])
 | [],_,_,_,_ => rfl
 | v :: xs,l,k,hk,hx => by
  have hv := hx v (List.mem_cons_self ..)
  have ih := Zdl xs (l.set v.1.toNat v.2) k (by simpa using hk) fun u hu => hx u (List.mem_cons_of_mem _ hu)
  have e : Zca l (v :: xs) = Zca (l.set v.1.toNat v.2) xs := rfl
  rw [e,ih,Zed];cases Zcv xs k with
  | some s => rfl
  | none =>
   simp only [Option.getD_none,Option.none_or]
   rw [List.getD_eq_getElem?_getD,List.getElem?_set];by_cases e2 : v.1.toNat = k
   ·rw [if_pos e2,if_pos (by omega),if_pos (by omega)]; rfl
   ·rw [if_neg e2,if_neg (by omega)]; simp [List.getD_eq_getElem?_getD]
theorem Zve {D : DiskM} (h : D.line = []) (no : Int) : D.find no = D.laid.getD no.toNat [] := by unfold DiskM.find; rw [h]; rfl
theorem Zr5 {l : List (Int × List UInt8)} (h : Zbm l l.length = false) {v : Int × List UInt8} (hv : v ∈ l) : Zcv l v.1 = some v.2 := by
 obtain ⟨i,hi,rfl⟩ := List.mem_iff_getElem.1 hv
 cases h1 : Zcv l l[i].1 with
 | none =>
  unfold Zcv at h1
  rw [Option.map_eq_none_iff,List.find?_eq_none] at h1;have := h1 l[i] (List.mem_reverse.2 (List.getElem_mem _))
  simp at this
 | some s =>
  obtain ⟨k,hk,hk'⟩ := List.mem_iff_getElem.1 (Zr4 h1)
  have hg : ∀ {a : Nat} (ha : a < l.length),l.getD a (0,[]) = l[a] := fun ha => by simp [List.getD_eq_getElem?_getD,ha]
  rcases Nat.lt_trichotomy k i with hlt | rfl | hlt
  ·have := Znh (d := l) hi hlt (by rw [hg hk,hg hi,hk']) l.length hi
   rw [this] at h; cases h
  ·rw [hk']
  ·have := Znh (d := l) hk hlt (by rw [hg hk,hg hi,hk']) l.length hk
   rw [this] at h; cases h
structure Done (R : Int × DiskM × Int) (D : DiskM) (j n : Nat) (done : Int) (l : List (Int × List UInt8)) : Prop where
 e : R.1 = 0
 q : Quiet R.2.1 n
 line : R.2.1.line = []
 lo : done ≤ R.2.2
 hi : R.2.2 ≤ done + 1
 at_ : ∀ k,1 + j + k < n → R.2.1.laid.getD (1 + j + k) [] = (Zcv l (k : Nat)).getD (D.laid.getD (1 + j + k) [])
theorem Zse (rd fs : List Int) {D : DiskM} {j n : Nat} {done : Int} {l : List (Int × List UInt8)} (hq : Quiet D n) (hline : D.line = []) (hc : Zch l = 0) (hh : hasM ((n : Int) - 1 - j) l = true) (hm : (l.length : Int) ≤ (j : Int) / 2) (hd : done < last) :
  Done (Zbr rd fs D j done l) D j n done l := by
 have hgood : ∀ v ∈ l,0 ≤ v.1 ∧ v.1 < (n : Int) - 1 - j ∧ v.2.length = 64 := fun v hv => by
  have h1 := Zfb hc v hv
  have h2 := List.all_eq_true.1 hh v hv
  exact ⟨h1.1,of_decide_eq_true h2,h1.2⟩
 unfold Zbr
 rw [if_neg (by simp [hq.off]),if_neg (by simpa using hc),hq.len,if_neg (by simp [hh]),if_neg (by omega)]
 by_cases h0 : l = []
 ·rw [if_pos h0]
  subst h0
  exact ⟨rfl,hq,hline,Int.le_refl _,by simp only; omega,fun k hk => rfl⟩
 ·rw [if_neg h0]
  have hlen : 0 < l.length := List.length_pos_iff.2 h0
  obtain ⟨v0,hv0⟩ := List.exists_mem_of_ne_nil l h0
  have hv0 := hgood v0 hv0
  have hq0 : Qs (0,D) n D.laid [] := ⟨rfl,hq,rfl,hline⟩
  obtain ⟨L,hL,h1⟩ := hq0.notes (done + 1) (sumB rd fs (done + 1) l) l (fun v hv => (hgood v hv).2.2) (by omega) l.length (Nat.le_refl _)
  have h2 := Qs.puts (1 + j) l h1.flush (fun v hv => by have := hgood v hv; omega)
  have h3 := (h2.flush.write (no := 0) (b := Ze9 rd fs (done + 1)) (by omega) (by omega) (Zbw _)).flush
  have e : putM rd fs D j done l = Zdo (Zdv (Zdo (Zgs (1 + j) (Zdo (Zcj (done + 1) (sumB rd fs (done + 1) l) l (0,D) l.length)) l)) 0 (Ze9 rd fs (done + 1))) := rfl
  rw [← e] at h3;refine ⟨h3.e,h3.q,h3.line,?_,?_,fun k hk => ?_⟩
  ·simp only [h3.e,if_true]; omega
  ·simp only [h3.e,if_true]; omega
  ·simp only
   rw [h3.laid];have l1 : D.laid.length = n := hq.len
   rw [Zdl _ _ _ (by rw [Zay,Zay,l1]; exact hk) (fun v hv => by simp only [List.nil_append,List.mem_singleton] at hv; rw [hv]; exact Int.le_refl _),
    Zg7 (l := [] ++ [(0,Ze9 rd fs (done + 1))]) (fun v hv => by simp only [List.nil_append,List.mem_singleton] at hv; rw [hv]; simp only; omega),Option.getD_none,
    Zdl _ _ _ (by rw [Zay,l1]; exact hk) (fun v hv => by
     simp only [List.nil_append,List.mem_map] at hv
     obtain ⟨u,hu,rfl⟩ := hv
     have := hgood u hu
     simp only; omega),
    show ((1 + j + k : Nat) : Int) = (1 + (j : Int)) + (k : Nat) by omega,List.nil_append,Zmk]
   congr 1
   rw [Zdl _ _ _ (by rw [l1]; exact hk) (fun v hv => (hL v (by simpa using hv)).1),Zg7 (fun v hv => by have := hL v (by simpa using hv); omega)]
   rfl
end Cr
namespace Cr
open Go Go.Proofs
set_option maxRecDepth 10000
set_option maxHeartbeats 64000000

/-! ### maps as lists -/
section
variable {β γ : Type}
def getA (k : Int) : List (Int × β) → Option β
 | [] => none
 | x :: l => if k = x.1 then some x.2 else getA k l
def setA (k : Int) (v : β) : List (Int × β) → List (Int × β)
 | [] => [(k,v)]
 | x :: l => if k = x.1 then (k,v) :: l else x :: setA k v l
def delA (k : Int) : List (Int × β) → List (Int × β)
 | [] => []
 | x :: l => if k = x.1 then l else x :: delA k l
def Zaw (l : List (Int × β)) : List Int := l.map (·.1)
theorem getA_none {k : Int} : ∀ {l : List (Int × β)},getA k l = none ↔ k ∉ Zaw l
 | [] => by simp [getA,Zaw]
 | x :: l => by
  unfold getA
  by_cases h : k = x.1
  ·simp [h,Zaw]
  ·have := getA_none (k := k) (l := l)
   simp only [Zaw] at this
   simp [h,Zaw,this]
theorem Zjy {k : Int} {v : β} : ∀ {l : List (Int × β)},getA k l = some v → (k,v) ∈ l
 | x :: l,h => by
  unfold getA at h
  split at h
  ·rename_i e
   cases h
   rw [e]; exact List.mem_cons_self ..
  ·exact List.mem_cons_of_mem _ (Zjy h)
theorem Zeh {k : Int} {v : β} : ∀ {l : List (Int × β)},(Zaw l).Nodup → (k,v) ∈ l → getA k l = some v
 | x :: l,hn,h => by
  have hn' : x.1 ∉ Zaw l ∧ (Zaw l).Nodup := List.nodup_cons.1 hn
  unfold getA
  rcases List.mem_cons.1 h with e | h
  ·rw [← e]; simp
  ·have : k ≠ x.1 := fun e => hn'.1 (by rw [← e]; exact List.mem_map.2 ⟨_,h,rfl⟩)
   rw [if_neg this]; exact Zeh hn'.2 h
theorem Zeg {k k' : Int} {v : β} : ∀ {l : List (Int × β)},getA k (setA k' v l) = if k = k' then some v else getA k l
 | [] => by simp [setA,getA]
 | x :: l => by
  unfold setA
  by_cases h : k' = x.1
  ·rw [if_pos h]
   by_cases h2 : k = k'
   ·simp [getA,h2]
   ·simp [getA,h2,← h]
  ·rw [if_neg h]
   by_cases h2 : k = k'
   ·have := Zeg (k := k) (k' := k') (v := v) (l := l)
    subst h2
    simp only [getA,if_neg h]
    simpa using this
   ·simp [getA,h2,Zeg (k := k) (k' := k') (v := v) (l := l)]
theorem Zf5 {k k' : Int} : ∀ {l : List (Int × β)},(Zaw l).Nodup → getA k (delA k' l) = if k = k' then none else getA k l
 | [],_ => by simp [delA,getA]
 | x :: l,hn => by
  have hn' : x.1 ∉ Zaw l ∧ (Zaw l).Nodup := List.nodup_cons.1 hn
  unfold delA
  by_cases h : k' = x.1
  ·rw [if_pos h]
   by_cases h2 : k = k'
   ·rw [if_pos h2,getA_none,h2,h]; exact hn'.1
   ·simp [getA,h2,← h]
  ·rw [if_neg h]
   by_cases h2 : k = k'
   ·subst h2
    simp [getA,h,Zf5 (k := k) (k' := k) hn'.2]
   ·simp [getA,h2,Zf5 (k := k) (k' := k') hn'.2]
theorem Zis {k : Int} : ∀ {l : List (Int × β)},(Zaw (delA k l)).Sublist (Zaw l)
 | [] => by simp [delA,Zaw]
 | x :: l => by
  unfold delA
  split
  ·exact List.sublist_cons_self ..
  ·exact (Zis (k := k) (l := l)).cons_cons _
theorem delA_sub {k : Int} : ∀ {l : List (Int × β)},(delA k l).Sublist l
 | [] => by simp [delA]
 | x :: l => by
  unfold delA
  split
  ·exact List.sublist_cons_self ..
  ·exact (delA_sub (k := k) (l := l)).cons_cons _
theorem Zs7 {k : Int} {v : β} : ∀ {l : List (Int × β)},k ∉ Zaw l → setA k v l = l ++ [(k,v)]
 | [],_ => rfl
 | x :: l,h => by
  have h' : ¬ k = x.1 ∧ k ∉ Zaw l := by simpa [Zaw] using h
  simp [setA,h'.1,Zs7 h'.2]
theorem Ztz {k : Int} (f : β → γ) : ∀ {l : List (Int × β)},getA k (l.map fun x => (x.1,f x.2)) = (getA k l).map f
 | [] => rfl
 | x :: l => by
  simp only [List.map_cons,getA]
  split
  ·rfl
  ·exact Ztz f
theorem Zs8 {k : Int} {v : β} (f : β → γ) : ∀ {l : List (Int × β)},setA k (f v) (l.map fun x => (x.1,f x.2)) = (setA k v l).map fun x => (x.1,f x.2)
 | [] => rfl
 | x :: l => by
  simp only [List.map_cons,setA]
  split
  ·rfl
  ·simp [Zs8 f]
theorem Zt5 {k : Int} (f : β → γ) : ∀ {l : List (Int × β)},delA k (l.map fun x => (x.1,f x.2)) = (delA k l).map fun x => (x.1,f x.2)
 | [] => rfl
 | x :: l => by
  simp only [List.map_cons,delA]
  split
  ·rfl
  ·simp [Zt5 f]
end

/-! ### nodes -/
structure StatM where
 kind : Int
 mode : Int
 owner : Int
 group : Int
 deriving DecidableEq
def StatM.check (s : StatM) : Int := if ¬ (0 ≤ s.kind ∧ s.kind < 5) then 17 else if ¬ (0 ≤ s.mode ∧ s.mode < 4096) then 11 else if ¬ (0 ≤ s.owner ∧ s.owner < 65536) ∨ ¬ (0 ≤ s.group ∧ s.group < 65536) then 1 else 0
theorem StatM.check_ok {s : StatM} (h : s.check = 0) : (0 ≤ s.kind ∧ s.kind < 5) ∧ (0 ≤ s.mode ∧ s.mode < 4096) ∧ (0 ≤ s.owner ∧ s.owner < 65536) ∧ (0 ≤ s.group ∧ s.group < 65536) := by
 unfold StatM.check at h
 split at h
 ·cases h
 ·split at h
  ·cases h
  ·split at h
   ·cases h
   ·omega
def StatM.num (s : StatM) : Int := if s.check = 0 then ((s.kind * 4096 + s.mode) * 65536 + s.owner) * 65536 + s.group else 0
def nblk (n : Nat) : Nat := (n + 63) / 64
structure Nd where
 st : StatM
 data : List UInt8
 deriving DecidableEq
structure Sto where
 nd : Nd
 blocks : List Int
def Zgy (d : List UInt8) (i : Nat) : List UInt8 := Zc9 ((d.drop (64 * i)).take 64)
def Zrk (s : Sto) : List UInt8 := [1] ++ bigB s.nd.st.num 8 ++ bigB (s.nd.data.length : Nat) 4 ++ s.blocks.flatMap fun b => bigB b 4
def stoB (s : Sto) : List UInt8 := Zc9 (Zrk s)
def Zel : List UInt8 := [67,82,69,69,76]
def Zcr (rd fs : List Int) (n : Nat) : List UInt8 := Zc9 (Zel ++ bigB (n : Nat) 4 ++ digest rd fs [Zel,bigB (n : Nat) 4])
abbrev Ents := List (Int × Sto)
def Za0 (A : Ents) : List Int := A.flatMap fun x => x.2.blocks
structure Sto.ok (s : Sto) (nb : Nat) : Prop where
 st : s.nd.st.check = 0
 len : s.nd.data.length ≤ 512
 cnt : s.blocks.length = nblk s.nd.data.length
 low : ∀ b ∈ s.blocks,0 ≤ b ∧ b < nb
structure Enc (rd fs : List Int) (dat : List (List UInt8)) (n nb : Nat) (A : Ents) : Prop where
 len : dat.length = 1 + n + nb
 front : dat.getD 0 [] = Zcr rd fs n
 keys : ∀ k ∈ Zaw A,0 ≤ k ∧ k < n
 nodup : (Zaw A).Nodup
 node : ∀ i,i < n → dat.getD (1 + i) [] = match getA (i : Nat) A with | some s => stoB s | none => zero64
 ok : ∀ x ∈ A,x.2.ok nb
 at_ : ∀ x ∈ A,∀ k b,x.2.blocks[k]? = some b → dat.getD (1 + n + b.toNat) [] = Zgy x.2.nd.data k
 apart : (Za0 A).Nodup
abbrev Tb := List (Option Nd)
def tabOf (A : Ents) (n : Nat) : Tb := (List.range n).map fun i => (getA (i : Nat) A).map (·.nd)
theorem Zb8 (A : Ents) (n : Nat) : (tabOf A n).length = n := by simp [tabOf]
theorem Zfu (A : Ents) {n i : Nat} (h : i < n) : (tabOf A n)[i]? = some ((getA (i : Nat) A).map (·.nd)) := by simp [tabOf,h]
def Zwi (T : Tb) (nb : Nat) : Int := T.foldl (fun r x => match x with | some x => r - (nblk x.data.length : Nat) | none => r) (nb : Int)

/-! ### changes -/
structure Chg where
 no : Int
 nd : Nd
 drop : Bool
def badC : List Chg → Int
 | [] => 0
 | c :: l => if c.drop then badC l else if ¬ c.nd.st.check = 0 then c.nd.st.check else if 512 < c.nd.data.length then 2 else badC l
def Zl1 (l : List Chg) : Bool := Zbm (l.map fun c => (c.no,[])) l.length
def Zfc (l : List Chg) (n : Nat) : Int := if l.any (fun c => decide (c.no < 0) || decide ((n : Int) ≤ c.no)) then 1 else if Zl1 l then 8 else badC l
def Zg4 (x : Tb × Nat × Bool) (nb : Nat) (c : Chg) : Tb × Nat × Bool :=
 if x.2.2 then x else if c.drop then (x.1,x.2.1 + 1,false) else
 if Zwi x.1 nb < (nblk c.nd.data.length : Nat) then (x.1,x.2.1,true) else (x.1.set c.no.toNat (some c.nd),x.2.1 + 1 + nblk c.nd.data.length,false)
def Zjl (T : Tb) (l : List Chg) : Tb := l.foldl (fun T c => T.set c.no.toNat none) T
def runT (T : Tb) (nb : Nat) (l : List Chg) : Tb × Nat × Bool := l.foldl (fun x c => Zg4 x nb c) (Zjl T l,0,false)
def putT (T : Tb) (nb most : Nat) (l : List Chg) : Int × Tb :=
 if (runT T nb l).2.2 then (6,T) else if most < (runT T nb l).2.1 then (6,T) else (0,(runT T nb l).1)
def Zjh (T : Tb) (nb most : Nat) (l : List Chg) : Int × Tb := if ¬ Zfc l T.length = 0 then (Zfc l T.length,T) else putT T nb most l
def Zey (A : Ents) (l : List Chg) : Ents := l.foldl (fun A c => delA c.no A) A
def Zg8 (A : Ents) (nb : Nat) : List Int := ((List.range nb).map fun k => ((k : Nat) : Int)).filter fun b => decide (b ∉ Za0 A)
structure ApS where
 A : Ents
 free : List Int
 w : List (Int × List UInt8)
def Zco (n : Nat) (bs : List Int) (d : List UInt8) : List (Int × List UInt8) := (List.range bs.length).map fun i => (1 + (n : Int) + bs.getD i 0,Zgy d i)
def ApS.step (n : Nat) (z : ApS) (c : Chg) : Option ApS :=
 if c.drop then some { z with w := z.w ++ [(1 + c.no,zero64)] } else
 if z.free.length < nblk c.nd.data.length then none else
 some ⟨setA c.no ⟨c.nd,z.free.take (nblk c.nd.data.length)⟩ z.A,z.free.drop (nblk c.nd.data.length),z.w ++ (Zco n (z.free.take (nblk c.nd.data.length)) c.nd.data ++ [(1 + c.no,stoB ⟨c.nd,z.free.take (nblk c.nd.data.length)⟩)])⟩
def ApS.run (n : Nat) (z : ApS) : List Chg → Option ApS
 | [] => some z
 | c :: l => (z.step n c).bind fun z => z.run n l
def ApS.start (A : Ents) (nb : Nat) (l : List Chg) : ApS := ⟨Zey A l,Zg8 (Zey A l) nb,[]⟩
end Cr
namespace Cr
open Go Go.Proofs
set_option maxRecDepth 100000
set_option maxHeartbeats 64000000
attribute [local irreducible] Calls

theorem Z1t (n k : Int) (W : World) : Calls Tryz.prog 218 #[.int .i64 n,.int .i64 k] W (Ret fun v w => v = .bool (decide (0 ≤ n ∧ n < k)) ∧ W = w) := by
 by_cases h : 0 ≤ n
 ·by_cases h2 : n < k
  ·refine Zab Tryz.func218 rfl Tryz.ntmps218 rfl ?_
   repeat (first|refine Yer ?_|(refine X_id ?_;first|refine Yaf ?_|refine Yag ?_|refine Ya8 ?_|refine Ya2 ?_|refine Yb9 ?_)|refine Ye1 ?_|refine Yec ?_)
   exact ⟨by simp [h,h2],rfl⟩
  ·refine Zab Tryz.func218 rfl Tryz.ntmps218 rfl ?_
   repeat (first|refine Yer ?_|(refine X_id ?_;first|refine Yaf ?_|refine Yag ?_|refine Ya8 ?_|refine Ya6 ?_|refine Yb9 ?_)|refine Ye1 ?_|refine Yec ?_)
   exact ⟨by simp [h,h2],rfl⟩
 ·refine Zab Tryz.func218 rfl Tryz.ntmps218 rfl ?_
  repeat (first|refine Yep ?_|refine Yaf ?_|refine Yag ?_|refine Ya1 ?_|refine Yce ?_|refine Ye1 ?_|refine Yec ?_)
  exact ⟨by simp [h],rfl⟩
theorem Ze4 {n k : Int} (h : 0 ≤ n ∧ n < k) (W : World) : Calls Tryz.prog 218 #[.int .i64 n,.int .i64 k] W (Ret fun v w => v = .bool true ∧ W = w) := by
 have := Z1t n k W
 rwa [decide_eq_true h] at this
theorem Zol {n k : Int} (h : ¬ (0 ≤ n ∧ n < k)) (W : World) : Calls Tryz.prog 218 #[.int .i64 n,.int .i64 k] W (Ret fun v w => v = .bool false ∧ W = w) := by
 have := Z1t n k W
 rwa [decide_eq_false h] at this
abbrev StatM.cells (s : StatM) : List Value := [.int .i64 s.kind,.int .i64 s.mode,.int .i64 s.owner,.int .i64 s.group]
abbrev StatM.val (s : StatM) : Value := .agg (StatM.cells s).toArray
theorem Zr3 (s : StatM) (W : World) : Calls Tryz.prog 161 #[s.val] W (Ret fun v w => v = .int .i64 s.check ∧ St W noF [] w) := by
 have hS := St.start W
 by_cases h1 : 0 ≤ s.kind ∧ s.kind < 5
 ·by_cases h2 : 0 ≤ s.mode ∧ s.mode < 4096
  ·by_cases h3 : 0 ≤ s.owner ∧ s.owner < 65536
   ·by_cases h4 : 0 ≤ s.group ∧ s.group < 65536
    ·refine Zab Tryz.func161 rfl Tryz.ntmps161 rfl ?_
     repeat (first|refine Yer ?_|(refine X_id ?_;first|(refine Zaa 218 rfl rfl rfl rfl rfl (Ze4 h1 _) ?_;rintro _ _ ⟨rfl,rfl⟩)|(refine Zaa 218 rfl rfl rfl rfl rfl (Ze4 h2 _) ?_;rintro _ _ ⟨rfl,rfl⟩)|(refine Zaa 218 rfl rfl rfl rfl rfl (Ze4 h3 _) ?_;rintro _ _ ⟨rfl,rfl⟩)|(refine Zaa 218 rfl rfl rfl rfl rfl (Ze4 h4 _) ?_;rintro _ _ ⟨rfl,rfl⟩)|refine Yaf ?_|refine Yag ?_|refine Yan ?_|refine Ya1 ?_|refine Ybd ?_|refine Yap ?_|refine Ya5 (fun _ _ hS _ => ?_))|refine Yfd ?_|refine Yab ?_|refine Yaw ?_|refine Yam ?_)
     exact ⟨by simp [StatM.check,h1,h2,h3,h4],hS.drops⟩
    ·refine Zab Tryz.func161 rfl Tryz.ntmps161 rfl ?_
     repeat (first|refine Yer ?_|(refine X_id ?_;first|(refine Zaa 218 rfl rfl rfl rfl rfl (Ze4 h1 _) ?_;rintro _ _ ⟨rfl,rfl⟩)|(refine Zaa 218 rfl rfl rfl rfl rfl (Ze4 h2 _) ?_;rintro _ _ ⟨rfl,rfl⟩)|(refine Zaa 218 rfl rfl rfl rfl rfl (Ze4 h3 _) ?_;rintro _ _ ⟨rfl,rfl⟩)|(refine Zaa 218 rfl rfl rfl rfl rfl (Zol h4 _) ?_;rintro _ _ ⟨rfl,rfl⟩)|refine Yaf ?_|refine Yag ?_|refine Yan ?_|refine Ya1 ?_|refine Ybd ?_|refine Ybq ?_|refine Yap ?_|refine Ya5 (fun _ _ hS _ => ?_))|refine Yfc ?_|refine Yey ?_)
     exact ⟨by simp [StatM.check,h1,h2,h3,h4],hS.drops⟩
   ·refine Zab Tryz.func161 rfl Tryz.ntmps161 rfl ?_
    repeat (first|refine Yep ?_|(refine X_id ?_;first|(refine Zaa 218 rfl rfl rfl rfl rfl (Ze4 h1 _) ?_;rintro _ _ ⟨rfl,rfl⟩)|(refine Zaa 218 rfl rfl rfl rfl rfl (Ze4 h2 _) ?_;rintro _ _ ⟨rfl,rfl⟩)|(refine Zaa 218 rfl rfl rfl rfl rfl (Zol h3 _) ?_;rintro _ _ ⟨rfl,rfl⟩)|refine Yaf ?_|refine Yag ?_|refine Yan ?_|refine Ya8 ?_|refine Ybd ?_|refine Ybq ?_|refine Yap ?_|refine Ya5 (fun _ _ hS _ => ?_))|refine Yfc ?_|refine Yey ?_)
    exact ⟨by simp [StatM.check,h1,h2,h3],hS.drops⟩
  ·refine Zab Tryz.func161 rfl Tryz.ntmps161 rfl ?_
   repeat (first|refine Yea ?_|(refine X_id ?_;first|(refine Zaa 218 rfl rfl rfl rfl rfl (Ze4 h1 _) ?_;rintro _ _ ⟨rfl,rfl⟩)|(refine Zaa 218 rfl rfl rfl rfl rfl (Zol h2 _) ?_;rintro _ _ ⟨rfl,rfl⟩)|refine Yag ?_|refine Yan ?_|refine Ybd ?_|refine Ybq ?_|refine Yap ?_|refine Ya5 (fun _ _ hS _ => ?_))|refine Yfc ?_|refine Yey ?_)
   exact ⟨by simp [StatM.check,h1,h2],hS.drops⟩
 ·refine Zab Tryz.func161 rfl Tryz.ntmps161 rfl ?_
  repeat (first|refine Yea ?_|(refine X_id ?_;first|(refine Zaa 218 rfl rfl rfl rfl rfl (Zol h1 _) ?_;rintro _ _ ⟨rfl,rfl⟩)|refine Yag ?_|refine Yan ?_|refine Ybq ?_|refine Yap ?_|refine Ya5 (fun _ _ hS _ => ?_))|refine Yfb ?_|refine Yey ?_)
  exact ⟨by simp [StatM.check,h1],hS.drops⟩
theorem Ztm (s : StatM) (W : World) : Calls Tryz.prog 214 #[s.val] W (Ret fun v w => v = .int .i64 s.num ∧ St W noF [] w) := by
 have hc := Zr3 s
 have hS := St.start W
 by_cases h : s.check = 0
 ·have h4 := StatM.check_ok h
  rw [h] at hc;refine Zab Tryz.func214 rfl Tryz.ntmps214 rfl ?_
  repeat (first|refine Yea ?_|(refine X_id ?_;first|(refine Zad 161 rfl rfl rfl rfl rfl hS (hc _) ?_;rintro _ _ rfl hS)|refine Yag ?_|refine Yan ?_|refine Ya4 ?_|refine Ya0 ?_|refine Ycf ?_|refine Yap ?_|refine Ybg ?_|refine Ya5 (fun _ _ hS _ => ?_))|refine Yfa ?_|refine Yec ?_)
  exact ⟨by simp [StatM.num,h],hS.drops⟩
 ·refine Zab Tryz.func214 rfl Tryz.ntmps214 rfl ?_
  repeat (first|refine Yea ?_|(refine X_id ?_;first|(refine Zad 161 rfl rfl rfl rfl rfl hS (hc _) ?_;rintro _ _ rfl hS)|refine Yag ?_|refine Ybj ?_|refine Ybg ?_|refine Ya5 (fun _ _ hS _ => ?_))|refine Yek ?_|refine Yel ?_)
  exact ⟨by simp [StatM.num,h],hS.drops⟩
theorem Zlq {n : Int} {c k : Nat} (h : k < c) : (bigB n c).take (k + 1) = (bigB n c).take k ++ [Z0v n c k] := by
 rw [List.take_add_one]
 congr 1
 have hl : k < (bigB n c).length := by rw [Zag]; exact h
 have := Zqw n c k h c (Nat.le_refl _)
 rw [if_pos h] at this;have e : (bigB n c)[k] = (bigB n c).getD k 0 := by rw [List.getD_eq_getElem?_getD,List.getElem?_eq_getElem hl]; rfl
 rw [List.getElem?_eq_getElem hl,e];unfold bigB
 rw [this]; rfl
theorem Zn6 (n : Int) (c : Nat) (hc : c ≤ 64) (W : World) :
  Calls Tryz.prog 143 #[.int .i64 n,.int .i64 (c : Nat)] W (Ret fun v w => ∃ a k,v = .slice a c k ∧ c ≤ k ∧ St W noF [own 5 1 a k (bv (bigB n c))] w) := by
 have hS := St.start W
 refine Zab Tryz.func143 rfl Tryz.ntmps143 rfl ?_
 repeat (first|refine Yea ?_|refine Yaf ?_|refine Yag ?_|refine Ybz ?_|refine Yed ?_|refine Yab ?_)
 refine Zal (α := Nat × Option Addr × Nat) (fun z => [(0,.int .i64 n),(1,.int .i64 (c : Nat)),(5,.slice z.2.1 z.1 z.2.2),(6,.int .i64 ((c : Int) - 1 - (z.1 : Nat)))])
  (fun z w => z.1 ≤ c ∧ z.1 ≤ z.2.2 ∧ St W noF [own 5 1 z.2.1 z.2.2 (bv ((bigB n c).take z.1))] w) (fun z => c - z.1) (0,none,0) ⟨rfl,rfl,rfl,by simp [look],trivial⟩ ⟨Nat.zero_le _,Nat.le_refl _,hS.own_none _ _ _⟩ ?_
 clear hS;rintro ⟨i,a,k⟩ w ⟨hi,hk,hS⟩
 simp only at hi hk hS ⊢
 have htl : ((bigB n c).take i).length = i := by rw [List.length_take,Zag]; omega
 by_cases hlt : i < c
 ·have e8 : (8 * ((c : Int) - 1 - (i : Nat))).toNat = 8 * (c - 1 - i) := by omega
  repeat (first|refine Yea ?_|(refine X_id ?_;first|refine Yaf ?_|refine Yb9 ?_|refine Ycf ?_|refine Yc7 ?_|refine Yc4 ?_|refine Yc0 ?_|refine Ybn (fun _ _ hS _ => ?_))|refine Yee ?_|refine Yab ?_)
  rw [e8];repeat (first|fail)
  refine Zar (n := i) (m := 1) rfl rfl rfl rfl rfl hS (by simp [htl]) hk ((hS.rd (List.mem_cons_self ..)).own_row) (by simp) (by simp [Value.oneCell']) (by omega) (by simp only [maxLen]; omega) (fun a' c' w hS hc' _ => ?_)
  repeat (first|refine Yea ?_|refine Yaf ?_|refine Yag ?_|refine Ybz ?_|refine Yad ?_|refine Yei ?_)
  have e1 : (c : Int) - 1 - ((i + 1 : Nat) : Int) = (c : Int) - 1 - (i : Nat) - 1 := by omega
  refine Zaf (z := (i,a,k)) (i + 1,a',c') ⟨rfl,rfl,rfl,by simp only; rw [e1]; rfl,trivial⟩ ⟨by simp only; omega,hc',?_⟩ (by simp only; omega)
  rw [e8] at hS;show St W noF [own 5 1 a' c' (bv ((bigB n c).take (i + 1)))] w
  rw [Zlq hlt,Zem];have h := hS.pick [0]
  exact h
 ·obtain rfl : i = c := by omega
  rw [List.take_of_length_le (by rw [Zag]; omega)] at hS
  repeat (first|refine Yea ?_|refine Yaf ?_|refine Yag ?_|refine Yce ?_|refine Yej ?_|refine Yfe ?_)
  exact ⟨a,k,rfl,hk,hS⟩
theorem Zrm (s : List UInt8) : Zai (bv (List.replicate 64 0)) 0 ((bv s).take 64) = bv (Zc9 s) := by
 unfold Zai Zc9
 rw [List.take_append,Zem,Zk9];simp only [List.take_zero,List.nil_append,Nat.zero_add]
 congr 1
 rw [List.length_take,Zah,← Zgb,List.take_replicate,List.drop_replicate,Zgb]
 congr 2
 omega
theorem Zoc (a : Option Addr) (c : Nat) (s : List UInt8) (W : World) (hs : Rd W (bytes a s)) :
  Calls Tryz.prog 83 #[.slice a s.length c] W (Ret fun v w => ∃ p,v = .slice (some ⟨p,0,none⟩) 64 64 ∧ St W noF [bytes (some ⟨p,0,none⟩) (Zc9 s)] w) := by
 have hS := St.start W
 have hso := hs.ro
 refine Zab Tryz.func83 rfl Tryz.ntmps83 rfl ?_
 repeat (first|refine Yea ?_|refine Yag ?_|refine Yeb ?_|refine Yab ?_)
 refine Zll (c := 64) rfl rfl rfl (by omega) (by omega) rfl rfl hS (fun p w hS => ?_)
 repeat (first|refine Yea ?_|refine Yen ?_|refine Yeb ?_|refine Yab ?_)
 refine Zrc rfl rfl rfl rfl rfl hS (hso.rd hS) (by simp) Zfd (by simp) (fun w hS => ?_)
 rw [Zrm] at hS;repeat (first|refine Yea ?_|refine Yen ?_|refine Ye1 ?_|refine Yec ?_)
 exact ⟨p,rfl,hS.head Znt⟩
theorem Ztx (n : Nat) (W : World) (hn : n ≤ 1099511627776) : Calls Tryz.prog 150 #[.int .i64 (n : Nat)] W (Ret fun v w => v = .int .i64 (nblk n : Nat) ∧ W = w) := by
 by_cases h0 : n = 0
 ·subst h0
  refine Zab Tryz.func150 rfl Tryz.ntmps150 rfl ?_
  repeat (first|refine Yea ?_|refine Yaf ?_|refine Yag ?_|refine Ya2 ?_|refine Yek ?_|refine Yel ?_)
  exact ⟨rfl,rfl⟩
 ·have e : ((nblk n : Nat) : Int) = ((n : Int) - 1) / 64 + 1 := by unfold nblk; omega
  rw [e];refine Zab Tryz.func150 rfl Tryz.ntmps150 rfl ?_
  repeat (first|refine Yea ?_|(refine X_id ?_;first|refine Yaf ?_|refine Yag ?_|refine Ya6 ?_|refine Ya0 ?_|refine Ybz ?_|refine Ydf ?_)|refine Yfa ?_|refine Yec ?_)
  exact ⟨rfl,rfl⟩
theorem Z69 (n : Nat) (W : World) (hn : n ≤ 1099511627776) :
  Calls Tryz.prog 209 #[.slice none 0 0,.int .i64 (n : Nat)] W (Ret fun v w => ∃ a c,v = .slice a 0 c ∧ St W noF [own 5 1 a c []] w) := by
 have hS := (St.start W).own_none 5 1 none
 by_cases h0 : n = 0
 ·subst h0
  refine Zab Tryz.func209 rfl Tryz.ntmps209 rfl ?_
  repeat (first|refine Yea ?_|(refine X_id ?_;first|refine Yaf ?_|refine Yag ?_|refine Yav ?_|refine Ydp ?_|refine Ya6 ?_|refine Ybs ?_|refine Ybz ?_)|refine Yfa ?_|refine Yec ?_)
  exact ⟨none,0,rfl,hS⟩
 ·refine Zab Tryz.func209 rfl Tryz.ntmps209 rfl ?_
  repeat (first|refine Yea ?_|(refine X_id ?_;first|refine Yaf ?_|refine Yag ?_|refine Yav ?_|refine Ydp ?_|refine Ya6 ?_|refine Ybx ?_|refine Ybz ?_)|refine Yfq ?_|refine Yab ?_)
  refine X_yl (Zap (l := 0) (h := 0) rfl rfl rfl rfl (.inr ⟨_,_,rfl,by omega,by omega,by omega⟩) (.inl ⟨rfl,rfl⟩)) rfl rfl ?_
  rw [sub_zero];repeat (first|refine Yaa ?_|refine Yaf ?_)
  have e0 : ((n : Int) - (((0 : Nat) : Int) - ((0 : Nat) : Int))) = (n : Nat) := by omega
  refine Zyn (m := n) (n := 0) rfl rfl (by first | rfl | (rw [e0]; rfl) | (simp only [e0]; rfl)) rfl rfl rfl rfl hS rfl (by omega) (by omega) (by simp only [maxLen]; omega) (fun a c w hS hc _ => ?_)
  repeat (first|refine Yaa ?_|refine Yaf ?_|refine Yav ?_)
  refine X_yl (Zap (l := 0) (h := 0) rfl rfl rfl rfl (.inr ⟨_,_,rfl,by omega,by omega,by omega⟩) (.inl ⟨rfl,rfl⟩)) rfl rfl ?_
  rw [sub_zero];repeat (first|refine Yea ?_|refine Yen ?_|refine Ye1 ?_|refine Yec ?_)
  exact ⟨a,c,rfl,hS.head (own.shrink 0)⟩
theorem Zk6 (a : Option Addr) (c : Nat) (l : List Bs) (W : World) (hB : Bss W noF a l) (hl : l.length ≤ 1099511627776) (hn : (Zaj l).length ≤ 1099511627776) :
  Calls Tryz.prog 145 #[.slice a l.length c] W (Ret fun v w => ∃ a' c',v = .slice a' (Zaj l).length c' ∧ (Zaj l).length ≤ c' ∧ St W noF [own 5 1 a' c' (bv (Zaj l))] w) := by
 have hS := St.start W
 have hBr := hB.row
 refine Zab Tryz.func145 rfl Tryz.ntmps145 rfl ?_
 repeat (first|refine Yea ?_|refine Yfj ?_|refine Yed ?_|refine Yab ?_)
 refine Zbz (α := Unit) (fun _ => [(0,.slice a l.length c),(3,.int .i64 ((Zaj l).length : Nat))]) (fun _ w => St W noF [] w) ?_ ?_
 ·refine Zal (α := Nat) (fun i => [(0,.slice a l.length c),(3,.int .i64 ((Zaj (l.take i)).length : Nat)),(9,.slice a l.length c),(10,.int .i64 (l.length : Nat)),(11,.int .i64 (i : Nat))])
   (fun i w => i ≤ l.length ∧ St W noF [] w) (fun i => l.length - i) 0 ⟨rfl,rfl,rfl,rfl,rfl,trivial⟩ ⟨Nat.zero_le _,hS⟩ ?_
  clear hS;rintro i w ⟨hi,hS⟩
  have hle := Zbq l i
  by_cases hlt : i < l.length
  ·have hx0 : l[i]? = some l[i] := List.getElem?_eq_getElem hlt
   generalize l[i] = x at hx0;have hj := Zc8 hx0
   have hle2 := Zbq l (i + 1)
   have hjl : (Zaj (l.take (i + 1))).length = (Zaj (l.take i)).length + x.s.length := by rw [hj]; simp
   have hr := hBr
   have hx : (l.map Bs.val)[i]? = some (.slice x.a x.s.length x.c) := by simp [hx0,Bs.val]
   obtain ⟨xb,xo,rfl⟩ := (hr.rd hS).base (by intro e; rw [e] at hx; simp at hx)
   repeat (first|refine Yea ?_|(refine X_id ?_;first|refine Yaf ?_|refine Yag ?_|refine Yav ?_|refine Ya2 ?_|refine Ya6 ?_|refine Ybc ?_|refine Ya0 ?_|refine Yb2 ?_)|refine Yeh ?_|refine Yei ?_)
   refine Zaf (i + 1) ⟨rfl,?_,rfl,rfl,rfl,trivial⟩ ⟨by omega,hS⟩ (by omega)
   rw [hjl]; rfl
  ·obtain rfl : i = l.length := by omega
   rw [List.take_length];repeat (first|refine Yea ?_|refine Ya6 ?_|refine Yeq ?_|refine Yeg ?_)
   exact Zbp () ⟨rfl,rfl,trivial⟩ hS
 ·clear hS
  rintro _ w hS
  repeat (first|refine Yaa ?_|refine Yaf ?_|refine Yeb ?_)
  refine Zaa _ rfl rfl rfl rfl rfl (Z69 (Zaj l).length _ hn) ?_
  rintro _ w ⟨a1,c1,rfl,hS'⟩
  replace hS := hS.plus hS';clear hS';repeat (first|refine Yea ?_|refine Yfj ?_|refine Yed ?_|refine Yab ?_)
  refine Zal (α := Nat × Option Addr × Nat) (fun z => [(6,.slice z.2.1 (Zaj (l.take z.1)).length z.2.2),(25,.slice a l.length c),(26,.int .i64 (l.length : Nat)),(27,.int .i64 (z.1 : Nat))])
   (fun z w => z.1 ≤ l.length ∧ (Zaj (l.take z.1)).length ≤ z.2.2 ∧ St W noF [own 5 1 z.2.1 z.2.2 (bv (Zaj (l.take z.1)))] w) (fun z => l.length - z.1) (0,a1,c1) ⟨rfl,rfl,rfl,rfl,trivial⟩ ⟨Nat.zero_le _,by simp [Zaj],hS⟩ ?_
  clear hS;rintro ⟨i,a2,c2⟩ w ⟨hi,hc,hS⟩
  simp only at hi hc hS ⊢
  have hle := Zbq l i
  by_cases hlt : i < l.length
  ·have hx0 : l[i]? = some l[i] := List.getElem?_eq_getElem hlt
   have hxm := List.getElem_mem hlt
   generalize l[i] = x at hx0 hxm;have hj := Zc8 hx0
   have hle2 := Zbq l (i + 1)
   have hjl : (Zaj (l.take (i + 1))).length = (Zaj (l.take i)).length + x.s.length := by rw [hj]; simp
   have hr := hBr
   have hx : (l.map Bs.val)[i]? = some (.slice x.a x.s.length x.c) := by simp [hx0,Bs.val]
   obtain ⟨xb,xo,rfl⟩ := (hr.rd hS).base (by intro e; rw [e] at hx; simp at hx)
   have hbx := hB.all x hxm
   repeat (first|refine Yea ?_|refine Yfk ?_|refine Yee ?_|refine Yab ?_)
   refine Zar rfl rfl rfl rfl rfl hS (by simp) hc (hbx.rd hS) (by simp) Zfd (by omega) (by simp only [maxLen]; omega) (fun a' c' w hS hc' _ => ?_)
   repeat (first|refine Yea ?_|refine Yes ?_|refine Yad ?_|refine Yei ?_)
   refine Zaf (z := (i,a2,c2)) (i + 1,a',c') ⟨?_,rfl,rfl,rfl,trivial⟩ ⟨by simp only; omega,by simp only; omega,?_⟩ (by simp only; omega)
   ·simp only
    rw [hjl]; rfl
   ·simp only
    rw [hj,Zem];exact hS
  ·obtain rfl : i = l.length := by omega
   rw [List.take_length] at hS hc ⊢;repeat (first|refine Yea ?_|refine Yfi ?_|refine Yej ?_|refine Yfe ?_)
   exact ⟨a2,c2,rfl,hc,hS⟩
end Cr
