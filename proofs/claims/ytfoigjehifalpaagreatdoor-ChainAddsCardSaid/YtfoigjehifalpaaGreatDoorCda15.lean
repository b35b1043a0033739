/-
  Layer 11 (chain): all records read.
  Layer 11 (chain): Open.
  Layer 11 (chain): Add.
  Layer 11 (chain): Whole; the laws' known answers,off the contracts.
  The laws of layer 11: what few has made,marks in their row.
  The law ChainAdds: what it computes.
-/
import Derived.Test.YtfoigjehifalpaaGreatDoorCda14
import Derived.Test.YtfoigjehifalpaaGreatDoorCda9
import Derived.Test.YtfoigjehifalpaaGreatDoorCda8
import Derived.Test.YtfoigjehifalpaaGreatDoorCda4
import Derived.Test.YtfoigjehifalpaaGreatDoorCda13
namespace Cr
open Go Go.Proofs
set_option maxRecDepth 100000
set_option maxHeartbeats 8000000
attribute [local irreducible] Calls

theorem Zgd (rd fs : List Int) (l m : List (List UInt8)) : ∀ {n : Nat},n ≤ l.length → Zau rd fs (l ++ m) n = Zau rd fs l n
 | 0,_ => rfl
 | n + 1,h => by
  show digest rd fs [Zau rd fs (l ++ m) n,_,_] = digest rd fs [Zau rd fs l n,_,_]
  rw [Zgd rd fs l m (by omega),List.getD_eq_getElem?_getD,List.getElem?_append_left (by omega),List.getD_eq_getElem?_getD]
theorem Zld (rd fs : List Int) (l : List (List UInt8)) (s : List UInt8) : Za2 rd fs (l ++ [s]) = Za2 rd fs l ++ [recV s (digest rd fs [Zau rd fs l l.length,be8 (l.length : Nat),s])] := by
 unfold Za2
 rw [List.length_append,List.length_singleton,List.range_succ,List.map_append,List.map_singleton]
 congr 1
 ·refine List.map_congr_left fun i hi => ?_
  rw [List.mem_range] at hi
  rw [Zgd rd fs l [s] (by omega),List.getD_eq_getElem?_getD,List.getElem?_append_left hi,List.getD_eq_getElem?_getD]
 ·have e : (l ++ [s]).getD l.length [] = s := by simp
  rw [e]
  show [recV s (digest rd fs [Zau rd fs (l ++ [s]) l.length,be8 (l.length : Nat),(l ++ [s]).getD l.length []])] = _
  rw [e,Zgd rd fs l [s] (Nat.le_refl _)]
theorem Zf7 (rd fs : List Int) : ∀ (k : Nat) (l : List (List UInt8)),l.length = k → k ≤ 7 → (∀ s ∈ l,s.length ≤ 400) → TreeOk 10 (trV (Za2 rd fs l))
 | 0,l,hl,_,_ => by
  obtain rfl := List.eq_nil_of_length_eq_zero hl
  exact Z43
 | k + 1,l,hl,hk,h4 => by
  rcases List.eq_nil_or_concat l with rfl | ⟨l,s,rfl⟩
  ·cases hl
  rw [List.concat_eq_append] at hl h4 ⊢
  rw [List.length_append,List.length_singleton] at hl
  have ih := Zf7 rd fs k l (by omega) (by omega) fun x hx => h4 x (List.mem_append_left _ hx)
  rw [Zld]
  have hp := Zrr (vs := Za2 rd fs l) (v := recV s (digest rd fs [Zau rd fs l l.length,be8 (l.length : Nat),s])) (by rw [Zb0]; omega) (Zm3 _ _) (Zm2 (h4 s (by simp)) (Zap _ _ _))
  rw [if_pos (by rw [Zb0]; omega)] at hp
  have := Zxo ih logN (keyD (Za2 rd fs l).length) (recV s (digest rd fs [Zau rd fs l l.length,be8 (l.length : Nat),s]))
  rw [hp] at this
  exact this
theorem Zxz {m : List UInt8} (h : m.length = 32) (z : Value) (r : List Value) : Spl (List.replicate 32 z ++ r) 0 (bv m) (bv m ++ r) := by
 have h2 : (bv m).length = 32 := by rw [Zaf]; exact h
 refine ⟨by rw [h2,List.length_append,List.length_replicate]; omega,?_⟩
 rw [h2]; rfl
theorem Zxy {m : List UInt8} (h : m.length = 32) (u v : Value) (r : List Value) : Spl (bv m ++ (u :: r)) 32 [v] (bv m ++ (v :: r)) := by
 have h2 : (bv m).length = 32 := by rw [Zaf]; exact h
 refine ⟨by simp only [List.length_cons,List.length_append,List.length_nil]; omega,?_⟩
 have e1 : (bv m ++ u :: r).take 32 = bv m := by
  have := List.take_left (l₁ := bv m) (l₂ := u :: r)
  rwa [h2] at this
 have e2 : (bv m ++ u :: r).drop (32 + [v].length) = r := by
  rw [show 32 + [v].length = (bv m).length + 1 by rw [h2]; rfl,List.drop_length_add_append]; rfl
 rw [e1,e2]; simp
section
variable {c f tp : Nat} {b : Int} {T : Int → Option Nd} {X : List RowD}
theorem St.chRX {W : World} {F : Nat → Prop} {N : Int → Option Nd} {rs : List Res} {w : World} {a : Option Addr} {cs : List Value} (hS : St W F (chR c f b T N X :: rs) w) (hx : RX X a cs) : ∃ X',(∀ y ∈ X,y ∈ X') ∧ (a,cs) ∈ X' ∧ St W F (chR c f b T N X' :: rs) w := by
 rcases hx with rfl | hx
 ·exact ⟨[(a,[])] ++ X,fun y hy => List.mem_append_right _ hy,List.mem_cons_self ..,((hS.own_none 0 1 a).toBag fun _ h => own.row h).chAdd⟩
 ·exact ⟨X,fun _ h => h,hx,hS⟩
theorem BsIn.snoc {L : List Bs} {X X' : List RowD} (h : BsIn L X) (hX : ∀ y ∈ X,y ∈ X') {x : Bs} (hx : (x.a,bv x.s) ∈ X') (hc : x.s.length ≤ x.c) : BsIn (L ++ [x]) X' :=
 ⟨fun y hy => by
  rcases List.mem_append.1 hy with hy | hy
  ·exact hX _ (h.inn y hy)
  ·obtain rfl := List.mem_singleton.1 hy
   exact hx,fun y hy => by
  rcases List.mem_append.1 hy with hy | hy
  ·exact h.cap y hy
  ·obtain rfl := List.mem_singleton.1 hy
   exact hc⟩
theorem Zwi (i : Nat) (hi : i < 10) (W : World) (hG : Lg W noF) : Calls Tryz.prog 22 #[.int .i64 (i : Nat)] W (Ret fun v w => v = .string (str (keyD i)) ∧ St W noF [] w) := by
 have := Z5s i W hG (by omega) (by rw [Zdp,Lib.decDigits_one hi]; simp)
 rwa [Z3j hi] at this
theorem Zz4 (rd fs : List Int) (l : List (List UInt8)) (hl7 : l.length ≤ 7) (h4 : ∀ s ∈ l,s.length ≤ 400) (tb : Nat) (W : World) (F : Nat → Prop) (hT : TreeRo W F f tp 10 b T) (hG : Lg W F) (hD : Gl W F rd fs) (htb : Ro W F (pts tb (tbC c logN))) (hS : St W F [chR c f b T (Nt (trV (Za2 rd fs l))) X] W) :
  Calls Tryz.prog 72 #[.pointer (some ⟨tb,0,none⟩)] W (Ret fun v w => ∃ (x : Nat) (ra : Option Addr) (rc : Nat) (L : List Bs) (X' : List RowD),v = .tuple #[.pointer (some ⟨x,0,none⟩),.bool true] ∧ (∀ y ∈ X,y ∈ X') ∧ Zar L = l ∧ BsIn L X' ∧ l.length ≤ rc ∧
   St W F [pts x (chnC l.length (Zau rd fs l l.length) tb ra rc),own 35 1 ra rc (L.map Bs.val),chR c f b T (Nt (trV (Za2 rd fs l))) X'] w) := by
 have ht := Zf7 rd fs _ l rfl hl7 h4
 have hl33 : LenO (endV 0 (Zc5 rd fs Zec)) 33 := ⟨by rw [List.length_cons,Zaf,Zbx]⟩
 refine Zab Tryz.func72 rfl Tryz.ntmps72 rfl ?_
 repeat (first|refine Yd7 ?_|refine Yag ?_|refine Yae ?_|refine Ycf ?_|refine Yad ?_|refine Yab ?_)
 refine Zaa _ rfl rfl rfl rfl rfl (Z0a rd fs _ (hD.mono fun r hr => (hr.rd hS).ro)) ?_
 rintro _ w ⟨rfl,hS'⟩
 replace hS := hS.plus hS'
 clear hS'
 have hm0 : (Zc5 rd fs Zec).length = 32 := Zbx _ _ _
 have hs1 := fun z r => Zxz hm0 z r
 have hs2 := fun u v r => Zxy hm0 u v r
 repeat (first|refine Yd7 ?_|refine Yaf ?_|refine Yag ?_|refine Ybn ?_|refine Ya9 (fun _ _ hS _ => ?_)|refine Yae ?_|refine Zg8 ?_|refine Yak ?_|refine Yab ?_)
 rename_i xb _ _
 have hS := hS.own_none 35 1 none
 refine Zal (α := Nat × Option Addr × Nat × List Bs × List RowD) (fun z => [(0,.pointer (some ⟨tb,0,none⟩)),(4,.pointer (some ⟨xb,0,none⟩))])
  (fun z w => z.1 ≤ l.length ∧ (∀ y ∈ X,y ∈ z.2.2.2.2) ∧ Zar z.2.2.2.1 = l.take z.1 ∧ BsIn z.2.2.2.1 z.2.2.2.2 ∧ z.1 ≤ z.2.2.1 ∧ z.2.2.2.1.length = z.1 ∧
   St W F [pts xb (.cells (endX z.1 (Zau rd fs l z.1) [.pointer (some ⟨tb,0,none⟩),.slice z.2.1 z.1 z.2.2.1]).toArray 150 (0,0)),own 35 1 z.2.1 z.2.2.1 (z.2.2.2.1.map Bs.val),chR c f b T (Nt (trV (Za2 rd fs l))) z.2.2.2.2] w)
  (fun z => l.length - z.1) (0,none,0,[],X) ⟨rfl,rfl,trivial⟩ ⟨Nat.zero_le _,fun _ h => h,rfl,⟨fun _ h => (List.not_mem_nil h).elim,fun _ h => (List.not_mem_nil h).elim⟩,Nat.le_refl _,rfl,hS.pick [1,0,0]⟩ ?_
 clear hS
 rintro ⟨i,ra,rc,L,X1⟩ w ⟨hi,hX1,hT1,hB1,hrc,hL1,hS⟩
 simp only at hi hX1 hT1 hB1 hrc hL1 hS ⊢
 obtain ⟨m,hm⟩ : ∃ m,m = Zau rd fs l i := ⟨_,rfl⟩
 have hm32 : m.length = 32 := by rw [hm]; exact Za1 _ _ _ _
 rw [← hm] at hS
 repeat (first|refine Yaa ?_|refine Yaf ?_|refine Yat ?_|refine Yan ?_|refine Yap ?_|refine Yea ?_)
 refine Zaa _ rfl rfl rfl rfl rfl (Zwi i (by omega) _ (hG.at_ hS)) ?_
 rintro _ w ⟨rfl,hS'⟩
 replace hS := hS.plus hS'
 clear hS'
 repeat (first|refine Yd7 ?_|refine Yel ?_|refine Yd8 ?_|refine Yab ?_)
 obtain ⟨_,hcc,hr1,hw,hbk⟩ := hS.call [false,false,true]
 refine Zaa _ rfl rfl rfl rfl rfl (Z40 ht tb logN (keyD i) _ _ (hT.mono hw) (hG.mono hw) (hw _ htb) hcc) ?_
 rintro v w ⟨X2,hX2,hS,hv⟩
 replace hS := hbk hS
 clear hbk hw hcc hr1
 have hX12 : ∀ y ∈ X,y ∈ X2 := fun y hy => hX2 y (hX1 y hy)
 by_cases hlt : i < l.length
 ·have hv0 := Zro (rd := rd) (fs := fs) hlt
  obtain ⟨s,hs⟩ : ∃ s,s = l.getD i [] := ⟨_,rfl⟩
  have hsi : l[i]? = some s := by rw [hs,List.getD_eq_getElem?_getD]; simp [hlt]
  have hs4 := h4 s (List.mem_of_getElem? hsi)
  have hnx : Zau rd fs l (i + 1) = digest rd fs [m,be8 (i : Nat),s] := by rw [hm,hs]; rfl
  have hd32 : (digest rd fs [m,be8 (i : Nat),s]).length = 32 := Zap _ _ _
  rw [← hs,hnx] at hv0
  rw [Zxq (by rw [Zb0]; omega) hv0 (Zm3 _ _) (Zrz (by omega) (by omega))] at hv
  obtain ⟨cs,rfl,hM⟩ := hv
  obtain ⟨e1,e2,e3,e4,e5,rfl,_⟩ := hM.lit
  have hm2 : LenO (bv (digest rd fs [m,be8 (i : Nat),s])) 32 := ⟨by rw [Zaf]; exact hd32⟩
  generalize hdg : digest rd fs [m,be8 (i : Nat),s] = d at *
  repeat (first|refine Yen ?_|(refine X_id ?_;first|refine Yaf ?_|refine Yag ?_|refine Yay ?_|refine Ya4 ?_|refine Ybi ?_|refine Yba ?_|refine Ybg ?_|refine Yao (fun _ hS _ => ?_)|refine Yar (fun _ _ hS _ => ?_)|refine X_yl (Ze5 rfl rfl rfl) rfl rfl ?_)|refine Yez ?_|refine Yef ?_)
  refine Zaa _ rfl rfl rfl rfl rfl (Z00 (R := RX X2) _ (fun a cs h => (h.rd (hS.rd (r := chR c f b T (Nt (trV (Za2 rd fs l))) X2) (by simp)).ch).ro) s d hs4 hd32 _ hM) ?_
  rintro _ w ⟨a,q,rfl,hq,hrow,hS'⟩
  replace hS := hS.plus hS'
  clear hS'
  repeat (first|refine Yd7 ?_|refine Ye3 ?_|refine Yao (fun _ hS _ => ?_)|refine Yar (fun _ _ hS _ => ?_)|refine Yae ?_|refine Yab ?_)
  refine Zao (.s 0 (.s 1 (.s 2 (.s 3 (.s 4 (.s 5 (.s 6 (.s 7 (.s 8 (.s 9 (.s 10 (.s 11 (.s 12 (.s 13 (.s 15 (.h 14 (.s 16 (.s 17 .nil)) .no)))))))))))))))) mixed (by kernel_rfl) rfl ?_
  have hS := hS.drew
  repeat (first|(refine Zad ?_;first|refine Ya2 ?_|refine Zak rfl rfl (fun _ => Zh0 rfl rfl) rfl rfl ?_|refine Yb5 ?_|refine Ycs ?_|refine Ycj ?_))
  have hqE := (hS.rd (r := pts xb (.cells (endX i m [.pointer (some ⟨tb,0,none⟩),.slice ra i rc]).toArray 150 (0,0))) (by simp)).pts
  refine Zbw (fun w' => Zdm w' _ _ _) rfl rfl rfl rfl (Zhw hm32 hqE) (fun _ hc => Zcj rfl rfl hc) rfl rfl ?_
  repeat (first|(refine Zad ?_;first|refine Yb5 ?_|refine Ycs ?_|refine Ycj ?_|refine Ycq ?_|refine Ycz ?_|refine Yd3 ?_))
  refine Zae 26 rfl rfl rfl rfl rfl hS (Zvo m (i : Nat) a q s rd fs _ hm32 (hD.mono fun r hr => (hr.rd hS).ro) (hrow.rd (hS.rd (r := chR c f b T (Nt (trV (Za2 rd fs l))) X2) (by simp)).ch).ro (by omega)) ?_
  rintro _ w rfl hS
  rw [hdg]
  repeat (first|(refine Zac ?_;first|refine Ya0 ?_))
  refine Zbs rfl rfl rfl rfl (fun _ => Ze4 rfl rfl rfl hd32 hd32) rfl rfl ?_
  rw [decide_eq_false (fun h => h rfl)]
  repeat (first|refine Yaa ?_|refine Yaf ?_|refine Yat ?_|refine Yan ?_|refine Yei ?_|refine Yab ?_|(refine Zad ?_;first|refine Yaz ?_|refine Yb8 ?_))
  have hS : St W F [pts xb (.cells (endX i m [.pointer (some ⟨tb,0,none⟩),.slice ra i rc]).toArray 150 (0,0)),own 35 1 ra rc (L.map Bs.val),chR c f b T (Nt (trV (Za2 rd fs l))) X2] _ := hS.took
  obtain ⟨_,hcc,hr1,hw,hbk⟩ := hS.call [true]
  refine Zaa _ rfl rfl rfl rfl rfl (Zz6 xb i m _ _ a q s rd fs _ _ hm32 (by omega) (hD.mono hw) (hrow.ro (hr1 (chR c f b T (Nt (trV (Za2 rd fs l))) X2) (by simp)).ch) (by omega) hcc) ?_
  rintro _ w ⟨rfl,hS⟩
  replace hS := hbk hS
  clear hbk hw hcc hr1
  rw [hdg] at hS ⊢
  repeat (first|refine Yd7 ?_|(refine X_id ?_;first|refine Yaf ?_|refine Yat ?_|refine Yan ?_|refine Yap ?_|refine Ybf (fun _ _ hS _ => ?_))|refine Yad ?_|refine Yab ?_)
  have hnw := (hS.rd (List.mem_cons_self ..)).own_row
  refine Zas rfl rfl rfl rfl rfl hS (by rw [List.length_map,hL1,Nat.mul_one]) hrc hnw rfl (by simp [Value.oneCell']) (by omega) (by simp only [maxLen]; omega) (fun b' q' w hS hq' _ => ?_)
  repeat (first|refine Yd7 ?_|refine Yat ?_|refine Yan ?_|refine Yao (fun _ hS _ => ?_)|refine Yav ?_)
  have hS : St W F [chR c f b T (Nt (trV (Za2 rd fs l))) X2,pts xb (.cells (endX (i + 1) d [.pointer (some ⟨tb,0,none⟩),.slice b' (i + 1) q']).toArray 150 (0,0)),own 35 1 b' q' (L.map Bs.val ++ [.slice a s.length q])] _ := hS.took
  obtain ⟨X3,hX3,hin,hS⟩ := hS.chRX hrow
  refine Zag (z := (i,ra,rc,L,X1)) (i + 1,b',q',L ++ [⟨a,q,s⟩],X3) ⟨rfl,rfl,trivial⟩ ⟨hlt,fun y hy => hX3 y (hX12 y hy),?_,hB1.snoc (fun y hy => hX3 y (hX2 y hy)) hin hq,hq',by rw [List.length_append,hL1]; rfl,?_⟩ (by dsimp only; omega)
  ·rw [List.take_succ_eq_append_getElem hlt,Zar,List.map_append]
   have : l[i] = s := by rw [List.getElem?_eq_getElem hlt] at hsi; injection hsi
   rw [this]
   have hT1' : L.map (·.s) = l.take i := hT1
   simp [hT1']
  ·dsimp only
   rw [hnx,List.map_append,show List.map Bs.val [(⟨a,q,s⟩ : Bs)] = [Value.slice a s.length q] from rfl]
   exact hS.took
 ·have hiz : i = l.length := by omega
  subst hiz
  rw [Zu1 (by rw [Zb0]; omega) (by omega)] at hv
  obtain ⟨_,rfl⟩ := hv
  repeat (first|refine Yeq ?_|(refine X_id ?_;first|refine Yaf ?_|refine Yag ?_|refine Yay ?_|refine Ybd ?_|refine Ybh ?_|refine Yao (fun _ hS _ => ?_)|refine Yar (fun _ _ hS _ => ?_))|refine Yeu ?_|refine Yab ?_|refine Yaq ?_|refine Yb4 ?_|refine Ya8 ?_|refine Ybo ?_)
  exact ⟨xb,ra,rc,L,X2,rfl,hX12,by rw [hT1,List.take_length],⟨fun x hx => hX2 _ (hB1.inn x hx),hB1.cap⟩,hrc,by rw [hm] at hS; exact hS.took⟩
end
end Cr
namespace Cr
open Go Go.Proofs
set_option maxRecDepth 100000
set_option maxHeartbeats 8000000
attribute [local irreducible] Calls

theorem Zyk : ∀ (vs : List Mv),Zb7 (trV vs) [dbN,logN] = if vs = [] then -1 else 1
 | [] => by
  unfold Zb7 getR goR
  rw [if_pos (by decide)]; rfl
 | v :: l => by
  unfold Zb7 getR goR
  rw [if_pos (by decide)]; rfl
theorem Zor (vs : List Mv) : (Zfs (trV vs) [dbN,logN] 0).2 = 0 := by
 unfold Zfs
 rw [Zyk]
 cases vs with
 | nil => rfl
 | cons v l =>
  have h2 : (lstR (trV (v :: l)) [dbN,logN]).2 = 0 := by
   unfold lstR goR
   rw [if_pos (by decide)]; rfl
  rw [if_neg (List.cons_ne_nil v l),if_neg (by decide),if_neg (by decide),if_neg (fun e => e h2)]
section
variable {c f tp : Nat} {b : Int} {T : Int → Option Nd} {X : List RowD}
theorem Zwh (rd fs : List Int) (l : List (List UInt8)) (hl7 : l.length ≤ 7) (h4 : ∀ s ∈ l,s.length ≤ 400) (tb : Nat) (W : World) (F : Nat → Prop) (hT : TreeRo W F f tp 10 b T) (hG : Lg W F) (hD : Gl W F rd fs) (htb : Ro W F (pts tb (tbC c logN))) (hS : St W F [chR c f b T (Nt (trV (Za2 rd fs l))) X] W) :
  Calls Tryz.prog 28 #[.pointer (some ⟨tb,0,none⟩)] W (Ret fun v w => ∃ (x : Nat) (ra : Option Addr) (rc : Nat) (L : List Bs) (X' : List RowD),v = .tuple #[.pointer (some ⟨x,0,none⟩),.int .i64 0] ∧ (∀ y ∈ X,y ∈ X') ∧ Zar L = l ∧ BsIn L X' ∧ l.length ≤ rc ∧
   St W F [pts x (chnC l.length (Zau rd fs l l.length) tb ra rc),own 35 1 ra rc (L.map Bs.val),chR c f b T (Nt (trV (Za2 rd fs l))) X'] w) := by
 have ht := Zf7 rd fs _ l rfl hl7 h4
 refine Zab Tryz.func28 rfl Tryz.ntmps28 rfl ?_
 repeat (first|refine Yd7 ?_|refine Yel ?_|refine Yd8 ?_|refine Yab ?_)
 obtain ⟨_,hcc,_,hw,hbk⟩ := hS.call [true]
 refine Zaa _ rfl rfl rfl rfl rfl (Zzn ht tb logN _ _ (hT.mono hw) (hG.mono hw) (hw _ htb) hcc) ?_
 rintro _ w ⟨X1,a,q,hX1,rfl,_,hS⟩
 replace hS := hbk hS
 clear hbk hw hcc
 rw [Zor]
 repeat (first|refine Yd7 ?_|refine Yfb ?_|refine Yei ?_|refine Yab ?_)
 obtain ⟨_,hcc,_,hw,hbk⟩ := hS.call [false,true]
 refine Zaa _ rfl rfl rfl rfl rfl (Zz4 rd fs l hl7 h4 tb _ _ (hT.mono hw) (hG.mono hw) (hD.mono hw) (hw _ htb) hcc) ?_
 rintro _ w ⟨x,ra,rc,L,X2,rfl,hX2,hT2,hB2,hrc,hS⟩
 replace hS := hbk hS
 clear hbk hw hcc
 repeat (first|refine Yd7 ?_|refine Yaf ?_|refine Yag ?_|refine Yay ?_|refine Ybc ?_|refine Yew ?_|refine Yev ?_)
 exact ⟨x,ra,rc,L,X2,rfl,fun y hy => hX2 y (hX1 y hy),hT2,hB2,hrc,hS.took⟩
end
end Cr
namespace Cr
open Go Go.Proofs
set_option maxRecDepth 100000
set_option maxHeartbeats 8000000
attribute [local irreducible] Calls

theorem Zzs {w : World} {b : Nat} {T : TypeId} {s : List UInt8} (h : w.heap[b]? = some (.cells (bv s).toArray T (0,0))) : Rd w (bytes (some ⟨b,0,none⟩) s) :=
 ⟨Zb9 b _,.inr ⟨b,0,(bv s).toArray,T,_,rfl,rfl,fun i v hv => by simpa using hv⟩,fun k o hk => by
  unfold Zb9 at hk
  split at hk
  ·rename_i e
   cases hk
   rw [e]; exact h
  ·cases hk⟩

section
variable {c f tp : Nat} {b : Int} {T : Int → Option Nd} {X : List RowD}
theorem Z4c (rd fs : List Int) (l : List (List UInt8)) (hl7 : l.length ≤ 7) (h4 : ∀ s ∈ l,s.length ≤ 400) (tb x : Nat) (ra : Option Addr) (rc : Nat) (L : List Bs) (a : Option Addr) (M : List Bs) (mc : Nat) (W : World) (F : Nat → Prop) (hT : TreeRo W F f tp 10 b T) (hG : Lg W F) (hD : Gl W F rd fs) (htb : Ro W F (pts tb (tbC c logN)))
  (hB : Bss W F a M) (hM : M.length ≤ 1000) (hM4 : ∀ y ∈ M,y.s.length ≤ 400) (hTL : Zar L = l) (hBL : BsIn L X) (hrc : l.length ≤ rc) (hS : St W F [pts x (chnC l.length (Zau rd fs l l.length) tb ra rc),own 35 1 ra rc (L.map Bs.val),chR c f b T (Nt (trV (Za2 rd fs l))) X] W) :
  Calls Tryz.prog 31 #[.pointer (some ⟨x,0,none⟩),.slice a M.length mc] W (Ret fun v w => ∃ (l' : List (List UInt8)) (ra' : Option Addr) (rc' : Nat) (L' : List Bs) (X' : List RowD) (k : Nat),l' = l ++ (Zar M).take k ∧ k = min M.length (7 - l.length) ∧ v = .tuple #[.int .i64 (k : Nat),.int .i64 (if l.length + M.length ≤ 7 then 0 else 6)] ∧ (∀ y ∈ X,y ∈ X') ∧ Zar L' = l' ∧ BsIn L' X' ∧ l'.length ≤ rc' ∧
   St W F [pts x (chnC l'.length (Zau rd fs l' l'.length) tb ra' rc'),own 35 1 ra' rc' (L'.map Bs.val),chR c f b T (Nt (trV (Za2 rd fs l'))) X'] w) := by
 refine Zab Tryz.func31 rfl Tryz.ntmps31 rfl ?_
 repeat (first|refine Yd7 ?_|refine Yaf ?_|refine Yag ?_|refine Yas ?_|refine Ybq ?_|refine Yez ?_|refine Yab ?_)
 refine Zbt (α := Unit) (fun _ => [(0,.pointer (some ⟨x,0,none⟩)),(1,.slice a M.length mc)]) (fun _ w => St W F [pts x (chnC l.length (Zau rd fs l l.length) tb ra rc),own 35 1 ra rc (L.map Bs.val),chR c f b T (Nt (trV (Za2 rd fs l))) X] w) ?_ ?_
 ·refine Zal (α := Nat) (fun i => [(0,.pointer (some ⟨x,0,none⟩)),(1,.slice a M.length mc),(14,.slice a M.length mc),(15,.int .i64 (M.length : Nat)),(16,.int .i64 (i : Nat))])
   (fun i w => i ≤ M.length ∧ St W F [pts x (chnC l.length (Zau rd fs l l.length) tb ra rc),own 35 1 ra rc (L.map Bs.val),chR c f b T (Nt (trV (Za2 rd fs l))) X] w) (fun i => M.length - i) 0 ⟨rfl,rfl,rfl,rfl,rfl,trivial⟩ ⟨Nat.zero_le _,hS⟩ ?_
  clear hS
  rintro i w ⟨hi,hS⟩
  by_cases hlt : i < M.length
  ·have hx0 : M[i]? = some M[i] := List.getElem?_eq_getElem hlt
   generalize M[i] = y at hx0
   have hy4 := hM4 y (List.mem_of_getElem? hx0)
   have hr := hB.row
   have hx : (M.map Bs.val)[i]? = some (.slice y.a y.s.length y.c) := by simp [hx0,Bs.val]
   obtain ⟨ab,ao,rfl⟩ := (hr.rd hS).base (by intro e; rw [e] at hx; simp at hx)
   repeat (first|refine Yd7 ?_|(refine X_id ?_;first|refine Yaf ?_|refine Yag ?_|refine Yas ?_|refine Ya1 ?_|refine Ybt ?_|refine Ybb ?_|refine Yax ?_|refine Ybw ?_)|refine Yee ?_|refine Yef ?_)
   refine Zag (i + 1) ⟨rfl,rfl,rfl,rfl,rfl,trivial⟩ ⟨hlt,hS⟩ (by omega)
  ·repeat (first|refine Yd7 ?_|refine Ya3 ?_|refine Yej ?_|refine Yed ?_)
   exact Zbg () ⟨rfl,rfl,trivial⟩ hS
 clear hS
 rintro ⟨⟩ w hS
 repeat (first|refine Yd7 ?_|refine Yaf ?_|refine Yas ?_|refine Yea ?_|refine Yab ?_)
 have hLl : L.length = l.length := by rw [← hTL]; simp [Zar]
 refine Zal (α := Nat × Option Addr × Nat × List Bs × List RowD) (fun z => [(0,.pointer (some ⟨x,0,none⟩)),(1,.slice a M.length mc),(24,.slice a M.length mc),(25,.int .i64 (M.length : Nat)),(26,.int .i64 (z.1 : Nat))])
  (fun z w => z.1 ≤ M.length ∧ l.length + z.1 ≤ 7 ∧ (∀ y ∈ X,y ∈ z.2.2.2.2) ∧ Zar z.2.2.2.1 = l ++ (Zar M).take z.1 ∧ BsIn z.2.2.2.1 z.2.2.2.2 ∧ l.length + z.1 ≤ z.2.2.1 ∧ z.2.2.2.1.length = l.length + z.1 ∧
   St W F [pts x (.cells (endX (l.length + z.1) (Zau rd fs (l ++ (Zar M).take z.1) (l.length + z.1)) [.pointer (some ⟨tb,0,none⟩),.slice z.2.1 (l.length + z.1) z.2.2.1]).toArray 150 (0,0)),own 35 1 z.2.1 z.2.2.1 (z.2.2.2.1.map Bs.val),chR c f b T (Nt (trV (Za2 rd fs (l ++ (Zar M).take z.1)))) z.2.2.2.2] w)
  (fun z => M.length - z.1) (0,ra,rc,L,X) ⟨rfl,rfl,rfl,rfl,rfl,trivial⟩ ⟨Nat.zero_le _,hl7,fun _ h => h,by simp [hTL],hBL,hrc,hLl,by simpa using hS⟩ ?_
 clear hS
 rintro ⟨i,ra1,rc1,L1,X1⟩ w ⟨hi,hi7,hX1,hT1,hB1,hrc1,hL1,hS⟩
 simp only at hi hi7 hX1 hT1 hB1 hrc1 hL1 hS ⊢
 obtain ⟨li,hli⟩ : ∃ li,li = l ++ (Zar M).take i := ⟨_,rfl⟩
 obtain ⟨n,hn⟩ : ∃ n,n = l.length + i := ⟨_,rfl⟩
 have hlin : li.length = n := by rw [hli,hn]; simp [Zar,hi]
 have hli4 : ∀ s ∈ li,s.length ≤ 400 := fun s hs => by
  rw [hli] at hs
  rcases List.mem_append.1 hs with hs | hs
  ·exact h4 s hs
  ·obtain ⟨y,hy,rfl⟩ := List.mem_map.1 (List.mem_of_mem_take hs)
   exact hM4 y hy
 rw [← hli] at hT1 hS
 rw [← hn] at hi7 hrc1 hL1 hS
 obtain ⟨m,hm⟩ : ∃ m,m = Zau rd fs li n := ⟨_,rfl⟩
 have hm32 : m.length = 32 := by rw [hm]; exact Za1 _ _ _ _
 rw [← hm] at hS
 have ht := Zf7 rd fs _ li rfl (by omega) hli4
 by_cases hlt : i < M.length
 ·have hx0 : M[i]? = some M[i] := List.getElem?_eq_getElem hlt
  have htk : (Zar M).take (i + 1) = (Zar M).take i ++ [M[i].s] := by
   have := List.take_succ_eq_append_getElem (l := Zar M) (i := i) (by simp [Zar,hlt])
   rw [this]; simp [Zar]
  generalize M[i] = y at hx0 htk
  have hym := List.mem_of_getElem? hx0
  have hy4 := hM4 y hym
  have hr := hB.row
  have hb := hB.all y hym
  have hx : (M.map Bs.val)[i]? = some (.slice y.a y.s.length y.c) := by simp [hx0,Bs.val]
  obtain ⟨ab,ao,rfl⟩ := (hr.rd hS).base (by intro e; rw [e] at hx; simp at hx)
  repeat (first|refine Yd7 ?_|refine Ye8 ?_|refine Yeb ?_|refine Yab ?_)
  obtain ⟨d,hdg⟩ : ∃ d,d = digest rd fs [m,be8 (n : Nat),y.s] := ⟨_,rfl⟩
  have hd32 : d.length = 32 := by rw [hdg]; exact Zap _ _ _
  have hd32L : LenO (bv d) 32 := ⟨by rw [Zaf]; exact hd32⟩
  refine Zk2 (α := Nat) (fun bm => [(0,.pointer (some ⟨x,0,none⟩)),(1,.slice (some ⟨ab,ao,none⟩) M.length mc),(24,.slice (some ⟨ab,ao,none⟩) M.length mc),(25,.int .i64 (M.length : Nat)),(26,.int .i64 (i : Nat)),(8,.int .i64 (i : Nat)),(9,.slice y.a y.s.length y.c),(10,.pointer (some ⟨bm,0,none⟩))])
   (fun bm w => St W F [pts bm (.cells (bv d).toArray 56),pts x (.cells (endX n m [.pointer (some ⟨tb,0,none⟩),.slice ra1 n rc1]).toArray 150 (0,0)),own 35 1 ra1 rc1 (L1.map Bs.val),chR c f b T (Nt (trV (Za2 rd fs li))) X1] w) ?_ ?_
  ·skip
   refine Zao (.s 0 (.s 1 (.s 2 (.s 3 (.s 4 (.s 5 (.s 6 (.s 7 (.s 8 (.s 9 (.s 10 (.h 11 (.h 12 (.h 13 .nil .no) .no) (.h 12 (.h 11 (.h 13 .nil .no) .no) .no))))))))))))) mixed (by kernel_rfl) rfl ?_
   have hS := hS.drew
   have hqE := (hS.rd (r := pts x (.cells (endX n m [.pointer (some ⟨tb,0,none⟩),.slice ra1 n rc1]).toArray 150 (0,0))) (List.mem_cons_self ..)).pts
   repeat (first|(refine Zad ?_;first|refine Ya2 ?_|refine Ybp ?_|refine Ybe ?_))
   refine Zba (fun w' => Zdm w' _ _ _) rfl rfl (Zhw hm32 hqE) (fun _ hc => Zcj rfl rfl hc) rfl rfl ?_
   repeat' (first|refine Zep ?_ ?_|refine Yar (fun _ _ hS _ => ?_)|(refine Zad ?_;first|refine Ya2 ?_|refine Ybp ?_|refine Ybe ?_|refine Ybm ?_|refine Yau ?_)|(refine Zac ?_;first|refine Ych ?_))
   ·refine Zae 26 rfl rfl rfl rfl rfl hS (Zvo m (n : Nat) y.a y.c y.s rd fs _ hm32 (hD.mono fun r hr => (hr.rd hS).ro) (hb.rd hS).ro (by omega)) ?_
    rintro _ w rfl hS
    rw [← hdg]
    repeat (first|refine Yao (fun _ hS _ => ?_)|refine Yar (fun _ _ hS _ => ?_)|(refine Zad ?_;first|refine Yaz ?_|refine Yau ?_)|(refine Zac ?_;first|refine Ych ?_))
    exact Zbg _ ⟨rfl,rfl,rfl,rfl,rfl,rfl,rfl,rfl,trivial⟩ hS.took
   ·refine Zae 26 rfl rfl rfl rfl rfl hS (Zvo m (n : Nat) y.a y.c y.s rd fs _ hm32 (hD.mono fun r hr => (hr.rd hS).ro) (hb.rd hS).ro (by omega)) ?_
    rintro _ w rfl hS
    rw [← hdg]
    repeat (first|refine Yao (fun _ hS _ => ?_)|(refine Zad ?_;first|refine Yaz ?_|refine Yau ?_)|(refine Zac ?_;first|refine Ych ?_))
    exact Zbg _ ⟨rfl,rfl,rfl,rfl,rfl,rfl,rfl,rfl,trivial⟩ hS.took
  clear hS
  rintro bm w hS
  repeat (first|refine Yae ?_)
  refine Zao (.s 0 (.s 1 (.s 2 (.s 3 (.s 4 (.s 5 (.s 6 (.s 7 (.s 8 (.s 10 (.s 11 (.s 13 (.s 14 (.h 9 (.h 12 (.h 15 (.h 16 (.h 17 (.h 18 (.s 19 .nil) .no) .no) .no) .no) .no) .no)))))))))))))) mixed (by kernel_rfl) rfl ?_
  have hS := hS.drew
  repeat (first|(refine Zad ?_;first|refine Ya2 ?_|refine Ybp ?_|refine Ybe ?_))
  refine Zba (fun w' => w'.cell? _ = some _) rfl rfl (Zpe hm32 hS.has (j := 0) rfl) (fun _ hc => Zat rfl rfl hc) rfl rfl ?_
  repeat (first|(refine Zad ?_;first|refine Ya2 ?_|refine Ybp ?_|refine Ybe ?_|refine Yc4 ?_|refine Ybm ?_|refine Yd4 ?_))
  refine Zba (fun w' => Rd w' (bytes _ _)) rfl rfl (Zzs hS.has) (fun _ h => Zcn rfl rfl h hd32) rfl rfl ?_
  repeat (first|(refine Zad ?_;first|refine Yau ?_))
  refine Zaa _ rfl rfl rfl rfl rfl (Zwi n (by omega) _ (hG.at_ hS)) ?_
  rintro _ w ⟨rfl,hS'⟩
  replace hS := hS.plus hS'
  clear hS'
  repeat (first|(refine Zad ?_;first|refine Yau ?_)|(refine Zac ?_;first|refine Ych ?_))
  refine Zaa _ rfl rfl rfl rfl rfl (Zu2 y.s _) ?_
  rintro _ w ⟨u1,v1,Y1,rfl,hMa,hS'⟩
  replace hS := hS.plus hS'
  clear hS'
  repeat (first|(refine Zad ?_;first|refine Yau ?_)|(refine Zac ?_;first|refine Ych ?_))
  refine Zaa _ rfl rfl rfl rfl rfl (Zu2 d _) ?_
  rintro _ w ⟨u2,v2,Y2,rfl,hMb,hS'⟩
  replace hS := hS.plus hS'
  clear hS'
  repeat (first|refine Ybf (fun _ _ hS _ => ?_)|(refine Zad ?_;first|refine Yau ?_)|(refine Zac ?_;first|refine Ych ?_))
  rename_i pq _ _
  have hMs : Mrds (RoR _ noF) [txM y.s,txM d] [[.int .i64 1,.int .i64 0,.slice u1 y.s.length v1,.slice none 0 0],[.int .i64 1,.int .i64 0,.slice u2 d.length v2,.slice none 0 0]] :=
   (Mrds.nil.snoc (hMa.mono fun _ _ h => (h.rd (hS.rd (r := bag Y1) (by simp))).ro)).snoc (hMb.mono fun _ _ h => (h.rd (hS.rd (r := bag Y2) (by simp))).ro)
  refine Zaa _ rfl rfl rfl rfl rfl (of_M (some ⟨pq,0,none⟩) [txM y.s,txM d] 2 [[.int .i64 1,.int .i64 0,.slice u1 y.s.length v1,.slice none 0 0],[.int .i64 1,.int .i64 0,.slice u2 d.length v2,.slice none 0 0]] _ (hS.rd (List.mem_cons_self ..)).own_row.ro hMs (by simp only [wMs,Zk3,List.length_nil]; omega)) ?_
  rintro _ w ⟨b3,q3,rows',Y3,rfl,hq3,hMr,hS'⟩
  replace hS := hS.plus hS'
  clear hS' hMs
  have hcp : [txM y.s,txM d].map (Zdq 8) = [txM y.s,txM d] := by
   rw [List.map_cons,List.map_cons,List.map_nil,Zni 8 _ (Zgh 8 _),Zni 8 _ (Zgh 8 _)]
  rw [hcp] at hMr
  repeat (first|(refine Zad ?_;first|refine Yau ?_)|(refine Zac ?_;first|refine Ych ?_))
  have hS : St W F [chR c f b T (Nt (trV (Za2 rd fs li))) X1,pts x (.cells (endX n m [.pointer (some ⟨tb,0,none⟩),.slice ra1 n rc1]).toArray 150 (0,0)),own 35 1 ra1 rc1 (L1.map Bs.val),own 38 4 b3 q3 rows'.flatten,bag Y3] _ := hS.took
  have hlen5 := Zm2 hy4 hd32
  obtain ⟨F2,hcc,hr1,hw,hbk⟩ := hS.call [true]
  have hv : Mrd (RoR _ F2) (recV y.s d) [.int .i64 2,.int .i64 0,.slice none 0 0,.slice b3 2 q3] := .mk' rfl rfl (Nat.zero_le _) (Zh6 _ _ _) (hr1 (own 38 4 b3 q3 rows'.flatten) (by simp)).own_row hMr.1 (fun j z cs h1 h2 => (hMr.2 j z cs h1 h2).mono fun _ _ h => h.ro (hr1 (bag Y3) (by simp)))
  refine Zaa _ rfl rfl rfl rfl rfl (Z4z ht tb logN (keyD n) (recV y.s d) _ _ _ (hT.mono hw) (hG.mono hw) (hw _ htb) hv (by rw [Z2y]; omega) (Zrz (by omega) (by omega)) (by omega) hcc) ?_
  rintro _ w ⟨rfl,X2,hX2,hS⟩
  replace hS := hbk hS
  clear hbk hw hcc hr1 hv
  have hput := Zrr (vs := Za2 rd fs li) (v := recV y.s d) (by rw [Zb0]; omega) (Zm3 _ _) hlen5
  rw [Zb0,hlin] at hput
  rw [hput] at hS ⊢
  by_cases h7 : n < 7
  ·rw [if_pos h7] at hS ⊢
   have hsn : Za2 rd fs li ++ [recV y.s d] = Za2 rd fs (li ++ [y.s]) := by rw [Zld,hlin,← hm,← hdg]
   rw [hsn] at hS
   repeat (first|refine Yd7 ?_|refine Yaf ?_|refine Yat ?_|refine Yan ?_|refine Yba ?_|refine Yei ?_|refine Yab ?_|(refine Zad ?_;first|refine Ye6 ?_)|(refine Zac ?_;first|refine Ych ?_))
   have hS : St W F [pts x (.cells (endX n m [.pointer (some ⟨tb,0,none⟩),.slice ra1 n rc1]).toArray 150 (0,0)),own 35 1 ra1 rc1 (L1.map Bs.val),chR c f b T (Nt (trV (Za2 rd fs (li ++ [y.s])))) X2] _ := hS.took
   obtain ⟨_,hcc,_,hw,hbk⟩ := hS.call [true]
   refine Zaa _ rfl rfl rfl rfl rfl (Zz6 x n m _ _ y.a y.c y.s rd fs _ _ hm32 (by omega) (hD.mono hw) (hw _ hb) (by omega) hcc) ?_
   rintro _ w ⟨rfl,hS⟩
   replace hS := hbk hS
   clear hbk hw hcc
   rw [← hdg] at hS ⊢
   repeat (first|refine Yac ?_|refine Yab ?_)
   refine Zao (.s 0 (.s 1 (.s 2 (.s 3 (.s 4 (.s 5 (.h 6 (.h 7 (.h 8 (.s 9 (.s 10 (.h 11 .nil .no))) .no) .no) .no))))))) mixed (by kernel_rfl) rfl ?_
   have hS := hS.drew
   repeat (first|(refine Zad ?_;first|refine Ya2 ?_|refine Ybp ?_|refine Ybe ?_|refine Ybm ?_|refine Yau ?_))
   refine Zaa _ rfl rfl rfl rfl rfl (Zdj y.a y.s.length y.c y.s _ (hb.rd hS) rfl (by omega)) ?_
   rintro _ w ⟨a',q',rfl,_,hq',hS'⟩
   replace hS := hS.plus hS'
   clear hS'
   repeat (first|refine Ybf (fun _ _ hS _ => ?_)|(refine Zad ?_;first|refine Yau ?_)|(refine Zac ?_;first|refine Ych ?_))
   have hnw := (hS.rd (List.mem_cons_self ..)).own_row
   refine Zas rfl rfl rfl rfl rfl hS (by rw [List.length_map,hL1,Nat.mul_one]) hrc1 hnw rfl (by simp [Value.oneCell']) (by omega) (by simp only [maxLen]; omega) (fun b' q'' w hS hq'' _ => ?_)
   repeat (first|refine Yd7 ?_|refine Yec ?_|refine Yao (fun _ hS _ => ?_)|refine Yad ?_|refine Yef ?_|(refine Zad ?_;first|refine Yaz ?_|refine Ybp ?_|refine Ybe ?_|refine Yau ?_)|(refine Zac ?_;first|refine Ych ?_))
   have hS : St W F [own 5 1 a' q' (bv y.s),chR c f b T (Nt (trV (Za2 rd fs (li ++ [y.s])))) X2,pts x (.cells (endX (n + 1) d [.pointer (some ⟨tb,0,none⟩),.slice b' (n + 1) q'']).toArray 150 (0,0)),own 35 1 b' q'' (L1.map Bs.val ++ [.slice a' y.s.length q'])] _ := hS.took
   have hS := (hS.toBag (a := a') (cs := bv y.s) fun _ h => own.row h).chAdd
   have hl1 : l ++ (Zar M).take (i + 1) = li ++ [y.s] := by rw [htk,← List.append_assoc,← hli]
   have hnx : Zau rd fs (li ++ [y.s]) (n + 1) = d := by
    show digest rd fs [Zau rd fs (li ++ [y.s]) n,be8 (n : Nat),(li ++ [y.s]).getD n []] = d
    rw [Zgd rd fs li [y.s] (by omega),← hm,hdg,← hlin]
    simp
   refine Zag (z := (i,ra1,rc1,L1,X1)) (i + 1,b',q'',L1 ++ [⟨a',q',y.s⟩],[(a',bv y.s)] ++ X2) ⟨rfl,rfl,rfl,rfl,rfl,trivial⟩ ⟨hlt,by dsimp only; omega,fun z hz => List.mem_append_right _ (hX2 z (hX1 z hz)),?_,hB1.snoc (fun z hz => List.mem_append_right _ (hX2 z hz)) (List.mem_append_left _ (List.mem_cons_self ..)) hq',by dsimp only; omega,by rw [List.length_append,hL1,hn]; rfl,?_⟩ (by dsimp only; omega)
   ·dsimp only
    rw [hl1,← hT1]
    simp [Zar]
   ·dsimp only
    rw [hl1,show l.length + (i + 1) = n + 1 by omega,hnx,List.map_append,show List.map Bs.val [(⟨a',q',y.s⟩ : Bs)] = [Value.slice a' y.s.length q'] from rfl]
    exact hS.took
  ·rw [if_neg h7] at hS ⊢
   have hki : i = 7 - l.length := by omega
   repeat (first|refine Yd7 ?_|refine Yaf ?_|refine Yag ?_|refine Ybl ?_|refine Yeo ?_|refine Ye5 ?_|(refine Zad ?_;first|refine Ye6 ?_)|(refine Zac ?_;first|refine Ych ?_))
   refine ⟨li,ra1,rc1,L1,X2,i,hli,by omega,by rw [if_neg (by omega)],fun z hz => hX2 z (hX1 z hz),hT1,⟨fun z hz => hX2 _ (hB1.inn z hz),hB1.cap⟩,by omega,?_⟩
   rw [hlin,← hm]
   exact hS.took
 ·have hiz : i = M.length := by omega
  repeat (first|refine Yd7 ?_|refine Yaf ?_|refine Yag ?_|refine Yas ?_|refine Ya3 ?_|refine Yeg ?_|refine Yab ?_|refine Ya6 ?_|refine Ya7 ?_|refine Ybo ?_)
  subst hiz
  refine ⟨li,ra1,rc1,L1,X1,M.length,hli,by omega,by rw [if_pos (by omega)],hX1,hT1,hB1,by omega,?_⟩
  rw [hlin,← hm]
  exact hS
end
end Cr
namespace Cr
open Go Go.Proofs
set_option maxRecDepth 100000
set_option maxHeartbeats 8000000
attribute [local irreducible] Calls

section
variable {c f tp : Nat} {b : Int} {T : Int → Option Nd} {X : List RowD}
theorem Z1w (rd fs : List Int) (l : List (List UInt8)) (hl7 : l.length ≤ 7) (h4 : ∀ s ∈ l,s.length ≤ 400) (tb : Nat) (W : World) (F : Nat → Prop) (hT : TreeRo W F f tp 10 b T) (hG : Lg W F) (hD : Gl W F rd fs) (htb : Ro W F (pts tb (tbC c logN))) (hS : St W F [chR c f b T (Nt (trV (Za2 rd fs l))) X] W) :
  Calls Tryz.prog 69 #[.pointer (some ⟨tb,0,none⟩)] W (Ret fun v w => ∃ X',v = .tuple #[.int .i64 (l.length : Nat),.bool true] ∧ (∀ y ∈ X,y ∈ X') ∧ St W F [chR c f b T (Nt (trV (Za2 rd fs l))) X'] w) := by
 have ht := Zf7 rd fs _ l rfl hl7 h4
 refine Zab Tryz.func69 rfl Tryz.ntmps69 rfl ?_
 repeat (first|refine Yd7 ?_|refine Yel ?_|refine Yd8 ?_|refine Yab ?_)
 obtain ⟨_,hcc,_,hw,hbk⟩ := hS.call [true]
 refine Zaa _ rfl rfl rfl rfl rfl (Zzn ht tb logN _ _ (hT.mono hw) (hG.mono hw) (hw _ htb) hcc) ?_
 rintro _ w ⟨X1,a,q,hX1,rfl,_,hS⟩
 replace hS := hbk hS
 clear hbk hw hcc
 rw [Zor]
 repeat (first|refine Yd7 ?_|refine Yfb ?_|refine Yei ?_|refine Yab ?_)
 obtain ⟨_,hcc,_,hw,hbk⟩ := hS.call [false,true]
 refine Zaa _ rfl rfl rfl rfl rfl (Zz4 rd fs l hl7 h4 tb _ _ (hT.mono hw) (hG.mono hw) (hD.mono hw) (hw _ htb) hcc) ?_
 rintro _ w ⟨x,ra,rc,L,X2,rfl,hX2,hT2,hB2,hrc,hS⟩
 replace hS := hbk hS
 clear hbk hw hcc
 repeat (first|refine Yd7 ?_|(refine X_id ?_;first|refine Yaf ?_|refine Yag ?_|refine Yat ?_|refine Yan ?_|refine Yay ?_|refine Yap ?_)|refine Yek ?_|refine Yev ?_)
 exact ⟨X2,rfl,fun y hy => hX2 y (hX1 y hy),hS.took⟩
end
theorem key7 : keyD 7 = [114,48,48,48,48,48,55] := rfl
theorem Zoy (rd fs : List Int) (W : World) (hG : Gl W noF rd fs) (hL : Lg W noF) : Calls Tryz.prog 25 #[] W (Ret fun v w => v = .bool true ∧ St W noF [] w) := by
 have hS := St.start W
 refine Zab Tryz.func25 rfl Tryz.ntmps25 rfl ?_
 repeat (first|refine Yd7 ?_|refine Yag ?_|refine Yd8 ?_|refine Yab ?_)
 refine Zaa _ rfl rfl rfl rfl rfl (Zsm rd fs _ (hG.mono fun _ hr => (hr.rd hS).ro) (hL.at_ hS)) ?_
 rintro _ w ⟨lp,tp,p,f,c,tb,rfl,hS'⟩
 replace hS := hS.plus hS'
 clear hS'
 obtain ⟨F1,hS1,hro,hw1,hbk1⟩ := hS.call [true]
 have hT := Zuz (hro (pts f (.cells (List.toArray [.pointer (some ⟨tp,0,none⟩),.int .i64 0]) 107 (0,0))) (by simp)) (hro (itab rd fs tp lp p 60 2 10 40 (Za5 10)) (by simp))
 have htb := hro (pts tb (tbC c logN)) (by simp)
 have hG1 := hG.mono fun r hr => hw1 r hr
 have hL1 := hL.mono fun r hr => hw1 r hr
 clear hS hro
 have hS : St w F1 [chR c f 0 (atT (Za5 10)) (Nt (trV (Za2 rd fs []))) []] w := hS1
 clear hS1
 repeat (first|refine Yd7 ?_|refine Ye3 ?_|refine Yd8 ?_|refine Yab ?_)
 obtain ⟨_,hcc,_,hw,hbk⟩ := hS.call [true]
 refine Zaa _ rfl rfl rfl rfl rfl (Zwh rd fs [] (by simp) (by simp) tb _ _ (hT.mono hw) (hL1.mono hw) (hG1.mono hw) (hw _ htb) hcc) ?_
 rintro _ w ⟨x,ra,rc,L,X1,rfl,hX1,hTL,hBL,hrc,hS⟩
 replace hS := hbk hS
 clear hbk hw hcc
 repeat (first|refine Yen ?_|(refine X_id ?_;first|refine Yaf ?_|refine Yag ?_|refine Yay ?_|refine Ya4 ?_|refine Yba ?_|refine Ybq ?_|refine Ybf (fun _ _ hS _ => ?_))|refine Yei ?_|refine Yab ?_)
 rename_i p1 _ _
 refine Zdt rfl rfl rfl rfl hS (by simp) (fun w hS => ?_)
 repeat (first|refine Yaa ?_|refine Ybf (fun _ _ hS _ => ?_))
 rename_i p2 _ _
 refine Zdt rfl rfl rfl rfl hS (by simp) (fun w hS => ?_)
 repeat (first|refine Yaa ?_|refine Ybf (fun _ _ hS _ => ?_))
 rename_i p3 _ _
 have hS := hS.pick [3,3,3,0,1,0]
 change St _ F1 [pts x (chnC 0 (Zau rd fs [] 0) tb ra rc),own 35 1 ra rc (L.map Bs.val),chR c f 0 (atT (Za5 10)) (Nt (trV (Za2 rd fs []))) X1,own 35 1 (some ⟨p3,0,none⟩) 2 [.slice (some ⟨p1,0,none⟩) 1 1,.slice (some ⟨p2,0,none⟩) 1 1],row (some ⟨p1,0,none⟩) (bv [97]),row (some ⟨p2,0,none⟩) (bv [98])] _ at hS
 obtain ⟨_,hcc,hr1,hw,hbk⟩ := hS.call [true,true,true]
 have hB : Bss _ _ (some ⟨p3,0,none⟩) [⟨some ⟨p1,0,none⟩,1,[97]⟩,⟨some ⟨p2,0,none⟩,1,[98]⟩] := ⟨(hr1 (own 35 1 (some ⟨p3,0,none⟩) 2 [.slice (some ⟨p1,0,none⟩) 1 1,.slice (some ⟨p2,0,none⟩) 1 1]) (by simp)).own_row,fun y hy => by
  simp only [List.mem_cons,List.not_mem_nil,or_false] at hy
  rcases hy with rfl | rfl
  ·exact hr1 (row (some ⟨p1,0,none⟩) (bv [97])) (by simp)
  ·exact hr1 (row (some ⟨p2,0,none⟩) (bv [98])) (by simp)⟩
 refine Zaa _ rfl rfl rfl rfl rfl (Z4c rd fs [] (by simp) (by simp) tb x ra rc L _ _ 2 _ _ (hT.mono hw) (hL1.mono hw) (hG1.mono hw) (hw _ htb) hB (by simp) (by simp) hTL hBL hrc hcc) ?_
 rintro _ w ⟨l',ra',rc',L',X2,k,hl',hk,rfl,hX2,hTL',hBL',hrc',hS⟩
 replace hS := hbk hS
 clear hbk hw hcc hr1 hB
 obtain rfl : k = 2 := hk
 obtain rfl : l' = [[97],[98]] := hl'
 rw [if_pos (by simp)]
 repeat (first|refine Yd7 ?_|refine Ye3 ?_|refine Yd8 ?_|refine Yab ?_)
 obtain ⟨_,hcc,_,hw,hbk⟩ := hS.call [false,false,true]
 refine Zaa _ rfl rfl rfl rfl rfl (Z1w rd fs [[97],[98]] (by decide) (by simp) tb _ _ (hT.mono hw) (hL1.mono hw) (hG1.mono hw) (hw _ htb) hcc) ?_
 rintro _ w ⟨X3,rfl,_,hS⟩
 replace hS := hbk hS
 clear hbk hw hcc
 repeat (first|refine Yd7 ?_|refine Ye3 ?_|refine Yd8 ?_|refine Yab ?_)
 refine Zaa _ rfl rfl rfl rfl rfl (Zwi 7 (by decide) _ (hL1.at_ hS)) ?_
 rintro _ w ⟨rfl,hS'⟩
 replace hS := hS.plus hS'
 clear hS'
 rw [key7]
 repeat (first|refine Yen ?_|(refine X_id ?_;first|refine Yaf ?_|refine Yag ?_|refine Ybd ?_|refine Ybh ?_|refine Yco ?_|refine X_yl (Ze5 rfl rfl rfl) rfl rfl ?_)|refine Yah ?_|refine Yd9 ?_)
 exact ⟨rfl,(hbk1 hS).drops⟩
end Cr
namespace Cr
open Go Go.Proofs
set_option maxRecDepth 100000

theorem BsIn.bss {L : List Bs} {X : List RowD} {W : World} {F : Nat → Prop} {a : Option Addr} {c : Nat} (h : BsIn L X) (h1 : Ro W F (own 35 1 a c (L.map Bs.val))) (h2 : Ro W F (bag X)) : Bss W F a L := ⟨h1.own_row,fun x hx => h2.bag (h.inn x hx)⟩
theorem Zmb {l : List (List UInt8)} {L : List Bs} (hT : Zar L = cutL (l.take 6)) : L.length ≤ 6 ∧ ∀ x ∈ L,x.s.length ≤ 420 := by
 refine ⟨?_,fun x hx => ?_⟩
 ·have := congrArg List.length hT
  simp [Zar,cutL] at this; omega
 ·have : x.s ∈ Zar L := List.mem_map.2 ⟨x,hx,rfl⟩
  rw [hT] at this
  obtain ⟨s,_,e⟩ := List.mem_map.1 this
  rw [← e]
  exact Zq5 s
theorem Rd.cellsC {w : World} {b off o' i n : Nat} {cs seg : List Value} (H : Rd w (row (some ⟨b,off,none⟩) cs)) (hi : o' = off + i) (h : (cs.drop i).take n = seg) (hn : seg.length = n) : Zdm w ⟨b,o',none⟩ n seg := by
 subst hi; subst h
 exact ⟨H.seg _ _,hn⟩
theorem Zls (rd fs : List Int) (l : List (List UInt8)) {n i : Nat} (h : i < n) : ((Zd4 rd fs l n).drop (i * 32)).take 32 = bv (Zau rd fs l (i + 1)) :=
 Zcl (f := fun i => bv (Zau rd fs l (i + 1))) (fun i _ => by rw [Zaf,Za1]) (by simp [h])
end Cr
namespace Cr
open Go Go.Proofs
set_option maxRecDepth 100000
set_option maxHeartbeats 64000000
attribute [local irreducible] Calls

structure CaZ where
 l : List (List UInt8)
 L : List Bs
 A : List Bs
 ra : Option Addr
 aa : Option Addr
 rc : Nat
 ac : Nat
 X : List RowD
structure CaZ.Ok (z : CaZ) : Prop where
 tL : Zar z.L = z.l
 tA : Zar z.A = z.l
 bL : BsIn z.L z.X
 bA : BsIn z.A z.X
 l7 : z.l.length ≤ 7
 l4 : ∀ s ∈ z.l,s.length ≤ 400
 rc : z.l.length ≤ z.rc
 ac : z.l.length ≤ z.ac
abbrev CaZ.res (rd fs : List Int) (x tb c f : Nat) (z : CaZ) : List Res := [pts x (chnC z.l.length (Zau rd fs z.l z.l.length) tb z.ra z.rc),own 35 1 z.ra z.rc (z.L.map Bs.val),chR c f 0 (atT (Za5 10)) (Nt (trV (Za2 rd fs z.l))) z.X,own 35 1 z.aa z.ac (z.A.map Bs.val)]
theorem Z2i {P : Program} {x y : Code} {N : Nat} {ds : Md} {σ : Env} {w : World} {Q : Exit → Act → World → Prop} {α : Type} (S : α → Env) (R : α → World → Prop) (h1 : ∀ Q' : Exit → Act → World → Prop,C P x (Exit.then (Mid S R N ds) Q') N ds σ w) (h2 : ∀ z w,R z w → C P y Q N ds (S z) w) : C P x (Exit.then (y.wpIn (Fc ds) 0 P Q) Q) N ds σ w := Zk2 S R (h1 Q) h2
theorem Zzj {P : Program} {x y : Code} {N : Nat} {ds : Md} {σ : Env} {w : World} {Q : Exit → Act → World → Prop} {α : Type} {id : Nat} (S : α → Env) (R : α → World → Prop) (h1 : ∀ Q' : Exit → Act → World → Prop,C P x (Exit.inBlock id (Exit.then (Mid S R N ds) Q')) N ds σ w) (h2 : ∀ z w,R z w → C P y Q N ds (S z) w) : C P x (Exit.inBlock id (Exit.then (y.wpIn (Fc ds) 0 P Q) Q)) N ds σ w := Zbt S R (h1 Q) h2
theorem Z5u (b : UInt8) : IntKind.wrap .u8 ((b.toNat : Int) + 1) = ((b + 1).toNat : Int) := by
 have h : (b + 1).toNat = (b.toNat + 1) % 256 := UInt8.toNat_add b 1
 rw [h]
 simp [IntKind.wrap,IntKind.bits,IntKind.signed]
theorem Z01 {w : World} {a : Option Addr} {cs : List Value} (k : Nat) (H : Rd w (row a cs)) : Rd w (row a (cs.take k)) := by
 obtain ⟨h,hh,ha⟩ := H
 rcases hh with ⟨rfl,h0⟩ | ⟨b,off,cells,T,fz,rfl,he,hc⟩
 ·exact ⟨h,.inl ⟨by simp,h0⟩,ha⟩
 ·refine ⟨h,.inr ⟨b,off,cells,T,fz,rfl,he,fun i v hv => hc i v ?_⟩,ha⟩
  rw [List.getElem?_take] at hv
  split at hv
  ·exact hv
  ·cases hv
theorem BsIn.mono {L : List Bs} {X Y : List RowD} (h : BsIn L X) (hX : ∀ y ∈ X,y ∈ Y) : BsIn L Y := ⟨fun x hx => hX _ (h.inn x hx),h.cap⟩
theorem BsIn.app {L M : List Bs} {X : List RowD} (h : BsIn L X) (h2 : BsIn M X) : BsIn (L ++ M) X := ⟨fun x hx => (List.mem_append.1 hx).elim (h.inn x) (h2.inn x),fun x hx => (List.mem_append.1 hx).elim (h.cap x) (h2.cap x)⟩
theorem BsIn.take {L : List Bs} {X : List RowD} (k : Nat) (h : BsIn L X) : BsIn (L.take k) X := ⟨fun x hx => h.inn x (List.mem_of_mem_take hx),fun x hx => h.cap x (List.mem_of_mem_take hx)⟩
theorem BsIn.set {L : List Bs} {X : List RowD} (i : Nat) {x : Bs} (h : BsIn L X) (hx : (x.a,bv x.s) ∈ X) (hc : x.s.length ≤ x.c) : BsIn (L.set i x) X :=
 ⟨fun y hy => (List.mem_or_eq_of_mem_set hy).elim (h.inn y) (fun e => by subst e; exact hx),fun y hy => (List.mem_or_eq_of_mem_set hy).elim (h.cap y) (fun e => by subst e; exact hc)⟩
theorem chainAdds_ (a1 : Option Addr) (c1 : Nat) (l1 : List Bs) (a2 : Option Addr) (c2 : Nat) (l2 : List Bs) (rd fs : List Int) (W : World) (hG : Gl W noF rd fs) (hL : Lg W noF) (hB1 : Bss W noF a1 l1) (hk1 : ∀ x ∈ l1,x.s.length ≤ x.c) (hB2 : Bss W noF a2 l2) (hk2 : ∀ x ∈ l2,x.s.length ≤ x.c) :
  Calls Tryz.prog 5 #[.slice a1 l1.length c1,.slice a2 l2.length c2] W (Ret fun v w => v = .bool true ∧ St W noF [] w) := by
 have hS := St.start W
 refine Zab Tryz.func5 rfl Tryz.ntmps5 rfl ?_
 repeat (first|refine Yd7 ?_|refine Yag ?_|refine Yd8 ?_|refine Yab ?_)
 refine Zaa _ rfl rfl rfl rfl rfl (Zsm rd fs _ (hG.mono fun _ hr => (hr.rd hS).ro) (hL.at_ hS)) ?_
 rintro _ wb ⟨lp,tp,p,f,c,tb,rfl,hS'⟩
 replace hS := hS.plus hS'
 clear hS'
 obtain ⟨F1,hS1,hro,hw1,hbk1⟩ := hS.call [true]
 have hT := Zuz (hro (pts f (.cells (List.toArray [.pointer (some ⟨tp,0,none⟩),.int .i64 0]) 107 (0,0))) (by simp)) (hro (itab rd fs tp lp p 60 2 10 40 (Za5 10)) (by simp))
 have htb := hro (pts tb (tbC c logN)) (by simp)
 have hG1 := hG.mono fun r hr => hw1 r hr
 have hL1 := hL.mono fun r hr => hw1 r hr
 replace hB1 := hB1.mono fun r hr => hw1 r hr
 replace hB2 := hB2.mono fun r hr => hw1 r hr
 clear hS hro
 have hS : St wb F1 [chR c f 0 (atT (Za5 10)) (Nt (trV (Za2 rd fs []))) []] wb := hS1
 clear hS1
 repeat (first|refine Yd7 ?_|refine Ye3 ?_|refine Yd8 ?_|refine Yab ?_)
 obtain ⟨_,hcc,_,hw,hbk⟩ := hS.call [true]
 refine Zaa _ rfl rfl rfl rfl rfl (Zwh rd fs [] (by simp) (by simp) tb _ _ (hT.mono hw) (hL1.mono hw) (hG1.mono hw) (hw _ htb) hcc) ?_
 rintro _ w0 ⟨x,ra0,rc0,L0,X0,rfl,_,hTL0,hBL0,hrc0,hS⟩
 replace hS := hbk hS
 clear hbk hw hcc
 have hmz : (Zau rd fs [] 0).length = 32 := Za1 _ _ _ _
 repeat (first|refine Yen ?_|(refine X_id ?_;first|refine Yaf ?_|refine Yag ?_|refine Yay ?_|refine Ya4 ?_|refine Yba ?_|refine Ybq ?_)|refine Yd8 ?_|refine Yab ?_)
 refine Zaa _ rfl rfl rfl rfl rfl (Zy7 x 0 (Zau rd fs [] 0) tb ra0 rc0 _ (hS.rd (r := pts x (chnC 0 (Zau rd fs [] 0) tb ra0 rc0)) (List.mem_cons_self ..))) ?_
 rintro _ _ ⟨rfl,rfl⟩
 repeat (first|refine Yaa ?_|refine Yaw ?_|refine Yaf ?_|refine Ya4 ?_|refine Yba ?_)
 refine Zaa _ rfl rfl rfl rfl rfl (Zs0 x 0 (Zau rd fs [] 0) hmz tb ra0 rc0 _ (hS.rd (r := pts x (chnC 0 (Zau rd fs [] 0) tb ra0 rc0)) (List.mem_cons_self ..))) ?_
 rintro _ w ⟨rfl,hS'⟩
 replace hS := hS.plus hS'
 clear hS'
 repeat (first|refine Yaw ?_)
 refine Zaa _ rfl rfl rfl rfl rfl (Zzo rd fs _ (hG1.mono fun r hr => (hr.rd hS).ro)) ?_
 rintro _ w ⟨rfl,hS'⟩
 replace hS := hS.plus hS'
 clear hS'
 repeat (first|refine Yaw ?_)
 refine X_yl (Ze4 rfl rfl rfl hmz hmz) rfl rfl ?_
 rw [decide_eq_false (fun h => h rfl)]
 repeat (first|refine Yd7 ?_|refine Yag ?_|refine Ya4 ?_|refine Yez ?_|refine Yab ?_)
 refine Zbt (α := CaZ) (fun z => [(5,.pointer (some ⟨c,0,none⟩)),(6,.pointer (some ⟨tb,0,none⟩)),(7,.pointer (some ⟨x,0,none⟩)),(9,.slice z.aa z.l.length z.ac)]) (fun z w' => z.Ok ∧ St wb F1 (z.res rd fs x tb c f) w') ?_ ?_
 ·refine Zal (α := Nat × CaZ) (fun y => [(0,.slice a1 l1.length c1),(1,.slice a2 l2.length c2),(5,.pointer (some ⟨c,0,none⟩)),(6,.pointer (some ⟨tb,0,none⟩)),(7,.pointer (some ⟨x,0,none⟩)),(9,.slice y.2.aa y.2.l.length y.2.ac),(10,.int .i64 (y.1 : Nat))])
   (fun y w' => y.1 ≤ 2 ∧ y.2.Ok ∧ St wb F1 (y.2.res rd fs x tb c f) w') (fun y => 2 - y.1) (0,⟨[],L0,[],ra0,none,rc0,0,X0⟩) ⟨rfl,rfl,rfl,rfl,rfl,rfl,rfl,trivial⟩ ⟨Nat.zero_le _,⟨hTL0,rfl,hBL0,⟨fun _ h => (List.not_mem_nil h).elim,fun _ h => (List.not_mem_nil h).elim⟩,by simp,by simp,hrc0,Nat.le_refl _⟩,(hS.own_none 35 1 none).pick [1,1,1,0]⟩ ?_
  clear hS
  rintro ⟨turn,l,L,A,ra,aa,rc,ac,X⟩ w ⟨htn,hok,hS⟩
  simp only [CaZ.res] at htn hok hS ⊢
  by_cases hlt : turn < 2
  ·repeat (first|refine Yd7 ?_|refine Yaf ?_|refine Ya1 ?_|refine Yeb ?_|refine Yab ?_)
   refine Zaa _ rfl rfl rfl rfl rfl (Zz0 a1 c1 l1 _ (hB1.mono fun r hr => (hr.rd hS).ro) hk1) ?_
   rintro _ w ⟨b1,d1,M1,Y1,rfl,hT1,hY1,hd1,hS'⟩
   replace hS := hS.plus hS'
   clear hS'
   repeat (first|refine Yd7 ?_|refine Yaf ?_|refine Yag ?_|refine Yco ?_|refine Yd8 ?_|refine Yab ?_)
   refine Zk2 (α := Option Addr × Nat × List Bs × List RowD) (fun y => [(0,.slice a1 l1.length c1),(1,.slice a2 l2.length c2),(5,.pointer (some ⟨c,0,none⟩)),(6,.pointer (some ⟨tb,0,none⟩)),(7,.pointer (some ⟨x,0,none⟩)),(9,.slice aa l.length ac),(10,.int .i64 (turn : Nat)),(11,.slice y.1 y.2.2.1.length y.2.1)])
    (fun y w' => y.2.2.1.length ≤ 6 ∧ (∀ e ∈ y.2.2.1,e.s.length ≤ 420) ∧ BsIn y.2.2.1 y.2.2.2 ∧ y.2.2.1.length ≤ y.2.1 ∧ St wb F1 [pts x (chnC l.length (Zau rd fs l l.length) tb ra rc),own 35 1 ra rc (L.map Bs.val),chR c f 0 (atT (Za5 10)) (Nt (trV (Za2 rd fs l))) X,own 35 1 aa ac (A.map Bs.val),own 35 1 y.1 y.2.1 (y.2.2.1.map Bs.val),bag y.2.2.2] w') ?_ ?_
   ·by_cases h1 : turn = 1
    ·rw [decide_eq_true (show (turn : Int) = 1 by omega)]
     repeat (first|refine Yaa ?_|refine Yaf ?_|refine Yad ?_|refine Yaj ?_)
     refine Zaa _ rfl rfl rfl rfl rfl (Zz0 a2 c2 l2 _ (hB2.mono fun r hr => (hr.rd hS).ro) hk2) ?_
     rintro _ w ⟨b2,d2,M2,Y2,rfl,hT2,hY2,hd2,hS'⟩
     replace hS := hS.plus hS'
     clear hS'
     obtain ⟨h6,h4⟩ := Zmb hT2
     repeat (first|refine Yd7 ?_|refine Yag ?_)
     exact Zbg ⟨b2,d2,M2,Y2⟩ ⟨rfl,rfl,rfl,rfl,rfl,rfl,rfl,rfl,trivial⟩ ⟨h6,h4,hY2,hd2,hS.pick [4,4,4,4,0,0]⟩
    ·rw [decide_eq_false (show ¬ (turn : Int) = 1 by omega)]
     obtain ⟨h6,h4⟩ := Zmb hT1
     repeat (first|refine Yal ?_|refine Yai ?_)
     exact Zbg ⟨b1,d1,M1,Y1⟩ ⟨rfl,rfl,rfl,rfl,rfl,rfl,rfl,rfl,trivial⟩ ⟨h6,h4,hY1,hd1,hS.pick [2,2,2,2,0,0]⟩
   clear hS
   rintro ⟨b1,d1,M,Y⟩ w ⟨hM6,hM4,hY,hd,hS⟩
   simp only at hM6 hM4 hY hd hS ⊢
   repeat (first|refine Yd7 ?_|refine Yag ?_|refine Yea ?_|refine Yab ?_)
   obtain ⟨lg,hlg⟩ : ∃ lg : Bool,lg = M.any fun e => decide (400 < e.s.length) := ⟨_,rfl⟩
   obtain ⟨F2,hS2,hro,hw,hbk⟩ := hS.call []
   have hrM := (hro (own 35 1 b1 d1 (M.map Bs.val)) (by simp)).own_row
   clear hro
   refine Zbt (α := Unit) (fun _ => [(0,.slice a1 l1.length c1),(1,.slice a2 l2.length c2),(5,.pointer (some ⟨c,0,none⟩)),(6,.pointer (some ⟨tb,0,none⟩)),(7,.pointer (some ⟨x,0,none⟩)),(9,.slice aa l.length ac),(10,.int .i64 (turn : Nat)),(11,.slice b1 M.length d1),(12,.bool lg)])
    (fun _ w' => St w F2 [] w') ?_ ?_
   ·refine Zal (α := Nat) (fun i => [(0,.slice a1 l1.length c1),(1,.slice a2 l2.length c2),(5,.pointer (some ⟨c,0,none⟩)),(6,.pointer (some ⟨tb,0,none⟩)),(7,.pointer (some ⟨x,0,none⟩)),(9,.slice aa l.length ac),(10,.int .i64 (turn : Nat)),(11,.slice b1 M.length d1),(12,.bool ((M.take i).any fun e => decide (400 < e.s.length))),(13,.int .i64 (i : Nat))])
     (fun i w' => i ≤ M.length ∧ St w F2 [] w') (fun i => M.length - i) 0 ⟨rfl,rfl,rfl,rfl,rfl,rfl,rfl,rfl,rfl,rfl,trivial⟩ ⟨Nat.zero_le _,hS2⟩ ?_
    clear hS hS2
    rintro i w1 ⟨hi,hS⟩
    by_cases hil : i < M.length
    ·have hx0 : M[i]? = some M[i] := List.getElem?_eq_getElem hil
     have htk : (M.take (i + 1)).any (fun e => decide (400 < e.s.length)) = ((M.take i).any (fun e => decide (400 < e.s.length)) || decide (400 < M[i].s.length)) := by
      rw [List.take_succ_eq_append_getElem hil,List.any_append]; simp
     generalize M[i] = y at hx0 htk
     have hr := hrM
     have hx : (M.map Bs.val)[i]? = some (.slice y.a y.s.length y.c) := by simp [hx0,Bs.val]
     obtain ⟨ab,ao,hbb⟩ := (hr.rd hS).base (by intro e; rw [e] at hx; simp at hx)
     rw [hbb] at hr ⊢
     generalize (M.take i).any (fun e => decide (400 < e.s.length)) = cur at *
     cases cur
     ·by_cases h4 : 400 < y.s.length
      ·rw [decide_eq_true h4] at htk
       repeat (first|refine Yen ?_|(refine X_id ?_;first|refine Yaf ?_|refine Yag ?_|refine Ya4 ?_|refine Yas ?_|refine Ya1 ?_|refine Ybx ?_|refine Ybb ?_|refine Yax ?_|refine Ybw ?_)|refine Yeb ?_|refine Yef ?_)
       exact Zag (i + 1) ⟨rfl,rfl,rfl,rfl,rfl,rfl,rfl,rfl,by rw [htk]; rfl,rfl,trivial⟩ ⟨hil,hS⟩ (by omega)
      ·rw [decide_eq_false h4] at htk
       repeat (first|refine Yen ?_|(refine X_id ?_;first|refine Yaf ?_|refine Yag ?_|refine Ya4 ?_|refine Yas ?_|refine Ya1 ?_|refine Ybt ?_|refine Ybb ?_|refine Yax ?_|refine Ybw ?_)|refine Yeb ?_|refine Yef ?_)
       exact Zag (i + 1) ⟨rfl,rfl,rfl,rfl,rfl,rfl,rfl,rfl,by rw [htk]; rfl,rfl,trivial⟩ ⟨hil,hS⟩ (by omega)
     ·repeat (first|refine Yeq ?_|(refine X_id ?_;first|refine Yaf ?_|refine Yag ?_|refine Ybd ?_|refine Yas ?_|refine Ya1 ?_|refine Yax ?_)|refine Yeb ?_|refine Yef ?_)
      exact Zag (i + 1) ⟨rfl,rfl,rfl,rfl,rfl,rfl,rfl,rfl,by rw [htk]; rfl,rfl,trivial⟩ ⟨hil,hS⟩ (by omega)
    ·obtain rfl : i = M.length := by omega
     rw [List.take_length,← hlg]
     repeat (first|refine Yd7 ?_|refine Yaf ?_|refine Yas ?_|refine Ya3 ?_|refine Yej ?_|refine Yed ?_)
     exact Zbg () ⟨rfl,rfl,rfl,rfl,rfl,rfl,rfl,rfl,rfl,trivial⟩ hS
   clear hS hS2
   rintro ⟨⟩ w1 hS
   replace hS := hbk hS
   clear hbk hw hrM
   cases lg
   case true =>
    have hex : ∃ y ∈ M,400 < y.s.length := by
     have := hlg.symm
     rw [List.any_eq_true] at this
     obtain ⟨y,hy,h⟩ := this
     exact ⟨y,hy,by simpa using h⟩
    repeat (first|refine Yaa ?_|refine Yaf ?_|refine Yd8 ?_)
    refine Zaa _ rfl rfl rfl rfl rfl (Z4b x b1 M d1 _ (hY.bss (hS.rd (r := own 35 1 b1 d1 (M.map Bs.val)) (by simp)).ro (hS.rd (r := bag Y) (by simp)).ro) (by omega) hex) ?_
    rintro _ w2 ⟨rfl,hS'⟩
    replace hS := hS.plus hS'
    clear hS'
    repeat (first|refine Yen ?_|(refine X_id ?_;first|refine Yaf ?_|refine Yag ?_|refine Yay ?_|refine Ya4 ?_|refine Yba ?_|refine Yax ?_)|refine Yae ?_|refine Yad ?_|refine Yal ?_|refine Ya5 ?_|refine Yaj ?_|refine Yai ?_|refine Yed ?_)
    exact Zag (z := (turn,⟨l,L,A,ra,aa,rc,ac,X⟩)) (turn + 1,⟨l,L,A,ra,aa,rc,ac,X⟩) ⟨rfl,rfl,rfl,rfl,rfl,rfl,rfl,trivial⟩ ⟨hlt,hok,hS.pick [0,0,0,0]⟩ (by dsimp only; omega)
   case false =>
    have hall : ∀ y ∈ M,y.s.length ≤ 400 := fun y hy => by
     have := hlg.symm
     rw [List.any_eq_false] at this
     have := this y hy
     simp only [decide_eq_true_eq] at this
     omega
    repeat (first|refine Yaa ?_|refine Yaf ?_|refine Yd8 ?_)
    obtain ⟨F2,hcc,hr1,hw,hbk⟩ := hS.call [true,true,true]
    refine Zaa _ rfl rfl rfl rfl rfl (Z4c rd fs l hok.l7 hok.l4 tb x ra rc L b1 M d1 _ _ (hT.mono hw) (hL1.mono hw) (hG1.mono hw) (hw _ htb) (hY.bss (hr1 (own 35 1 b1 d1 (M.map Bs.val)) (by simp)) (hr1 (bag Y) (by simp))) (by omega) hall hok.tL hok.bL hok.rc hcc) ?_
    rintro _ w2 ⟨l',ra',rc',L',X',k,hl',hk,rfl,hX',hTL',hBL',hrc',hS⟩
    replace hS := hbk hS
    clear hbk hw hcc hr1
    have hkM : k ≤ M.length := by omega
    have hok7 : l.length ≤ 7 := hok.l7
    have hl7 : l'.length ≤ 7 := by rw [hl',List.length_append,List.length_take]; simp only [Zar,List.length_map]; omega
    have hl7' : l'.length = l.length + k := by rw [hl',List.length_append,List.length_take]; simp only [Zar,List.length_map]; omega
    obtain ⟨e,he⟩ : ∃ e : Int,e = if l.length + M.length ≤ 7 then 0 else 6 := ⟨_,rfl⟩
    rw [← he]
    have hAl : A.length = l.length := by have := congrArg List.length hok.tA; simpa [Zar] using this
    by_cases h7 : l.length + M.length ≤ 7
    case' pos =>
     rw [if_pos h7] at he
     have hke : k = M.length := by omega
    case' neg =>
     rw [if_neg h7] at he
    all_goals
     repeat (first|refine Ye4 ?_|(refine X_id ?_;first|refine Yaf ?_|refine Yag ?_|refine Yay ?_|refine Ybd ?_|refine Ya4 ?_|refine Yas ?_|refine Ybh ?_|refine Ybi ?_|refine Ybl ?_|refine Yba ?_|refine Ya3 ?_|refine Ybt ?_)|refine Yei ?_|refine Yab ?_)
     refine X_yl (Zaq (l := 0) (h := k) rfl rfl rfl rfl (.inr ⟨_,_,rfl,by omega,by omega,by omega⟩) (.inl ⟨rfl,rfl⟩)) rfl rfl ?_
     rw [sub_zero,Nat.sub_zero,Nat.sub_zero]
     repeat (first|refine Yaa ?_)
     refine Zas (T := 35) (a := aa) (m := k) rfl rfl rfl rfl rfl hS (by rw [List.length_map,hAl,Nat.mul_one]) hok.ac (Z01 k (hS.rd (r := own 35 1 b1 d1 (M.map Bs.val)) (by simp)).own_row) (by rw [List.length_take,List.length_map]; omega) (fun u hu => by obtain ⟨y,_,rfl⟩ := List.mem_map.1 (List.mem_of_mem_take hu); rfl) (by omega) (by simp only [maxLen]; omega) (fun aa' ac' w3 hS hac' _ => ?_)
     repeat (first|refine Yd7 ?_|refine Yag ?_|refine Yea ?_|refine Yab ?_)
     rw [← hl7']
     obtain ⟨A',hA'⟩ : ∃ A',A' = A ++ M.take k := ⟨_,rfl⟩
     have hTA : Zar A' = l' := by
      have h0 : Zar A = l := hok.tA
      rw [hA',hl',← h0]
      simp [Zar]
     rw [← List.map_take,← List.map_append,← hA'] at hS
     have hS : St wb F1 [bag Y,chR c f 0 (atT (Za5 10)) (Nt (trV (Za2 rd fs l'))) X',pts x (chnC l'.length (Zau rd fs l' l'.length) tb ra' rc'),own 35 1 ra' rc' (L'.map Bs.val),own 35 1 aa' ac' (A'.map Bs.val),own 35 1 b1 d1 (M.map Bs.val)] _ := hS.took
     have hS := hS.chAdd
     have hBL3 : BsIn L' (Y ++ X') := hBL'.mono fun y hy => List.mem_append_right _ hy
     have hBM3 : BsIn M (Y ++ X') := hY.mono fun y hy => List.mem_append_left _ hy
     have hBA3 : BsIn A' (Y ++ X') := by
      rw [hA']
      exact (hok.bA.mono fun y hy => List.mem_append_right _ (hX' y hy)).app (hBM3.take k)
     generalize Y ++ X' = X3 at hS hBL3 hBM3 hBA3
     have hl4 : ∀ s ∈ l',s.length ≤ 400 := fun s hs => by
      rw [hl'] at hs
      rcases List.mem_append.1 hs with hs | hs
      ·exact hok.l4 s hs
      ·obtain ⟨y,hy,rfl⟩ := List.mem_map.1 (List.mem_of_mem_take hs)
       exact hall y hy
     have hacl : l'.length ≤ ac' := by omega
     refine Zbt (α := List RowD) (fun _ => [(0,.slice a1 l1.length c1),(1,.slice a2 l2.length c2),(5,.pointer (some ⟨c,0,none⟩)),(6,.pointer (some ⟨tb,0,none⟩)),(7,.pointer (some ⟨x,0,none⟩)),(9,.slice aa' l'.length ac'),(10,.int .i64 (turn : Nat)),(15,.int .i64 e)])
      (fun X4 w' => BsIn L' X4 ∧ BsIn A' X4 ∧ St wb F1 [chR c f 0 (atT (Za5 10)) (Nt (trV (Za2 rd fs l'))) X4,pts x (chnC l'.length (Zau rd fs l' l'.length) tb ra' rc'),own 35 1 ra' rc' (L'.map Bs.val),own 35 1 aa' ac' (A'.map Bs.val)] w') ?_ ?_
     ·refine Zal (α := Nat × List Bs × List RowD) (fun y => [(0,.slice a1 l1.length c1),(1,.slice a2 l2.length c2),(5,.pointer (some ⟨c,0,none⟩)),(6,.pointer (some ⟨tb,0,none⟩)),(7,.pointer (some ⟨x,0,none⟩)),(9,.slice aa' l'.length ac'),(10,.int .i64 (turn : Nat)),(15,.int .i64 e),(11,.slice b1 M.length d1),(16,.int .i64 (y.1 : Nat))])
       (fun y w' => y.1 ≤ M.length ∧ y.2.1.length = M.length ∧ (∀ u ∈ y.2.1,u.s.length ≤ 420) ∧ BsIn L' y.2.2 ∧ BsIn A' y.2.2 ∧ BsIn y.2.1 y.2.2 ∧ St wb F1 [chR c f 0 (atT (Za5 10)) (Nt (trV (Za2 rd fs l'))) y.2.2,pts x (chnC l'.length (Zau rd fs l' l'.length) tb ra' rc'),own 35 1 ra' rc' (L'.map Bs.val),own 35 1 aa' ac' (A'.map Bs.val),own 35 1 b1 d1 (y.2.1.map Bs.val)] w') (fun y => M.length - y.1) (0,M,X3) ⟨rfl,rfl,rfl,rfl,rfl,rfl,rfl,rfl,rfl,rfl,trivial⟩ ⟨Nat.zero_le _,rfl,hM4,hBL3,hBA3,hBM3,hS⟩ ?_
      clear hS
      rintro ⟨i,N0,X0'⟩ w4 ⟨hi,hN0,hN4,hNL,hNA,hNN,hS⟩
      simp only at hi hN0 hN4 hNL hNA hNN hS ⊢
      by_cases hil : i < M.length
      ·repeat (first|refine Yd7 ?_|refine Yaf ?_|refine Yag ?_|refine Yas ?_|refine Ya1 ?_|refine Yeb ?_|refine Yab ?_)
       refine Zal (α := Nat × List Bs × List RowD) (fun y => [(0,.slice a1 l1.length c1),(1,.slice a2 l2.length c2),(5,.pointer (some ⟨c,0,none⟩)),(6,.pointer (some ⟨tb,0,none⟩)),(7,.pointer (some ⟨x,0,none⟩)),(9,.slice aa' l'.length ac'),(10,.int .i64 (turn : Nat)),(15,.int .i64 e),(11,.slice b1 M.length d1),(16,.int .i64 (i : Nat)),(17,.int .i64 (y.1 : Nat))])
        (fun y w' => y.1 ≤ 2 ∧ y.2.1.length = M.length ∧ (∀ u ∈ y.2.1,u.s.length ≤ 420) ∧ BsIn L' y.2.2 ∧ BsIn A' y.2.2 ∧ BsIn y.2.1 y.2.2 ∧ St wb F1 [chR c f 0 (atT (Za5 10)) (Nt (trV (Za2 rd fs l'))) y.2.2,pts x (chnC l'.length (Zau rd fs l' l'.length) tb ra' rc'),own 35 1 ra' rc' (L'.map Bs.val),own 35 1 aa' ac' (A'.map Bs.val),own 35 1 b1 d1 (y.2.1.map Bs.val)] w') (fun y => 2 - y.1) (0,N0,X0') ⟨rfl,rfl,rfl,rfl,rfl,rfl,rfl,rfl,rfl,rfl,rfl,trivial⟩ ⟨Nat.zero_le _,hN0,hN4,hNL,hNA,hNN,hS⟩ ?_
       clear hS hN0 hN4 hNL hNA hNN
       rintro ⟨k2,N,X5⟩ w5 ⟨hk2,hN0,hN4,hNL,hNA,hNN,hS⟩
       simp only at hk2 hN0 hN4 hNL hNA hNN hS ⊢
       have hx0 : N[i]? = some N[i] := List.getElem?_eq_getElem (by omega)
       have hym := List.getElem_mem (l := N) (n := i) (by omega)
       generalize N[i] = y0 at hx0 hym
       have hy4 := hN4 y0 hym
       have hin := hNN.inn y0 hym
       have hcap := hNN.cap y0 hym
       have hxi : (N.map Bs.val)[i]? = some (.slice y0.a y0.s.length y0.c) := by simp [hx0,Bs.val]
       obtain ⟨bb,hbb⟩ := St.ownBase (hS.pick [4]) (by intro e; rw [e] at hxi; simp at hxi)
       rw [hbb] at hS ⊢
       by_cases hk1 : k2 < y0.s.length
       ·by_cases hk3 : k2 < 2
        ·obtain ⟨yb,yo,hya⟩ := ((hS.rd (r := chR c f 0 (atT (Za5 10)) (Nt (trV (Za2 rd fs l'))) X5) (by repeat (first|exact List.mem_cons_self ..|refine List.mem_cons_of_mem _ ?_))).ch.bag hin).base (by intro e;have := congrArg List.length e;simp only at this;rw [Zaf] at this;simp only [List.length_nil] at this;omega)
         simp only at hya
         rw [hya] at hxi hin
         have hb0 := Zs3 (l := y0.s) (i := 0) (by omega)
         repeat (first|refine Yaa ?_|refine Yaf ?_|refine Ybb ?_|refine Yd8 ?_)
         refine X_yl (Zat rfl rfl ((hS.ownRd (a := some ⟨bb,0,none⟩)).cellF (by first | omega | (dsimp only; omega)) hxi)) rfl rfl ?_
         repeat (first|refine Yen ?_|refine Yaf ?_|refine Ybd ?_|refine Yas ?_|refine Ya1 ?_|refine Yae ?_|refine Yak ?_|refine Yal ?_|refine Yaj ?_|refine Yab ?_)
         refine Zzj (α := List Bs × List RowD) (fun y => [(0,.slice a1 l1.length c1),(1,.slice a2 l2.length c2),(5,.pointer (some ⟨c,0,none⟩)),(6,.pointer (some ⟨tb,0,none⟩)),(7,.pointer (some ⟨x,0,none⟩)),(9,.slice aa' l'.length ac'),(10,.int .i64 (turn : Nat)),(15,.int .i64 e),(11,.slice (some ⟨bb,0,none⟩) M.length d1),(16,.int .i64 (i : Nat)),(17,.int .i64 (k2 : Nat))])
          (fun y w' => y.1.length = M.length ∧ (∀ u ∈ y.1,u.s.length ≤ 420) ∧ BsIn L' y.2 ∧ BsIn A' y.2 ∧ BsIn y.1 y.2 ∧ St wb F1 [chR c f 0 (atT (Za5 10)) (Nt (trV (Za2 rd fs l'))) y.2,pts x (chnC l'.length (Zau rd fs l' l'.length) tb ra' rc'),own 35 1 ra' rc' (L'.map Bs.val),own 35 1 aa' ac' (A'.map Bs.val),own 35 1 (some ⟨bb,0,none⟩) d1 (y.1.map Bs.val)] w') ?_ ?_
         ·intro Q'
          refine Zao (.s 0 (.s 1 (.s 2 (.s 3 (.s 4 (.s 5 (.s 6 (.s 7 (.s 8 (.s 10 (.s 11 (.s 12 (.s 13 (.s 14 (.h 9 (.h 15 (.s 16 (.h 17 .nil .no)) .no) .no))))))))))))))) mixed (by kernel_rfl) rfl ?_
          have hS := hS.drew
          repeat (first|(refine Zad ?_;first|refine Ya2 ?_|refine Yb3 ?_))
          refine Zba (fun w' => w'.cell? _ = some _) rfl rfl ((hS.ownRd (a := some ⟨bb,0,none⟩)).cellF (by first | omega | (dsimp only; omega)) hxi) (fun _ hc => Zat rfl rfl hc) rfl rfl ?_
          repeat (first|(refine Zad ?_;first|refine Yb3 ?_))
          refine Zba (fun w' => w'.cell? _ = some _) rfl rfl (((hS.rd (r := chR c f 0 (atT (Za5 10)) (Nt (trV (Za2 rd fs l'))) X5) (by repeat (first|exact List.mem_cons_self ..|refine List.mem_cons_of_mem _ ?_))).ch.bag hin).cellF (i := 0) (by first|omega|(dsimp only;omega)) hb0) (fun _ hc => Zat rfl rfl hc) rfl rfl ?_
          repeat (first|(refine Zad ?_;first|refine Ya2 ?_|refine Yb3 ?_|refine Yc9 ?_))
          refine Zba (fun w' => w'.cell? _ = some _) rfl rfl ((hS.ownRd (a := some ⟨bb,0,none⟩)).cellF (by first | omega | (dsimp only; omega)) hxi) (fun _ hc => Zat rfl rfl hc) rfl rfl ?_
          refine Zak rfl rfl (fun _ => Zaq (l := 1) (h := y0.s.length) rfl rfl rfl rfl (.inl ⟨rfl,rfl⟩) (.inr ⟨_,_,rfl,by omega,by omega,by omega⟩)) rfl rfl ?_
          repeat (first|refine Ybf (fun _ _ hS _ => ?_)|(refine Zad ?_;first|refine Yau ?_)|(refine Zac ?_;first|refine Ycp ?_))
          have hnw : Rd _ (bytes (some ⟨yb,yo,none⟩) y0.s) := (hS.rd (r := chR c f 0 (atT (Za5 10)) (Nt (trV (Za2 rd fs l'))) X5) (by repeat (first|exact List.mem_cons_self ..|refine List.mem_cons_of_mem _ ?_))).ch.bag hin
          refine Zas (T := 5) (n := 1) (m := y0.s.length - 1) rfl rfl rfl rfl rfl hS rfl (Nat.le_refl _) (hnw.subBytes (l := 1) (h := y0.s.length) (c := y0.c) hcap (by omega)) (by rw [Zaf,List.length_take,List.length_drop]; omega) Zcu (by omega) (by simp only [maxLen]; omega) (fun a' q' w hS hq' _ => ?_)
          repeat (first|(refine Zad ?_;first|refine Yb3 ?_|refine Yau ?_)|(refine Zac ?_;first|refine Ycp ?_))
          refine Zup (a := some ⟨bb,0,none⟩) (i := i) rfl rfl (by rw [Int.toNat_natCast,Nat.mul_one]) rfl rfl rfl rfl hS (by rw [List.length_map]; omega) (fun w hS => ?_)
          repeat (first|refine Yav ?_|(refine Zad ?_;first|refine Yaz ?_)|(refine Zac ?_;first|refine Ycp ?_))
          obtain ⟨s',hs'⟩ : ∃ s',s' = (y0.s[0]'(by omega) + 1) :: y0.s.drop 1 := ⟨_,rfl⟩
          have hsl : s'.length = 1 + (y0.s.length - 1) := by rw [hs',List.length_cons,List.length_drop]; omega
          have hbv : bv s' = [.int .u8 (IntKind.wrap .u8 (((y0.s[0]'(by omega)).toNat : Int) + 1))] ++ bv ((y0.s.drop 1).take (y0.s.length - 1)) := by
           rw [List.take_of_length_le (by rw [List.length_drop]; omega),Z5u,hs']; rfl
          have hval : Bs.val ⟨a',q',s'⟩ = .slice a' (1 + (y0.s.length - 1)) q' := by rw [← hsl]; rfl
          rw [← hbv,← hval,← List.map_set] at hS
          have hS : St wb F1 [own 5 1 a' q' (bv s'),chR c f 0 (atT (Za5 10)) (Nt (trV (Za2 rd fs l'))) X5,pts x (chnC l'.length (Zau rd fs l' l'.length) tb ra' rc'),own 35 1 ra' rc' (L'.map Bs.val),own 35 1 aa' ac' (A'.map Bs.val),own 35 1 (some ⟨bb,0,none⟩) d1 ((N.set i ⟨a',q',s'⟩).map Bs.val)] _ := hS.took
          have hS := (hS.toBag (a := a') (cs := bv s') fun _ h => own.row h).chAdd
          have hmo : ∀ u ∈ X5,u ∈ [(a',bv s')] ++ X5 := fun u hu => List.mem_append_right _ hu
          exact Zbg ⟨N.set i ⟨a',q',s'⟩,[(a',bv s')] ++ X5⟩ ⟨rfl,rfl,rfl,rfl,rfl,rfl,rfl,rfl,rfl,rfl,rfl,trivial⟩ ⟨by rw [List.length_set]; exact hN0,fun u hu => (List.mem_or_eq_of_mem_set hu).elim (hN4 u) (fun e => by rw [e]; simp only; omega),hNL.mono hmo,hNA.mono hmo,(hNN.mono hmo).set i (List.mem_append_left _ (List.mem_cons_self ..)) (by simp only; omega),hS⟩
         clear hS hN0 hN4 hNL hNA hNN hin hxi hx0 hym
         rintro ⟨N6,X6⟩ w6 ⟨hN0,hN4,hNL,hNA,hNN,hS⟩
         simp only at hN0 hN4 hNL hNA hNN hS ⊢
         repeat (first|refine Yd7 ?_|refine Yem ?_|refine Yad ?_)
         exact Zag (z := (k2,N,X5)) (k2 + 1,N6,X6) ⟨rfl,rfl,rfl,rfl,rfl,rfl,rfl,rfl,rfl,rfl,rfl,trivial⟩ ⟨by dsimp only; omega,hN0,hN4,hNL,hNA,hNN,hS⟩ (by dsimp only; omega)
        ·repeat (first|refine Yaa ?_|refine Yaf ?_|refine Ybb ?_|refine Yd8 ?_)
         refine X_yl (Zat rfl rfl ((hS.ownRd (a := some ⟨bb,0,none⟩)).cellF (by first | omega | (dsimp only; omega)) hxi)) rfl rfl ?_
         repeat (first|refine Yen ?_|(refine X_id ?_;first|refine Yaf ?_|refine Yag ?_|refine Ybd ?_|refine Yas ?_|refine Ya1 ?_|refine Ya3 ?_|refine Yax ?_)|refine Yad ?_|refine Ya5 ?_|refine Yai ?_|refine Ye0 ?_)
         exact Zag (z := (i,N0,X0')) (i + 1,N,X5) ⟨rfl,rfl,rfl,rfl,rfl,rfl,rfl,rfl,rfl,rfl,trivial⟩ ⟨hil,hN0,hN4,hNL,hNA,hNN,hS⟩ (by dsimp only; omega)
       ·repeat (first|refine Yaa ?_|refine Yaf ?_|refine Ybb ?_|refine Yd8 ?_)
        refine X_yl (Zat rfl rfl ((hS.ownRd (a := some ⟨bb,0,none⟩)).cellF (by first | omega | (dsimp only; omega)) hxi)) rfl rfl ?_
        repeat (first|refine Yeq ?_|(refine X_id ?_;first|refine Yaf ?_|refine Yag ?_|refine Ya4 ?_|refine Yas ?_|refine Ya3 ?_|refine Yax ?_)|refine Yad ?_|refine Ya5 ?_|refine Yai ?_|refine Ye0 ?_)
        exact Zag (z := (i,N0,X0')) (i + 1,N,X5) ⟨rfl,rfl,rfl,rfl,rfl,rfl,rfl,rfl,rfl,rfl,trivial⟩ ⟨hil,hN0,hN4,hNL,hNA,hNN,hS⟩ (by dsimp only; omega)
      ·repeat (first|refine Yd7 ?_|refine Yaf ?_|refine Yas ?_|refine Ya3 ?_|refine Yej ?_|refine Yed ?_)
       exact Zbg X0' ⟨rfl,rfl,rfl,rfl,rfl,rfl,rfl,rfl,trivial⟩ ⟨hNL,hNA,hS.pick [0,0,0,0]⟩
     clear hS
     rintro X4 w4 ⟨hBL4,hBA4,hS⟩
     have hok' : CaZ.Ok ⟨l',L',A',ra',aa',rc',ac',X4⟩ := ⟨hTL',hTA,hBL4,hBA4,hl7,hl4,hrc',hacl⟩
     repeat (first|refine Yd7 ?_|(refine X_id ?_;first|refine Yaf ?_|refine Yag ?_|refine Ybh ?_|refine Ybi ?_|refine Yax ?_)|refine Yae ?_|refine Yad ?_|refine Yal ?_|refine Ya5 ?_|refine Yaj ?_|refine Yai ?_|refine Yab ?_|refine Ya6 ?_|refine Ya7 ?_|refine Zn0 rfl ?_|refine Yav ?_)
     first
      | exact Zag (z := (turn,⟨l,L,A,ra,aa,rc,ac,X⟩)) (turn + 1,⟨l',L',A',ra',aa',rc',ac',X4⟩) ⟨rfl,rfl,rfl,rfl,rfl,rfl,rfl,trivial⟩ ⟨hlt,hok',hS.pick [1,1,0,0]⟩ (by dsimp only; omega)
      | exact Zbg ⟨l',L',A',ra',aa',rc',ac',X4⟩ ⟨rfl,rfl,rfl,rfl,trivial⟩ ⟨hok',hS.pick [1,1,0,0]⟩
  ·repeat (first|refine Yd7 ?_|refine Yaf ?_|refine Ya3 ?_|refine Yej ?_|refine Yed ?_)
   exact Zbg _ ⟨rfl,rfl,rfl,rfl,trivial⟩ ⟨hok,hS⟩
 ·clear hS
  rintro ⟨l,L,A,ra,aa,rc,ac,X⟩ w ⟨hok,hS⟩
  have hl7 : l.length ≤ 7 := hok.l7
  have hl4 : ∀ s ∈ l,s.length ≤ 400 := hok.l4
  have hTA : Zar A = l := hok.tA
  have hbA : BsIn A X := hok.bA
  have hAl : A.length = l.length := by have := congrArg List.length hTA; simpa [Zar] using this
  have hA4 : ∀ y ∈ A,y.s.length ≤ 400 := fun y hy => hl4 _ (by rw [← hTA]; exact List.mem_map.2 ⟨y,hy,rfl⟩)
  clear hok
  simp only [CaZ.res] at hS ⊢
  obtain ⟨m,hm⟩ : ∃ m,m = Zau rd fs l l.length := ⟨_,rfl⟩
  have hm32 : m.length = 32 := by rw [hm]; exact Za1 _ _ _ _
  rw [← hm] at hS
  have hMk := fun W h1 h2 => Z3e aa ac A rd fs W h1 h2 (by omega) (fun y hy => by have := hA4 y hy; omega)
  rw [hAl,hTA] at hMk
  repeat (first|refine Yaa ?_|refine Yaf ?_|refine Yd8 ?_)
  refine Zaa _ rfl rfl rfl rfl rfl (hMk _ (hG1.mono fun r hr => (hr.rd hS).ro) (hbA.bss (hS.rd (r := own 35 1 aa ac (A.map Bs.val)) (by simp)).ro (hS.rd (r := chR c f 0 (atT (Za5 10)) (Nt (trV (Za2 rd fs l))) X) (by simp)).ch.ro)) ?_
  rintro _ w ⟨e1,f1,rfl,hf1,hS'⟩
  replace hS := hS.plus hS'
  clear hS' hMk
  repeat (first|refine Yd7 ?_|refine Yel ?_|refine Yd8 ?_|refine Yab ?_)
  obtain ⟨_,hcc,_,hw,hbk⟩ := hS.call [false,false,false,true]
  refine Zaa _ rfl rfl rfl rfl rfl (Zwh rd fs l hl7 hl4 tb _ _ (hT.mono hw) (hL1.mono hw) (hG1.mono hw) (hw _ htb) hcc) ?_
  rintro _ w ⟨y,ry,qy,L2,X2,rfl,hX2,hT2,hB2,hq2,hS⟩
  replace hS := hbk hS
  clear hbk hw hcc
  rw [← hm] at hS
  have hL2l : L2.length = l.length := by have := congrArg List.length hT2; simpa [Zar] using this
  have hL24 : ∀ y ∈ L2,y.s.length ≤ 400 := fun y hy => hl4 _ (by rw [← hT2]; exact List.mem_map.2 ⟨y,hy,rfl⟩)
  have hbA2 : BsIn A X2 := hbA.mono hX2
  repeat (first|refine Yen ?_|(refine X_id ?_;first|refine Yaf ?_|refine Yag ?_|refine Yay ?_|refine Ya4 ?_|refine Yba ?_|refine Ybq ?_)|refine Yd8 ?_|refine Yab ?_)
  refine Zaa _ rfl rfl rfl rfl rfl (Zy7 y l.length m tb ry qy _ (hS.rd (r := pts y (chnC l.length m tb ry qy)) (by simp))) ?_
  rintro _ _ ⟨rfl,rfl⟩
  repeat (first|refine Yaa ?_|refine Yaw ?_|refine Yaf ?_|refine Ya4 ?_|refine Yas ?_|refine Yba ?_)
  refine Zaa _ rfl rfl rfl rfl rfl (Zy7 x l.length m tb ra rc _ (hS.rd (r := pts x (chnC l.length m tb ra rc)) (by simp))) ?_
  rintro _ _ ⟨rfl,rfl⟩
  repeat (first|refine Yaa ?_|refine Yaw ?_|refine Yaf ?_|refine Ya4 ?_|refine Yas ?_|refine Yba ?_)
  refine Zaa _ rfl rfl rfl rfl rfl (Zs0 x l.length m hm32 tb ra rc _ (hS.rd (r := pts x (chnC l.length m tb ra rc)) (by simp))) ?_
  rintro _ w ⟨rfl,hS'⟩
  replace hS := hS.plus hS'
  clear hS'
  repeat (first|refine Yaw ?_|refine Yaf ?_)
  refine Zaa _ rfl rfl rfl rfl rfl (Zs0 y l.length m hm32 tb ry qy _ (hS.rd (r := pts y (chnC l.length m tb ry qy)) (by simp))) ?_
  rintro _ w ⟨rfl,hS'⟩
  replace hS := hS.plus hS'
  clear hS'
  repeat (first|refine Yaw ?_)
  refine X_yl (Ze4 rfl rfl rfl hm32 hm32) rfl rfl ?_
  rw [decide_eq_false (fun h => h rfl)]
  have hAll := fun W h1 h2 => Z5t y m hm32 tb ry qy L2 W (by omega) (fun u hu => by have := hL24 u hu; omega) h1 h2
  rw [hL2l] at hAll
  repeat (first|refine Yaa ?_|refine Yaw ?_|refine Yaf ?_|refine Ya4 ?_)
  refine Zaa _ rfl rfl rfl rfl rfl (hAll _ (hS.rd (r := pts y (chnC l.length m tb ry qy)) (by simp)).ro (hB2.bss (hS.rd (r := own 35 1 ry qy (L2.map Bs.val)) (by simp)).ro (hS.rd (r := chR c f 0 (atT (Za5 10)) (Nt (trV (Za2 rd fs l))) X2) (by simp)).ch.ro)) ?_
  rintro _ w ⟨u1,u2,rfl,hS'⟩
  replace hS := hS.plus hS'
  clear hS' hAll
  repeat (first|refine Yen ?_|(refine X_id ?_;first|refine Yaf ?_|refine Yag ?_|refine Ya4 ?_|refine Yas ?_|refine Yba ?_)|refine Yez ?_|refine Yab ?_)
  have hS : St wb F1 [chR c f 0 (atT (Za5 10)) (Nt (trV (Za2 rd fs l))) X2,pts y (chnC l.length m tb ry qy),own 35 1 ry qy (L2.map Bs.val),own 56 32 e1 f1 (Zd4 rd fs l l.length),own 35 1 aa ac (A.map Bs.val)] _ := hS.took
  refine Zbt (α := List RowD) (fun _ => [(5,.pointer (some ⟨c,0,none⟩)),(9,.slice aa l.length ac),(18,.slice e1 l.length f1),(19,.pointer (some ⟨y,0,none⟩))])
   (fun X3 w' => (∀ u ∈ X2,u ∈ X3) ∧ St wb F1 [chR c f 0 (atT (Za5 10)) (Nt (trV (Za2 rd fs l))) X3,pts y (chnC l.length m tb ry qy),own 35 1 ry qy (L2.map Bs.val),own 56 32 e1 f1 (Zd4 rd fs l l.length),own 35 1 aa ac (A.map Bs.val)] w') ?_ ?_
  ·refine Zal (α := Nat × List RowD) (fun z => [(5,.pointer (some ⟨c,0,none⟩)),(9,.slice aa l.length ac),(18,.slice e1 l.length f1),(19,.pointer (some ⟨y,0,none⟩)),(21,.int .i64 (z.1 : Nat))])
    (fun z w' => z.1 ≤ l.length ∧ (∀ u ∈ X2,u ∈ z.2) ∧ St wb F1 [chR c f 0 (atT (Za5 10)) (Nt (trV (Za2 rd fs l))) z.2,pts y (chnC l.length m tb ry qy),own 35 1 ry qy (L2.map Bs.val),own 56 32 e1 f1 (Zd4 rd fs l l.length),own 35 1 aa ac (A.map Bs.val)] w') (fun z => l.length - z.1) (0,X2) ⟨rfl,rfl,rfl,rfl,rfl,trivial⟩ ⟨Nat.zero_le _,fun _ h => h,hS⟩ ?_
   clear hS
   rintro ⟨i,X3⟩ w ⟨hi,hX3,hS⟩
   simp only at hi hX3 hS ⊢
   by_cases hil : i < l.length
   ·obtain ⟨y2,hy2⟩ : ∃ y2,L2[i]? = some y2 := ⟨_,List.getElem?_eq_getElem (by omega)⟩
    obtain ⟨y3,hy3⟩ : ∃ y3,A[i]? = some y3 := ⟨_,List.getElem?_eq_getElem (by omega)⟩
    have hm2 := List.mem_of_getElem? hy2
    have hm3 := List.mem_of_getElem? hy3
    have h24 := hL24 y2 hm2
    have h34 := hA4 y3 hm3
    have hin2 := hX3 _ (hB2.inn y2 hm2)
    have hin3 := hX3 _ (hbA2.inn y3 hm3)
    have hs2 : l[i]? = some y2.s := by rw [← hT2,Zar,List.getElem?_map,hy2]; rfl
    have hs3 : y3.s = y2.s := by
     have : l[i]? = some y3.s := by rw [← hTA,Zar,List.getElem?_map,hy3]; rfl
     rw [hs2] at this; injection this with this; exact this.symm
    have hv2 : (L2.map Bs.val)[i]? = some (.slice y2.a y2.s.length y2.c) := by rw [List.getElem?_map,hy2]; rfl
    repeat (first|refine Yd7 ?_|refine Yaf ?_|refine Yas ?_|refine Ya1 ?_|refine Yeb ?_|refine Yab ?_)
    refine Zaa _ rfl rfl rfl rfl rfl (Z38 y l.length m hm32 tb ry qy i hil (L2.map Bs.val) y2.a y2.c y2.s hv2 _ (by omega) (hS.rd (r := pts y (chnC l.length m tb ry qy)) (by simp)) (hS.rd (r := own 35 1 ry qy (L2.map Bs.val)) (by simp)).own_row ((hS.rd (r := chR c f 0 (atT (Za5 10)) (Nt (trV (Za2 rd fs l))) X3) (by simp)).ch.bag hin2) (by omega)) ?_
    rintro _ w ⟨g1,g2,rfl,hg2,hS'⟩
    replace hS := hS.plus hS'
    clear hS'
    repeat (first|refine Yd7 ?_|refine Ye3 ?_|refine Yd8 ?_|refine Yab ?_)
    refine Zaa _ rfl rfl rfl rfl rfl (Z48 i (by omega) _) ?_
    rintro _ w ⟨rfl,hS'⟩
    replace hS := hS.plus hS'
    clear hS'
    repeat (first|refine Yaa ?_|refine Ybf (fun _ _ hS _ => ?_))
    rename_i pk _ _
    have hS := hS.pick [2,2,2,2,2,1,0]
    change St wb F1 [chR c f 0 (atT (Za5 10)) (Nt (trV (Za2 rd fs l))) X3,pts y (chnC l.length m tb ry qy),own 35 1 ry qy (L2.map Bs.val),own 56 32 e1 f1 (Zd4 rd fs l l.length),own 35 1 aa ac (A.map Bs.val),own 5 1 g1 g2 (bv y2.s),own 9 1 (some ⟨pk,0,none⟩) 3 (strV [dbN,logN,keyD i])] _ at hS
    obtain ⟨_,hcc,hr1,hw,hbk⟩ := hS.call [true]
    refine Zaa _ rfl rfl rfl rfl rfl (get_ (Zf7 rd fs _ l rfl hl7 hl4) _ [dbN,logN,keyD i] _ _ _ (hT.mono hw) (hL1.mono hw) (hr1 (own 9 1 (some ⟨pk,0,none⟩) 3 (strV [dbN,logN,keyD i])) (by simp)).own_row (by simp) hcc) ?_
    rintro v w ⟨X4,hX4,hS,hv⟩
    replace hS := hbk hS
    clear hbk hw hcc hr1
    rw [Zvz (by rw [Zb0]; exact hl7) (Zro hil)] at hv
    have hgd : l.getD i [] = y2.s := by rw [List.getD_eq_getElem?_getD,hs2]; rfl
    rw [hgd] at hv
    obtain ⟨q1,q2,rfl,hq2',hqr⟩ := hv
    repeat (first|refine Yd7 ?_|refine Ye3 ?_|refine Yao (fun _ hS _ => ?_)|refine Yar (fun _ _ hS _ => ?_)|refine Yae ?_|refine Yab ?_)
    rename_i b24 _ _ _ w24 _
    obtain ⟨F3,hS3,hro,hw,hbk⟩ := hS.call []
    obtain ⟨v0,hv0⟩ : ∃ v0,v0 = recV y2.s (Zau rd fs l (i + 1)) := ⟨_,rfl⟩
    rw [← hv0] at hqr hq2' hro
    have hc := hro (pts b24 (.cells (List.toArray [.int .i64 0,.int .i64 384,.int .i64 0,.int .i64 0,.slice q1 (encM v0).length q2]) 84 (0,0))) (by simp)
    have hr := (hro (own 35 1 aa ac (A.map Bs.val)) (by simp)).own_row
    have hrM := (hro (own 56 32 e1 f1 (Zd4 rd fs l l.length)) (by simp)).own_row
    have hX := (hro (chR c f 0 (atT (Za5 10)) (Nt (trV (Za2 rd fs l))) X4) (by simp)).ch
    have hg := (hro (own 5 1 g1 g2 (bv y2.s)) (by simp)).own_row
    have hx : (A.map Bs.val)[i]? = some (.slice y3.a y3.s.length y3.c) := by rw [List.getElem?_map,hy3]; rfl
    have sM := Zls rd fs l hil
    have lM : (bv (Zau rd fs l (i + 1))).length = 32 := by rw [Zaf]; exact Za1 _ _ _ _
    obtain ⟨ab,ao,rfl⟩ := hr.start.base (by intro e; rw [e] at hx; simp at hx)
    obtain ⟨mb,mo,rfl⟩ := hrM.start.base (by intro e; rw [e] at sM; have := congrArg List.length sM; rw [lM] at this; simp at this)
    have h3 := hX.bag (hX4 _ hin3)
    have hm1 : (Zau rd fs l (i + 1)).length = 32 := Za1 _ _ _ _
    clear hro hw
    refine Z2i (α := Unit) (fun _ => [(5,.pointer (some ⟨c,0,none⟩)),(9,.slice (some ⟨ab,ao,none⟩) l.length ac),(18,.slice (some ⟨mb,mo,none⟩) l.length f1),(19,.pointer (some ⟨y,0,none⟩)),(21,.int .i64 (i : Nat)),(252,.bool false)]) (fun _ w' => St w24 F3 [] w') ?_ ?_
    ·intro Q'
     replace hS := hS3
     refine Zao (.s 0 (.s 1 (.s 2 (.s 3 (.s 4 (.s 5 (.s 6 (.s 7 (.s 8 (.s 9 (.s 10 (.s 11 (.h 12 (.s 13 (.s 14 (.s 15 (.s 16 (.s 17 (.s 18 (.s 19 (.s 20 (.s 21 (.s 22 (.s 23 (.s 24 (.s 25 (.h 26 (.h 27 (.s 28 (.s 29 .nil)) .no) .no)))))))))))))) .no))))))))))))) mixed (by kernel_rfl) rfl ?_
     have hS := hS.drew
     repeat (first|(refine Zad ?_;first|refine Ya2 ?_|refine Yb8 ?_|refine Zak rfl rfl (fun _ => Zgi rfl rfl rfl (by omega)) rfl rfl ?_|refine Yb5 ?_|refine Zbs rfl rfl rfl rfl (fun _ => Zgi rfl rfl rfl (by omega)) rfl rfl ?_|refine Ydk ?_|refine Ycq ?_|refine Yd2 ?_))
     refine Zaa _ rfl rfl rfl rfl rfl (Z2v g1 y3.a g2 y3.c y2.s y3.s _ (hg.rd hS) (h3.rd hS) (by omega)) ?_
     rintro _ w ⟨rfl,hS'⟩
     replace hS := hS.plus hS'
     clear hS'
     rw [decide_eq_true hs3.symm]
     repeat (first|(refine Zad ?_;first|refine Ya2 ?_|refine Yb8 ?_|refine Yb5 ?_|refine Ycj ?_|refine Ydu ?_|refine Ydk ?_|refine Ydl ?_|refine Yd2 ?_)|(refine Zac ?_;first|refine Ycp ?_))
     refine Zbw (fun w' => Zdm w' _ _ _) rfl rfl rfl rfl ((hrM.rd hS).cellsC (by first | omega | (dsimp only; omega)) sM lM) (fun _ hc => Zcj rfl rfl hc) rfl rfl ?_
     repeat (first|(refine Zad ?_;first|refine Ycq ?_))
     refine Zaa _ rfl rfl rfl rfl rfl (Z0y y3.a y3.c y3.s (Zau rd fs l (i + 1)) (by omega) hm1 _ (h3.rd hS)) ?_
     rintro _ w ⟨g3,g4,rfl,hg4,hS'⟩
     replace hS := hS.plus hS'
     clear hS'
     have hle : (encM v0).length ≤ 512 := by rw [hv0]; exact Zm2 h24 hm1
     have heq : encM v0 = encM (recV y3.s (Zau rd fs l (i + 1))) := by rw [hv0,hs3]
     repeat (first|(refine Zad ?_;first|refine Ycq ?_)|(refine Zac ?_;first|refine Ycp ?_))
     refine Zaa _ rfl rfl rfl rfl rfl (Z2v q1 g3 q2 g4 (encM v0) (encM (recV y3.s (Zau rd fs l (i + 1)))) _ (hqr.rd (hX.rd hS)) (hS.rd (r := bytes g3 (encM (recV y3.s (Zau rd fs l (i + 1))))) (by simp)) (by omega)) ?_
     rintro _ w ⟨rfl,hS'⟩
     replace hS := hS.plus hS'
     clear hS'
     rw [decide_eq_true heq]
     repeat (first|(refine Zad ?_;first|refine Yaz ?_|refine Yb8 ?_|refine Ydu ?_)|(refine Zac ?_;first|refine Ycp ?_))
     exact Zbg () ⟨rfl,rfl,rfl,rfl,rfl,rfl,trivial⟩ hS.drops
    ·rintro ⟨⟩ w6 hS
     replace hS := hbk hS
     repeat (first|refine Yd7 ?_|refine Yem ?_|refine Yey ?_|refine Yef ?_)
     exact Zag (z := (i,X3)) (i + 1,X4) ⟨rfl,rfl,rfl,rfl,rfl,trivial⟩ ⟨hil,fun u hu => hX4 u (hX3 u hu),hS.pick [1,1,1,1,1]⟩ (by dsimp only; omega)
   ·repeat (first|refine Yd7 ?_|refine Yaf ?_|refine Yas ?_|refine Ya3 ?_|refine Yej ?_|refine Yed ?_)
    exact Zbg X3 ⟨rfl,rfl,rfl,rfl,trivial⟩ ⟨hX3,hS⟩
  clear hS
  rintro X3 w ⟨hX3,hS⟩
  repeat (first|refine Yaa ?_|refine Yaf ?_|refine Yas ?_|refine Yd8 ?_)
  refine Zaa _ rfl rfl rfl rfl rfl (Z37 y l.length m hm32 tb ry qy (l.length : Nat) (.inr (by omega)) _ (hS.rd (r := pts y (chnC l.length m tb ry qy)) (by simp))) ?_
  rintro _ _ ⟨rfl,rfl⟩
  by_cases h0 : l.length = 0
  ·repeat (first|refine Yd7 ?_|refine Ye3 ?_|refine Yae ?_|refine Yab ?_)
   refine Zao (.h 0 (.s 1 (.s 2 (.s 3 (.s 4 (.s 5 (.s 6 (.s 7 (.s 8 (.s 9 (.s 10 (.s 12 (.s 13 (.s 14 (.s 15 (.s 16 (.s 17 (.h 11 (.s 18 (.s 19 (.s 20 (.s 21 .nil)))) .no))))))))))))))))) .no) mixed (by kernel_rfl) rfl ?_
   have hS := hS.drew
   repeat (first|(refine Zad ?_;first|refine Yau ?_))
   refine Zaa _ rfl rfl rfl rfl rfl (Zoy rd fs _ (hG1.mono fun r hr => (hr.rd hS).ro) (hL1.at_ hS)) ?_
   rintro _ w ⟨rfl,hS'⟩
   replace hS := hS.plus hS'
   clear hS'
   repeat (first|refine Yah ?_|refine Yd9 ?_|(refine Zad ?_;first|refine Yaz ?_|refine Ya2 ?_|refine Ybk ?_|refine Ycb ?_|refine Yb5 ?_|refine Zbs rfl rfl rfl rfl (fun _ => Zhz rfl rfl rfl) rfl rfl ?_|refine Ydb ?_|refine Zbs rfl rfl rfl rfl (fun _ => Zh3 rfl rfl rfl (by omega)) rfl rfl ?_|refine Yc5 ?_|refine Ycg ?_)|(refine Zac ?_;first|refine Ycp ?_))
   exact ⟨rfl,(hbk1 hS).drops⟩
  ·have sB := Zls rd fs l (show l.length - 1 < l.length by omega)
   rw [show l.length - 1 + 1 = l.length by omega,← hm] at sB
   have lB : (bv m).length = 32 := by rw [Zaf]; exact hm32
   obtain ⟨eb,he1⟩ := St.ownBase (hS.pick [3]) (by intro e; rw [e] at sB; have := congrArg List.length sB; rw [lB] at this; simp at this)
   rw [he1] at hS ⊢
   repeat (first|refine Yd7 ?_|refine Ye3 ?_|refine Yae ?_|refine Yab ?_)
   refine Zao (.h 0 (.s 1 (.s 2 (.s 3 (.s 4 (.s 5 (.s 6 (.s 7 (.s 8 (.s 9 (.s 10 (.s 12 (.s 13 (.s 14 (.s 15 (.s 16 (.s 17 (.h 11 (.s 18 (.s 19 (.s 20 (.s 21 .nil)))) .no))))))))))))))))) .no) mixed (by kernel_rfl) rfl ?_
   have hS := hS.drew
   repeat (first|(refine Zad ?_;first|refine Yau ?_))
   refine Zaa _ rfl rfl rfl rfl rfl (Zoy rd fs _ (hG1.mono fun r hr => (hr.rd hS).ro) (hL1.at_ hS)) ?_
   rintro _ w ⟨rfl,hS'⟩
   replace hS := hS.plus hS'
   clear hS'
   repeat (first|(refine Zad ?_;first|refine Ya2 ?_|refine Ycb ?_|refine Yb5 ?_|refine Ydb ?_|refine Zbs rfl rfl rfl rfl (fun _ => Zh3 rfl rfl rfl (by omega)) rfl rfl ?_|refine Zbs rfl rfl rfl rfl (fun _ => Zgj rfl rfl rfl (by omega)) rfl rfl ?_|refine Ydk ?_|refine Ydv ?_)|(refine Zac ?_;first|refine Ycp ?_))
   refine Zbw (fun w' => Zdm w' _ _ _) rfl rfl rfl rfl (((hS.rd (r := own 56 32 (some ⟨eb,0,none⟩) f1 (Zd4 rd fs l l.length)) (by simp)).own_row).cellsC (by first | omega | (dsimp only; omega)) sB lB) (fun _ hc => Zcj rfl rfl hc) rfl rfl ?_
   repeat (first|(refine Zad ?_;first|refine Ycq ?_))
   refine Zaa _ rfl rfl rfl rfl rfl (Zs0 y l.length m hm32 tb ry qy _ (hS.rd (r := pts y (chnC l.length m tb ry qy)) (by simp))) ?_
   rintro _ w ⟨rfl,hS'⟩
   replace hS := hS.plus hS'
   clear hS'
   repeat (first|(refine Zac ?_;first|refine Ycp ?_))
   refine Zbs rfl rfl rfl rfl (fun _ => Zwz rfl rfl rfl hm32 hm32) rfl rfl ?_
   rw [decide_eq_true rfl]
   repeat (first|refine Yah ?_|refine Yd9 ?_|(refine Zad ?_;first|refine Yaz ?_|refine Ybk ?_|refine Ycb ?_|refine Zbs rfl rfl rfl rfl (fun _ => Zf3 rfl rfl rfl) rfl rfl ?_))
   exact ⟨rfl,(hbk1 hS).drops⟩
end Cr
