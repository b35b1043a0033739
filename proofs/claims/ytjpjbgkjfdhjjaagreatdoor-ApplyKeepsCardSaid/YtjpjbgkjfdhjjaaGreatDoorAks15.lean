/-
  Layer 8 (tree): a tree is opened on a new table of any size.
  Layer 8 (tree): a fresh disk,log,table,tree; a change begun on it.
  Layer 26 (apply): a fresh tree of eighty nodes,a change begun on it.
  creelref05.Name says nameOk.
  The law's helpers of layer 26: number,creelref26.Right,creelref05.Same.
  Package apply in plain words: two parts' names,as they are listed.
  Layer 26: the chapter's example (known).
  The laws' helper Same: are bytes the same?
  The law ApplyKeeps: what it computes.
-/
import Derived.Test.YtjpjbgkjfdhjjaaGreatDoorAks13
import Derived.Test.YtjpjbgkjfdhjjaaGreatDoorAks10
import Derived.Test.YtjpjbgkjfdhjjaaGreatDoorAks14
import Derived.Test.YtjpjbgkjfdhjjaaGreatDoorAks3
import Derived.Test.YtjpjbgkjfdhjjaaGreatDoorAks8
import Derived.Test.YtjpjbgkjfdhjjaaGreatDoorAks7
namespace Cr
open Go Go.Proofs
set_option maxRecDepth 100000
set_option maxHeartbeats 64000000
attribute [local irreducible] Calls

theorem Zo9 : Zhm (List.replicate 80 none) 400 200 [Zjx] = (0,Zbm 80) := by kernel_rfl
theorem Z09 (rd fs : List Int) : Ztm rd fs (Za6 882) 400 = ⟨0,Za6 882,0,false⟩ := by kernel_rfl
theorem Ztc {rd fs : List Int} {tp lp p m j n nb : Nat} (h0 : atT (List.replicate n none) 0 = none) (hap : Zhm (List.replicate n none) nb (j / 2) [Zjx] = (0,Zbm n)) (hu1 : (Zk6 (Zbm n)).length = 1) (hu2 : atT (Zbm n) 0 = some rootNd) (W : World) (F : Nat → Prop) (hG : Gl W F rd fs) (hL : Lg W F) (hm : (m : Int) < last) (hS : St W F [itab rd fs tp lp p j m n nb (List.replicate n none)] W) :
  Calls Tryz.prog 26 #[.pointer (some ⟨tp,0,none⟩)] W (Ret fun v w => ∃ f,v = .tuple #[.pointer (some ⟨f,0,none⟩),.int .i64 0] ∧ St W F [pts f (.cells (List.toArray [.pointer (some ⟨tp,0,none⟩),.int .i64 0]) 168 (0,0)),itab rd fs tp lp p j (m + 1) n nb (Zbm n)] w) := by
 refine Zab Tryz.func26 rfl Tryz.ntmps26 rfl ?_
 repeat (first|refine Yd1 ?_|refine Yef ?_|refine Yd2 ?_|refine Yab ?_)
 obtain ⟨F2,hS2,hro,hw,hbk⟩ := hS.call []
 have hIt := hro (itab rd fs tp lp p j m n nb (List.replicate n none)) (by simp)
 have htab := Zhy hIt
 refine Zaa _ rfl rfl rfl rfl rfl (htab.get _ 0 fun r h => h.rd hS2) ?_
 rintro v w hV
 rw [h0] at hV;obtain ⟨rfl,hS'⟩ := hV
 replace hS := hS.plus hS';clear hS' hS2 hro hw hbk hIt htab;repeat (first|refine Yd1 ?_|(refine X_id ?_;first|refine Yaf ?_|refine Yag ?_|refine Yax ?_|refine Ybf ?_|refine Ybo ?_|refine Yao (fun _ hS _ => ?_)|refine Yas (fun _ _ hS _ => ?_))|refine Yfa ?_|refine Yab ?_)
 refine Zaa _ rfl rfl rfl rfl rfl (Zjm none [] 0 _ (Zhv _ _ _) ⟨by decide,fun _ h => (by cases h)⟩ (hL.at_ hS)) ?_
 rintro _ w ⟨a,q,rfl,hq,hS'⟩
 replace hS := hS.plus hS';clear hS';repeat (first|refine Yaa ?_|refine Ybo ?_|refine Ybi (fun _ _ hS _ => ?_))
 rename_i b2 _ _;obtain ⟨_,hc,hr,hw,hbk⟩ := hS.call [false,false,false,true]
 have hro := hr (own 5 1 a q (bv (wrD []))) (by simp)
 have hrw := hr (own 165 7 (some ⟨b2,0,none⟩) 1 [.int .i64 0,.int .i64 1,.int .i64 493,.int .i64 0,.int .i64 0,.slice a (wrD []).length q,.bool false]) (by simp)
 have hC : Chgs _ _ (some ⟨b2,0,none⟩) [⟨Zjx,a,q⟩] := ⟨hrw.own_row,fun x hx => by obtain rfl := List.mem_singleton.1 hx; exact hro.own_row⟩
 refine Zaa _ rfl rfl rfl rfl rfl (Z4d (some ⟨b2,0,none⟩) 1 [⟨Zjx,a,q⟩] _ _ (hG.mono hw) hC (by simp) (by simp) hm hc) ?_
 rintro _ w ⟨rfl,hS⟩
 replace hS := hbk hS
 clear hc hr hw hbk hC hro hrw;have hap : Zhm (List.replicate n none) nb (j / 2) (([⟨Zjx,a,q⟩] : List ChgA).map ChgA.c) = (0,Zbm n) := hap
 rw [hap] at hS ⊢;simp only at hS ⊢
 repeat (first|refine Yeh ?_|refine Yaf ?_|refine Yag ?_|refine Ybf ?_|refine Yd2 ?_|refine Yd9 ?_)
 refine Zaa _ rfl rfl rfl rfl rfl (Zth _ (hS.rd (r := itab rd fs tp lp p j (m + 1) n nb (Zbm n)) (by simp)).ro (hL.at_ hS) hu2 hu1) ?_
 rintro _ w ⟨rfl,hS'⟩
 replace hS := hS.plus hS';clear hS';repeat (first|refine Yeh ?_|(refine X_id ?_;first|refine Yaf ?_|refine Yag ?_|refine Yba ?_|refine Ybb ?_|refine Ya5 ?_|refine Ybo ?_|refine Ybc (fun _ _ hS _ => ?_))|refine Yeq ?_|refine Yep ?_)
 exact ⟨_,rfl,hS.took⟩
theorem Z01 (W : World) : Calls Tryz.prog 28 #[.int .i64 80] W (Ret fun v w => ∃ r,v = .pointer (some ⟨r,0,none⟩) ∧ St W noF [] w) := by
 have hS := St.start W
 refine Zab Tryz.func28 rfl Tryz.ntmps28 rfl ?_
 repeat (first|refine Yd1 ?_|refine Yaf ?_|refine Yag ?_|refine Ybo ?_|refine Ybc (fun _ _ hS _ => ?_)|refine Yee ?_|refine Yd3 ?_)
 exact ⟨_,rfl,hS.drops⟩
theorem Z4n (n : Nat) (no : Int) : Nt t0 no = atT (Zbm n) no := by
 have he : Zcl t0 = [(0,rootNd)] := by kernel_rfl
 unfold Nt
 rw [he];by_cases h0 : no = 0
 ·subst h0
  rfl
 ·unfold atT
  have h1 : getA no [((0 : Int),rootNd)] = none := by
   show (if _ then _ else _) = _
   rw [if_neg fun e => h0 e]
   rfl
  rw [h1]
  split
  ·next h =>
   obtain ⟨k,hk⟩ : ∃ k,no.toNat = k + 1 := ⟨no.toNat - 1,by omega⟩
   rw [hk,Zbm,List.getD_cons_succ,List.getD_eq_getElem?_getD,List.getElem?_replicate]
   split <;> rfl
  ·rfl
theorem Z2p : (Zk6 (Zbm 80)).length = 1 := by kernel_rfl
theorem Zsm (rd fs : List Int) (W : World) (hG : Gl W noF rd fs) (hL : Lg W noF) : Calls Tryz.prog 5 #[] W (Ret fun v w => ∃ (lp tp p f c r : Nat),v = .tuple #[.pointer (some ⟨f,0,none⟩),.pointer (some ⟨c,0,none⟩),.pointer (some ⟨r,0,none⟩)] ∧
  St W noF [chR c f 0 (atT (Zbm 80)) (Nt t0) [],pts f (.cells (List.toArray [.pointer (some ⟨tp,0,none⟩),.int .i64 0]) 168 (0,0)),itab rd fs tp lp p 400 2 80 400 (Zbm 80)] w) := by
 have hS := St.start W
 have hN : Nt t0 = atT (Zbm 80) := funext (Z4n 80)
 rw [hN];refine Zab Tryz.func5 rfl Tryz.ntmps5 rfl ?_
 repeat (first|refine Yd1 ?_|refine Yag ?_|refine Yd2 ?_|refine Yab ?_)
 refine Zaa _ rfl rfl rfl rfl rfl (new_ 882 _ (by omega) (by omega)) ?_
 rintro _ w ⟨q,rfl,hS'⟩
 replace hS := hS.plus hS';clear hS';repeat (first|refine Yd1 ?_|refine Yex ?_|refine Yd2 ?_|refine Yab ?_)
 have hopen := Z41 q (Za6 882) 400 rd fs
 rw [Z09] at hopen;obtain ⟨_,hc,hr,hw,hbk⟩ := hS.call [true]
 refine Zaa _ rfl rfl rfl rfl rfl (hopen _ _ (hG.mono hw) (by simp [Za6]) hc) ?_
 rintro _ w (⟨h,_⟩ | ⟨_,lp,rfl,hS⟩)
 ·exact absurd rfl h
 replace hS := hbk hS
 clear hc hr hw hbk hopen;replace hS : St W noF [qlog lp q 400 0 (List.replicate 481 zero64)] w := St.newLog (k := 481) (by omega) hS
 repeat (first|refine Yd1 ?_|refine Yex ?_|refine Yd2 ?_|refine Yab ?_)
 obtain ⟨_,hc,hr,hw,hbk⟩ := hS.call [true]
 refine Zaa _ rfl rfl rfl rfl rfl (Z1r lp q 400 0 80 400 _ rd fs _ _ (hG.mono hw) (by simp) (by omega) (by omega) (by omega) (by omega) (by simp [last]) (Zns (by omega)) (fun i hi => Zns (by omega)) hc) ?_
 rintro _ w ⟨tp,rfl,hS⟩
 replace hS := hbk hS
 clear hc hr hw hbk;repeat (first|refine Yd1 ?_|refine Yex ?_|refine Yd2 ?_|refine Yab ?_)
 obtain ⟨_,hc,hr,hw,hbk⟩ := hS.call [true]
 refine Zaa _ rfl rfl rfl rfl rfl (Ztc (n := 80) (nb := 400) (j := 400) (by kernel_rfl) Zo9 Z2p (by kernel_rfl) _ _ (hG.mono hw) (hL.mono hw) (by simp [last]) hc) ?_
 rintro _ w ⟨f,rfl,hS⟩
 replace hS := hbk hS
 clear hc hr hw hbk;repeat (first|refine Yeh ?_|(refine X_id ?_;first|refine Yaf ?_|refine Yag ?_|refine Yax ?_|refine Ya3 ?_|refine Ya5 ?_)|refine Yec ?_|refine Yab ?_)
 refine Zaa _ rfl rfl rfl rfl rfl (Z0t (T := atT (Zbm 80)) _ (hS.rd (r := pts f (.cells (List.toArray [.pointer (some ⟨tp,0,none⟩),.int .i64 0]) 168 (0,0))) (by simp))) ?_
 rintro _ w ⟨c,rfl,hS'⟩
 replace hS := hS.plus hS';clear hS';repeat (first|refine Yaa ?_)
 refine Zaa _ rfl rfl rfl rfl rfl (Z01 _) ?_
 rintro _ w ⟨r,rfl,hS'⟩
 replace hS := hS.plus hS';clear hS';repeat (first|refine Yd1 ?_|refine Yag ?_|refine Yah ?_|refine Yab ?_|refine Yde ?_)
 exact ⟨lp,tp,q,f,c,r,rfl,hS.took⟩
def may : List UInt8 := [97,98,99,100,101,102,103,104,105,106,107,108,109,110,111,112,113,114,115,116,117,118,119,120,121,122,48,49,50,51,52,53,54,55,56,57,46,45,95]
theorem Z1i : ∀ n : Fin 256,(UInt8.ofNat n.val ∈ may ↔ okC (UInt8.ofNat n.val)) := by decide +kernel
theorem Zzt (x : UInt8) : x ∈ may ↔ okC x := by
 have h := Z1i ⟨x.toNat,x.toNat_lt⟩
 simpa using h
theorem Z2x (s : List UInt8) (W : World) : Calls Tryz.prog 33 #[.string (str s)] W (Ret fun v w => v = .bool (decide (nameOk s)) ∧ St W noF [] w) := by
 have hS := St.start W
 have hz := Zb2 s
 have hzm : (str may).size = 39 := rfl
 by_cases h1 : s.length < 1
 ·rw [Zcz (.inl h1)]
  refine Zab Tryz.func33 rfl Tryz.ntmps33 rfl ?_
  repeat (first|refine Yek ?_|(refine X_id ?_;first|refine Yaf ?_|refine Yag ?_|refine Yba ?_|refine Yb0 ?_|refine Ybf ?_)|refine Yei ?_|refine Yej ?_)
  exact ⟨rfl,hS⟩
 by_cases h2 : 24 < s.length
 ·rw [Zcz (.inr (.inl h2))]
  refine Zab Tryz.func33 rfl Tryz.ntmps33 rfl ?_
  repeat (first|refine Yev ?_|(refine X_id ?_;first|refine Yaf ?_|refine Yag ?_|refine Yba ?_|refine Ya3 ?_|refine Yb0 ?_|refine Ybg ?_|refine Ybv ?_)|refine Yei ?_|refine Yej ?_)
  exact ⟨rfl,hS⟩
 by_cases h3 : s = [46]
 ·rw [Zcz (.inr (.inr (.inl h3)))]
  refine Zab Tryz.func33 rfl Tryz.ntmps33 rfl ?_
  repeat (first|refine Yev ?_|(refine X_id ?_;first|refine Yaf ?_|refine Yag ?_|refine Yba ?_|refine Ya3 ?_|refine Yb0 ?_|refine Ybg ?_|refine Ybq ?_|refine Yck ?_)|refine Yei ?_|refine Yej ?_)
  exact ⟨rfl,hS⟩
 by_cases h4 : s = [46,46]
 ·rw [Zcz (.inr (.inr (.inr h4)))]
  refine Zab Tryz.func33 rfl Tryz.ntmps33 rfl ?_
  repeat (first|refine Yeh ?_|(refine X_id ?_;first|refine Yaf ?_|refine Yag ?_|refine Ya3 ?_|refine Yb0 ?_|refine Ybg ?_|refine Ybq ?_|refine Yck ?_|refine Ycc ?_)|refine Yei ?_|refine Yej ?_)
  exact ⟨rfl,hS⟩
 refine Zab Tryz.func33 rfl Tryz.ntmps33 rfl ?_
 repeat (first|refine Yeh ?_|(refine X_id ?_;first|refine Yaf ?_|refine Yag ?_|refine Ya3 ?_|refine Yb0 ?_|refine Ybg ?_|refine Ybq ?_|refine Ycc ?_)|refine Ye4 ?_|refine Yab ?_)
 refine Zcd (α := Unit) (fun _ => []) (fun _ w => (∀ c ∈ s,okC c) ∧ St W noF [] w) ?_ ?_
 ·refine Zak (α := Nat) (fun i => [(0,.string (str s)),(3,.string (str may)),(4,.int .i64 (i : Nat))]) (fun i w => i ≤ s.length ∧ (∀ c ∈ s.take i,okC c) ∧ St W noF [] w) (fun i => s.length - i) 0 ⟨rfl,rfl,rfl,trivial⟩ ⟨Nat.zero_le _,fun c hc => by simp at hc,hS⟩ ?_
  clear hS;rintro i w ⟨hi,hok,hS⟩
  by_cases hlt : i < s.length
  ·obtain ⟨x,hx0⟩ : ∃ x,s[i]? = some x := ⟨_,List.getElem?_eq_getElem hlt⟩
   have hx : s[((i : Nat) : Int).toNat]? = some x := hx0
   repeat (first|refine Yd1 ?_|refine Yaf ?_|refine Yag ?_|refine Yb0 ?_|refine Ya0 ?_|refine Yd5 ?_|refine Yab ?_)
   refine Zcd (α := Unit) (fun _ => [(0,.string (str s)),(3,.string (str may)),(4,.int .i64 (i : Nat)),(5,.bool (decide (x ∈ may)))]) (fun _ w => St W noF [] w) ?_ ?_
   ·refine Zak (α := Nat × Bool) (fun z => [(0,.string (str s)),(3,.string (str may)),(4,.int .i64 (i : Nat)),(5,.bool z.2),(6,.int .i64 (z.1 : Nat))]) (fun z w => z.1 ≤ 39 ∧ z.2 = decide (x ∈ may.take z.1) ∧ St W noF [] w) (fun z => 39 - z.1) (0,false) ⟨rfl,rfl,rfl,rfl,rfl,trivial⟩ ⟨Nat.zero_le _,by simp,hS⟩ ?_
    clear hS;rintro ⟨k,fd⟩ w ⟨hk,hfd,hS⟩
    simp only at hk hfd hS
    by_cases hkl : k < 39
    ·obtain ⟨m,hm0⟩ : ∃ m,may[k]? = some m := ⟨_,List.getElem?_eq_getElem hkl⟩
     have hm : may[((k : Nat) : Int).toNat]? = some m := hm0
     have hnext : decide (x ∈ may.take (k + 1)) = (fd || decide (m = x)) := by
      rw [hfd,List.take_add_one,hm0];by_cases e1 : x ∈ may.take k <;> by_cases e2 : m = x
      ·simp [e1]
      ·simp [e1]
      ·simp [e2]
      ·simp [e1,e2]; exact fun h => e2 h.symm
     cases fd with
     | true =>
      repeat (first|refine Yd1 ?_|refine Yaf ?_|refine Yb0 ?_|refine Ya0 ?_|refine Yd5 ?_|refine Yab ?_)
      refine Zaq (.s 0 (.s 1 (.s 2 (.s 3 (.s 4 (.s 5 (.s 6 (.s 7 (.s 8 (.s 9 (.s 10 .nil))))))))))) mixed (by kernel_rfl) rfl ?_
      have hS := hS.drew
      repeat (first|refine Yd1 ?_|refine Yeg ?_|refine Yad ?_|refine Yd9 ?_|(refine Zae ?_;first|refine Ya2 ?_|refine Ya4 ?_|refine Ybl ?_|refine Ycg ?_|refine Ycf ?_))
      exact Zaf (z := (k,true)) (k + 1,true) ⟨rfl,rfl,rfl,rfl,rfl,trivial⟩ ⟨hkl,by rw [hnext]; rfl,hS⟩ (by dsimp only; omega)
     | false =>
      by_cases he : m = x
      ·have he' : m.toNat = x.toNat := by rw [he]
       repeat (first|refine Yd1 ?_|refine Yaf ?_|refine Yb0 ?_|refine Ya0 ?_|refine Yd5 ?_|refine Yab ?_)
       refine Zaq (.s 0 (.s 1 (.s 2 (.s 3 (.s 4 (.s 5 (.s 6 (.s 7 (.s 8 (.s 9 (.s 10 .nil))))))))))) mixed (by kernel_rfl) rfl ?_
       have hS := hS.drew
       repeat (first|refine Yd1 ?_|refine Yeg ?_|refine Yad ?_|refine Yd9 ?_|(refine Zae ?_;first|refine Ya2 ?_|refine Ya4 ?_|refine Ybl ?_|refine Yca ?_|refine Ycb ?_|refine Zb4 rfl rfl rfl rfl (fun _ => Znj rfl rfl rfl (by omega)) rfl rfl ?_|refine Yd0 ?_))
       exact Zaf (z := (k,false)) (k + 1,true) ⟨rfl,rfl,rfl,rfl,rfl,trivial⟩ ⟨hkl,by rw [hnext,decide_eq_true he]; rfl,hS⟩ (by dsimp only; omega)
      ·have he' : ¬ m.toNat = x.toNat := fun h => he (UInt8.toNat_inj.1 h)
       repeat (first|refine Yd1 ?_|refine Yaf ?_|refine Yb0 ?_|refine Ya0 ?_|refine Yd5 ?_|refine Yab ?_)
       refine Zaq (.s 0 (.s 1 (.s 2 (.s 3 (.s 4 (.s 5 (.s 6 (.s 7 (.s 8 (.s 9 (.s 10 .nil))))))))))) mixed (by kernel_rfl) rfl ?_
       have hS := hS.drew
       repeat (first|refine Yd1 ?_|refine Yeg ?_|refine Yad ?_|refine Yd9 ?_|(refine Zae ?_;first|refine Ya2 ?_|refine Ya4 ?_|refine Ybl ?_|refine Yca ?_|refine Ycb ?_|refine Zb4 rfl rfl rfl rfl (fun _ => Zhs rfl rfl rfl (by omega)) rfl rfl ?_|refine Yd0 ?_))
       exact Zaf (z := (k,false)) (k + 1,false) ⟨rfl,rfl,rfl,rfl,rfl,trivial⟩ ⟨hkl,by rw [hnext,decide_eq_false he]; rfl,hS⟩ (by dsimp only; omega)
    ·repeat (first|refine Yd1 ?_|refine Yaf ?_|refine Yb0 ?_|refine Ya1 ?_|refine Yed ?_|refine Yd7 ?_)
     have e : may.take k = may := List.take_of_length_le (by show 39 ≤ k; omega)
     rw [e] at hfd;subst hfd
     exact Zcb () ⟨rfl,rfl,rfl,rfl,trivial⟩ hS
   ·clear hS
    rintro _ w hS
    by_cases hc : okC x
    ·rw [decide_eq_true ((Zzt x).2 hc)]
     repeat (first|refine Yd1 ?_|refine Yaf ?_|refine Yag ?_|refine Ybb ?_|refine Yaw ?_|refine Yec ?_|refine Yd9 ?_)
     refine Zaf (z := i) (i + 1) ⟨rfl,rfl,rfl,trivial⟩ ⟨hlt,fun c hc' => ?_,hS⟩ (by omega)
     rw [List.take_add_one,hx0] at hc';rcases List.mem_append.1 hc' with h | h
     ·exact hok c h
     ·obtain rfl : c = x := by simpa using h
      exact hc
    ·rw [decide_eq_false (fun h => hc ((Zzt x).1 h))]
     repeat (first|refine Yd1 ?_|refine Yaf ?_|refine Yag ?_|refine Ybn ?_|refine Yei ?_|refine Yem ?_)
     refine ⟨?_,hS⟩
     rw [decide_eq_false (fun q : nameOk s => hc (q.2.2.2.2 x (List.mem_of_getElem? hx0)))]
  ·repeat (first|refine Yd1 ?_|refine Yaf ?_|refine Yb0 ?_|refine Ya1 ?_|refine Yed ?_|refine Yd7 ?_)
   refine Zcb () trivial ⟨?_,hS⟩
   rwa [List.take_of_length_le (by omega)] at hok
 ·clear hS
  rintro _ w ⟨hok,hS⟩
  repeat (first|refine Yd1 ?_|refine Yag ?_|refine Yee ?_|refine Yd3 ?_)
  refine ⟨?_,hS⟩
  rw [decide_eq_true (show nameOk s from ⟨by omega,by omega,h3,h4,hok⟩)]
def tenA : List UInt8 := [48,49,50,51,52,53,54,55,56,57]
theorem Zxk : ∀ d : Fin 10,(tenA.drop d.val).take (d.val + 1 - d.val) = [UInt8.ofNat (48 + d.val)] := by decide
theorem Zp0 {d : Nat} (h : d < 10) : (tenA.drop d).take (d + 1 - d) = [UInt8.ofNat (48 + d)] := Zxk ⟨d,h⟩
theorem Zss {k : Nat} (h : k ≤ 1000000) : (Lib.decDigits k).length ≤ 7 := by
 have := Zc3 (n := (k : Nat)) (by omega) (by omega)
 rwa [Za7] at this
theorem Zvc : ∀ (m k : Nat),k ≤ m → k ≤ 999999 → ∀ W : World,Calls Tryz.prog 12 #[.int .i64 (k : Nat)] W (Ret fun v w => v = .string (str (Lib.decDigits k)) ∧ St W noF [] w) := by
 intro m
 induction m with
 | zero =>
  intro k hk _ W
  obtain rfl : k = 0 := by omega
  have hS := St.start W
  refine Zab Tryz.func12 rfl Tryz.ntmps12 rfl ?_
  repeat (first|refine Yd1 ?_|refine Yaf ?_|refine Yag ?_|refine Ya0 ?_|refine Yaw ?_|refine Yeb ?_|refine Yab ?_)
  refine X_yl (Zdy (s := tenA) (l := 0) (h := 1) rfl rfl rfl rfl (.inr ⟨_,_,rfl,by omega,by omega,by show _ ≤ 10; omega⟩) (.inr ⟨_,_,rfl,by omega,by omega,by omega⟩)) rfl rfl ?_
  rw [Zp0 (d := 0) (by omega)];repeat (first|refine Yd1 ?_|refine Yag ?_|refine Yah ?_|refine Yej ?_)
  exact ⟨by rw [Lib.decDigits_one (by omega)],hS⟩
 | succ m ih =>
  intro k hk h6 W
  have hS := St.start W
  by_cases h : k < 10
  ·refine Zab Tryz.func12 rfl Tryz.ntmps12 rfl ?_
   repeat (first|refine Yd1 ?_|refine Yaf ?_|refine Yag ?_|refine Ya0 ?_|refine Yaw ?_|refine Yeb ?_|refine Yab ?_)
   refine X_yl (Zdy (s := tenA) (l := k) (h := k + 1) rfl rfl rfl rfl (.inr ⟨_,_,rfl,by omega,by omega,by show _ ≤ 10; omega⟩) (.inr ⟨_,_,rfl,by omega,by omega,by omega⟩)) rfl rfl ?_
   rw [Zp0 h];repeat (first|refine Yd1 ?_|refine Yag ?_|refine Yah ?_|refine Yej ?_)
   exact ⟨by rw [Lib.decDigits_one h],hS⟩
  ·have em : ((k : Nat) : Int).tmod 10 = ((k % 10 : Nat) : Int) := by rw [Int.tmod_eq_emod_of_nonneg (by omega)]; omega
   have ed : IntKind.i64.wrap (((k : Nat) : Int).tdiv 10) = ((k / 10 : Nat) : Int) := by
    rw [Int.tdiv_eq_ediv_of_nonneg (by omega),show ((k : Nat) : Int) / 10 = ((k / 10 : Nat) : Int) by omega]
    exact w64 (by omega) (by omega)
   have hr := ih (k / 10) (by omega) (by omega)
   have hl := Zss (k := k / 10) (by omega)
   have e : Lib.decDigits k = Lib.decDigits (k / 10) ++ [UInt8.ofNat (48 + k % 10)] := Zm4 h
   have et := Zp0 (d := k % 10) (by omega)
   rw [e];generalize Lib.decDigits (k / 10) = d at hr hl ⊢;refine Zab Tryz.func12 rfl Tryz.ntmps12 rfl ?_
   repeat (first|refine Yd1 ?_|refine Ye2 ?_|refine Yec ?_|refine Yab ?_)
   refine Zaq (.s 0 (.s 1 (.s 3 (.s 4 (.s 5 (.s 6 (.s 7 (.s 8 (.h 2 (.s 9 (.s 10 .nil)) .no))))))))) mixed (by kernel_rfl) rfl ?_
   have hS := hS.drew
   repeat' (first|(refine Zah rfl rfl (fun _ => Z0a (v := ((k % 10 : Nat) : Int)) rfl rfl rfl (by omega) em) rfl rfl ?_)|(refine Zah rfl rfl (fun _ => Z0b (v := ((k / 10 : Nat) : Int)) rfl rfl rfl (by omega) ed) rfl rfl ?_)|(refine Zah rfl rfl (fun _ => Zdy (s := tenA) (l := k % 10) (h := k % 10 + 1) rfl rfl rfl rfl (.inr ⟨_,_,rfl,by omega,by omega,by show _ ≤ 10;omega⟩) (.inr ⟨_,_,rfl,by omega,by omega,by omega⟩)) rfl rfl ?_;rw [et])|(refine Zaa 12 rfl rfl rfl rfl rfl (hr _) ?_;rintro _ w ⟨rfl,hS'⟩;replace hS := hS.plus hS';clear hS')|refine Zk2 ?_ ?_|refine Yah ?_|refine Yd3 ?_|(refine Zae ?_;first|refine Ya2 ?_|refine Ya4 ?_|refine Ybl ?_|refine Yco ?_|refine Yay ?_|refine Zah rfl rfl (fun _ => Zpo rfl rfl rfl (by first|omega|(simp;omega))) rfl rfl ?_)|(refine Zac ?_;first|refine Yaz ?_))
   exact ⟨rfl,hS⟩
theorem Zmo (pack : List UInt8) (no : Int) (W : World) : Calls Tryz.prog 7 #[.string (str pack),.int .i64 no] W (Ret fun v w => v = .int .i64 (Za9 pack no) ∧ St W noF [] w) := by
 have hS := St.start W
 have hN := fun W => Z2x pack W
 unfold Za9
 by_cases h1 : nameOk pack
 case neg =>
  simp only [decide_eq_false h1] at hN
  rw [if_pos h1];refine Zab Tryz.func7 rfl Tryz.ntmps7 rfl ?_
  repeat (first|refine Yd1 ?_|(refine X_id ?_;first|(refine Zad 33 rfl rfl rfl rfl rfl hS (hN _) ?_;rintro _ _ rfl hS)|refine Yaf ?_|refine Yag ?_|refine Ybn ?_)|refine Yei ?_|refine Yej ?_)
  exact ⟨rfl,hS⟩
 simp only [decide_eq_true h1] at hN
 rw [if_neg (fun e => e h1)];by_cases h2 : no < 1
 ·rw [if_pos (.inl h2)]
  refine Zab Tryz.func7 rfl Tryz.ntmps7 rfl ?_
  repeat (first|refine Yek ?_|(refine X_id ?_;first|(refine Zad 33 rfl rfl rfl rfl rfl hS (hN _) ?_;rintro _ _ rfl hS)|refine Yaf ?_|refine Yag ?_|refine Yba ?_|refine Ybb ?_|refine Ya0 ?_)|refine Ye5 ?_|refine Yej ?_)
  exact ⟨rfl,hS⟩
 by_cases h3 : 999999 < no
 ·rw [if_pos (.inr h3)]
  refine Zab Tryz.func7 rfl Tryz.ntmps7 rfl ?_
  repeat (first|refine Yeh ?_|(refine X_id ?_;first|(refine Zad 33 rfl rfl rfl rfl rfl hS (hN _) ?_;rintro _ _ rfl hS)|refine Yaf ?_|refine Yag ?_|refine Ya3 ?_|refine Ybb ?_|refine Ya1 ?_|refine Ybv ?_)|refine Ye5 ?_|refine Yej ?_)
  exact ⟨rfl,hS⟩
 ·rw [if_neg (by omega)]
  refine Zab Tryz.func7 rfl Tryz.ntmps7 rfl ?_
  repeat (first|refine Yeh ?_|(refine X_id ?_;first|(refine Zad 33 rfl rfl rfl rfl rfl hS (hN _) ?_;rintro _ _ rfl hS)|refine Yaf ?_|refine Yag ?_|refine Ya3 ?_|refine Ybb ?_|refine Ya1 ?_|refine Ybq ?_)|refine Yeq ?_|refine Yd3 ?_)
  exact ⟨rfl,hS⟩
theorem Z22 (a b : Option Addr) (c c' : Nat) (p q : List (List UInt8)) (W : World) (ha : Rd W (row a (strV p))) (hb : Rd W (row b (strV q))) (hs : p.length ≤ 1000000) :
  Calls Tryz.prog 34 #[.slice a p.length c,.slice b q.length c'] W (Ret fun v w => v = .bool (decide (p = q)) ∧ St W noF [] w) := by
 have hS := St.start W
 by_cases hl : p.length = q.length
 case neg =>
  refine Zab Tryz.func34 rfl Tryz.ntmps34 rfl ?_
  repeat (first|refine Yd1 ?_|refine Yaf ?_|refine Yag ?_|refine Yar ?_|refine Ybj ?_|refine Yei ?_|refine Yej ?_)
  exact ⟨by rw [decide_eq_false (fun h => hl (by rw [h]))],hS⟩
 refine Zab Tryz.func34 rfl Tryz.ntmps34 rfl ?_
 repeat (first|refine Yd1 ?_|refine Yaf ?_|refine Yag ?_|refine Yar ?_|refine Ya5 ?_|refine Ye4 ?_|refine Yab ?_)
 refine Zak (α := Nat) (fun i => [(0,.slice a p.length c),(1,.slice b q.length c'),(5,.int .i64 (i : Nat))])
  (fun i w => i ≤ p.length ∧ p.take i = q.take i ∧ St W noF [] w) (fun i => p.length - i) 0 ⟨rfl,rfl,rfl,trivial⟩ ⟨Nat.zero_le _,rfl,hS⟩ ?_
 clear hS;rintro i w ⟨hi,htk,hS⟩
 by_cases hlt : i < p.length
 case neg =>
  obtain rfl : i = p.length := by omega
  repeat (first|refine Yd1 ?_|refine Yaf ?_|refine Yag ?_|refine Yar ?_|refine Ya1 ?_|refine Yea ?_|refine Ye3 ?_)
  refine ⟨?_,hS⟩
  rw [List.take_length,hl,List.take_length] at htk;simp [htk]
 have hlt2 : i < q.length := by omega
 have hx0 : p[i]? = some p[i] := List.getElem?_eq_getElem hlt
 have hy0 : q[i]? = some q[i] := List.getElem?_eq_getElem hlt2
 have t1 := List.take_succ_eq_append_getElem hlt
 have t2 := List.take_succ_eq_append_getElem hlt2
 generalize p[i] = x at hx0 t1;generalize q[i] = y at hy0 t2;have hx : (strV p)[i]? = some (.string (str x)) := by simp [strV,hx0]
 have hx2 : (strV q)[i]? = some (.string (str y)) := by simp [strV,hy0]
 have hr := ha.ro
 have hr2 := hb.ro
 obtain ⟨ab,ao,rfl⟩ := ha.base (by intro e; rw [e] at hx; simp at hx)
 obtain ⟨bb,bo,rfl⟩ := hb.base (by intro e; rw [e] at hx2; simp at hx2)
 clear ha hb;by_cases he : x = y
 ·subst he
  repeat (first|refine Yd1 ?_|refine Yaf ?_|refine Yar ?_|refine Ya0 ?_|refine Yd5 ?_|refine Yab ?_)
  refine Zaq (.s 0 (.s 1 (.s 2 (.s 3 (.s 4 (.s 5 (.s 6 (.s 7 (.s 8 .nil))))))))) mixed (by kernel_rfl) rfl ?_
  have hS := hS.drew
  repeat (first|refine Yab ?_|(refine Zae ?_;first|refine Ya2 ?_|refine Ya4 ?_|refine Yb5 ?_|refine Ydf ?_|refine Ydz ?_|refine Zah rfl rfl (fun _ => Zpd rfl rfl rfl) rfl rfl ?_))
  rw [show (decide (¬ x = x)) = false by simp]
  repeat (first|refine Yd1 ?_|refine Yeg ?_|refine Yes ?_|refine Yd9 ?_)
  refine Zaf (i + 1) ⟨rfl,rfl,rfl,trivial⟩ ⟨by omega,?_,hS⟩ (by omega)
  rw [t1,t2,htk]
 ·skip
  repeat (first|refine Yd1 ?_|refine Yaf ?_|refine Yar ?_|refine Ya0 ?_|refine Yd5 ?_|refine Yab ?_)
  refine Zaq (.s 0 (.s 1 (.s 2 (.s 3 (.s 4 (.s 5 (.s 6 (.s 7 (.s 8 .nil))))))))) mixed (by kernel_rfl) rfl ?_
  have hS := hS.drew
  repeat (first|refine Yd1 ?_|refine Yag ?_|refine Yei ?_|refine Yem ?_|(refine Zae ?_;first|refine Ya2 ?_|refine Ya4 ?_|refine Yb5 ?_|refine Ydf ?_|refine Ydz ?_|refine Zah rfl rfl (fun _ => Zuc rfl rfl rfl (by assumption)) rfl rfl ?_))
  refine ⟨?_,hS⟩
  rw [decide_eq_false (fun h => he (by rw [h,hy0] at hx0; injection hx0 with e; exact e.symm))]
end Cr
namespace Cr
open Go
set_option maxRecDepth 10000
set_option maxHeartbeats 64000000

theorem Z28 : ¬ ltS (pN 0) (pN 0) ∧ ¬ ltS (pN 1) (pN 0) ∧ ¬ ltS (pN 1) (pN 1) := by
 rw [Zr0 (i := 0) (by omega),Zr0 (i := 1) (by omega)]
 decide +kernel
theorem RevS.two {t u : Tn} {pack r c0 c1 : List UInt8} {n : Nat} (ht : TreeOk n t) (h : RevS t pack r [c0,c1]) (hg : goT t [varN,pack,r] = .ok u) : u.kids.map Tn.nm = [pN 0,pN 1] := by
 obtain ⟨u',hg',hu',hl,hun⟩ := h.dir
 rw [hg] at hg';injection hg' with e
 subst e
 have hrise := (ht.node u (Zba hg)).rise
 match hk : u.kids,hl with
 | [x,y],_ =>
  rw [hk] at hun hrise;obtain ⟨i,hi,hx⟩ := hun x (by simp)
  obtain ⟨j,hj,hy⟩ := hun y (by simp)
  have hi : i < 2 := hi
  have hj : j < 2 := hj
  have hlt : ltS x.nm y.nm := (List.pairwise_cons.1 hrise).1 y (by simp)
  rw [hx,hy] at hlt;obtain ⟨p1,p2,p3⟩ := Z28
  have h01 : i = 0 ∧ j = 1 := by
   rcases (show i = 0 ∨ i = 1 by omega) with rfl | rfl <;> rcases (show j = 0 ∨ j = 1 by omega) with rfl | rfl
   ·exact absurd hlt p1
   ·exact ⟨rfl,rfl⟩
   ·exact absurd hlt p2
   ·exact absurd hlt p3
  rw [List.map_cons,List.map_cons,List.map_nil,hx,hy,h01.1,h01.2]
def Zpz : List UInt8 := [116,111,111,108]
theorem Zxi : nameOk Zpz := by decide
theorem tool_right : RightA Zpz 1 := ⟨Zxi,by omega,by omega⟩
theorem rN_1 : rN 1 = [114,49] := by
 rw [rN,show (1 : Int) = ((1 : Nat) : Int) from rfl,Za7,Lib.decDigits_one (by decide)]
 rfl
theorem Zwc : ∃ c0 c1,Zan (List.replicate 513 0) = [c0,c1] := by
 match h : Zan (List.replicate 513 0),(show (Zan (List.replicate 513 0)).length = 2 by rw [Zcf,List.length_replicate]; decide) with
 | [c0,c1],_ => exact ⟨c0,c1,rfl⟩
end Cr
namespace Cr
open Go Go.Proofs
set_option maxRecDepth 100000
set_option maxHeartbeats 64000000
attribute [local irreducible] Calls

theorem Zuq : TreeOk 80 t0 := t0_ok.more (by omega) (by omega)
theorem Zrn {rd fs : List Int} {tp lp p j m n nb f : Nat} {b : Int} {T : Tb} {W : World} {F : Nat → Prop} (h : Ro W F (pts f (.cells (List.toArray [.pointer (some ⟨tp,0,none⟩),.int .i64 b]) 168 (0,0)))) (hI : Ro W F (itab rd fs tp lp p j m n nb T)) : TreeRo W F f tp n b (atT T) := ⟨h,Zhy hI⟩
theorem Zsb (rd fs : List Int) (W : World) (hG : Gl W noF rd fs) (hL : Lg W noF) : Calls Tryz.prog 9 #[] W (Ret fun v w => v = .bool true ∧ St W noF [] w) := by
 have hS := St.start W
 refine Zab Tryz.func9 rfl Tryz.ntmps9 rfl ?_
 repeat (first|refine Yd1 ?_|refine Yag ?_|refine Yd2 ?_|refine Yab ?_)
 refine Zaa _ rfl rfl rfl rfl rfl (Zsm rd fs _ (hG.mono fun _ hr => (hr.rd hS).ro) (hL.at_ hS)) ?_
 rintro _ w ⟨lp,tp,q,f,c,r,rfl,hS'⟩
 replace hS := hS.plus hS';clear hS';obtain ⟨F1,hS1,hro,hw1,hbk1⟩ := hS.call [true]
 have hT := Zrn (hro (pts f (.cells (List.toArray [.pointer (some ⟨tp,0,none⟩),.int .i64 0]) 168 (0,0))) (by simp)) (hro (itab rd fs tp lp q 400 2 80 400 (Zbm 80)) (by simp))
 have hL1 := hL.mono fun r hr => hw1 r hr
 clear hS hro;have hS : St w F1 [chR c f 0 (atT (Zbm 80)) (Nt t0) []] w := hS1
 clear hS1;repeat (first|refine Yd1 ?_|refine Yex ?_|refine Yd2 ?_|refine Yab ?_)
 refine Zkz (c := 513) rfl rfl rfl (by omega) (by omega) rfl rfl hS (fun kb w hS => ?_)
 obtain ⟨bs,hbs⟩ : ∃ bs,bs = List.replicate 513 (0 : UInt8) := ⟨_,rfl⟩
 obtain ⟨c0,c1,hch⟩ := Zwc
 rw [← hbs] at hS hch;have hbl : bs.length = 513 := by rw [hbs,List.length_replicate]
 obtain ⟨k1,k2,k3⟩ := Zsf tool_right (b := bs) (by omega)
 repeat (first|refine Yaa ?_)
 obtain ⟨_,hcc,hr1,hw,hbk⟩ := hS.call [false,true]
 have hby : Ro _ _ (bytes (some ⟨kb,0,none⟩) bs) := (hr1 _ (List.mem_cons_self ..)).mono fun h hh => ⟨h,Zjw h hh,fun _ _ e => e⟩
 have hkeep := Zyg Zuq Zpz 1 (some ⟨kb,0,none⟩) bs 513 (by omega) (by omega) _ _ (hT.mono hw) (hL1.mono hw) hby hcc
 rw [hbl] at hkeep;refine Zaa _ rfl rfl rfl rfl rfl hkeep ?_
 rintro _ w ⟨X1,hX1,rfl,hS⟩
 replace hS := hbk hS
 clear hbk hw hcc hr1 hby hkeep;rw [k1];generalize (Zee 80 t0 Zpz 1 bs).2 = t1 at k2 k3 hS;obtain ⟨u,hg,hu,_⟩ := k3.dir
 have hln : lstR t1 [varN,Zpz,rN 1] = (u.kids.map Tn.nm,0) := Zh5 k2.ok tool_right.three hg hu
 have hnames : u.kids.map Tn.nm = [pN 0,pN 1] := by rw [hch] at k3; exact k3.two k2.ok hg
 rw [hnames,Zr0 (i := 0) (by omega),Zr0 (i := 1) (by omega)] at hln;repeat (first|refine Yd1 ?_|refine Yef ?_|refine Ybi (fun _ _ hS _ => ?_)|refine Yd2 ?_|refine Yab ?_)
 rw [rN_1] at hln;replace hS := hS.front (chR c f 0 (atT (Zbm 80)) (Nt t1) X1)
 obtain ⟨_,hcc,hr1,hw,hbk⟩ := hS.call [true]
 refine Zaa _ rfl rfl rfl rfl rfl (Zoj k2.ok _ [varN,Zpz,[114,49]] 3 _ _ (hT.mono hw) (hL1.mono hw) (hr1 _ (List.mem_cons_self ..)).own_row (by simp) hcc) ?_
 rintro _ w ⟨X2,la,lq,hX2,rfl,_,hS⟩
 replace hS := hbk hS
 clear hbk hw hcc hr1;rw [hln] at hS ⊢;simp only at hS ⊢
 repeat (first|refine Yd1 ?_|refine Yex ?_|refine Yd2 ?_|refine Yab ?_)
 replace hS := hS.front (chR c f 0 (atT (Zbm 80)) (Nt t1) X2)
 obtain ⟨_,hcc,hr1,hw,hbk⟩ := hS.call [true]
 refine Zaa _ rfl rfl rfl rfl rfl (Zqp k2.ok Zpz 1 tool_right bs (by omega) k3 _ _ (hT.mono hw) (hL1.mono hw) hcc) ?_
 rintro _ w ⟨X3,ka,kq,hX3,rfl,hkq,hS⟩
 replace hS := hbk hS
 clear hbk hw hcc hr1;rw [hbl] at hkq ⊢;repeat (first|refine Yeh ?_|(refine X_id ?_;first|refine Yaf ?_|refine Yag ?_|refine Yax ?_|refine Yba ?_|refine Ybf ?_|refine Ybi (fun _ _ hS _ => ?_))|refine Yd2 ?_|refine Yab ?_)
 refine Zaa _ rfl rfl rfl rfl rfl (Z22 la _ lq _ [[112,48],[112,49]] [[112,48],[112,49]] _ (hS.rd (r := own 9 1 la lq (strV [[112,48],[112,49]])) (by repeat (first|exact List.mem_cons_self ..|refine Ycw ?_))).own_row (hS.rd (List.mem_cons_self ..)).own_row (by simp)) ?_
 rintro _ w ⟨rfl,hS'⟩
 replace hS := hS.plus hS';clear hS';rw [decide_eq_true rfl];repeat (first|refine Yeh ?_|(refine X_id ?_;first|refine Yaf ?_|refine Yag ?_|refine Yba ?_|refine Yar ?_|refine Ybf ?_)|refine Yah ?_|refine Yd3 ?_)
 exact ⟨rfl,(hbk1 hS.drops).drops⟩
theorem Z2c {P : Program} {o : Oper} {σ : Env} {w : World} {x y : Operand} {ts : Array TypeId} {a b : Int} (ho : o.op = .call { callee := .builtin .max,args := #[x,y],argTypes := ts }) (hx : ev σ x = some (.int .i64 a)) (hy : ev σ y = some (.int .i64 b)) : Yl P o σ w (.int .i64 (max a b)) := ⟨fun N ds f ha => by
 simp [execOp,ho,resolve,invoke,builtin,ha.eval hx,ha.eval hy,Builtin.max_,Builtin.max2]
 split <;> omega⟩
theorem Zf5 {pack : List UInt8} {no : Int} (h : Za9 pack no = 0) : RightA pack no := by
 rcases Classical.em (RightA pack no) with hr | hr
 ·exact hr
 ·exact absurd h (Zta hr)
section
variable {c f tp n : Nat} {b : Int} {T : Int → Option Nd} {t : Tn} {X : List RowD}
theorem Z1o (ht : TreeOk n t) (pack : List UInt8) (hg : getR t [varN,pack] = .error 7) (W : World) (F : Nat → Prop) (hT : TreeRo W F f tp n b T) (hG : Lg W F) (hS : St W F [chR c f b T (Nt t) X] W) :
  Calls Tryz.prog 14 #[.pointer (some ⟨c,0,none⟩),.string (str pack)] W (Ret fun v w => ∃ X',(∀ x ∈ X,x ∈ X') ∧ v = .bool true ∧ St W F [chR c f b T (Nt t) X'] w) := by
 refine Zab Tryz.func14 rfl Tryz.ntmps14 rfl ?_
 repeat (first|refine Yd1 ?_|refine Yef ?_|refine Ybi (fun _ _ hS _ => ?_)|refine Yd2 ?_|refine Yab ?_)
 replace hS := hS.front (chR c f b T (Nt t) X)
 obtain ⟨_,hcc,hr1,hw,hbk⟩ := hS.call [true]
 refine Zaa _ rfl rfl rfl rfl rfl (get_ ht _ [varN,pack] 2 _ _ (hT.mono hw) (hG.mono hw) (hr1 _ (List.mem_cons_self ..)).own_row (by simp) hcc) ?_
 rintro v w ⟨X2,hX2,hS,hv⟩
 replace hS := hbk hS
 clear hbk hw hcc hr1;rw [hg] at hv;obtain ⟨rfl,he⟩ := hv
 repeat (first|refine Yd1 ?_|(refine X_id ?_;first|refine Yaf ?_|refine Yag ?_|refine Yax ?_|refine Ybf ?_|refine Yao (fun _ hS _ => ?_)|refine Yas (fun _ _ hS _ => ?_))|refine Yee ?_|refine Yd3 ?_)
 exact ⟨X2,hX2,rfl,hS.took⟩
end
theorem applyKeeps_ (pk : List UInt8) (no other : Int) (a : Option Addr) (bs0 : List UInt8) (q : Nat) (rd fs : List Int) (W : World) (hq : bs0.length ≤ q) (hb0 : Ro W noF (bytes a bs0)) (hG : Gl W noF rd fs) (hL : Lg W noF) :
  Calls Tryz.prog 3 #[.string (str pk),.int .i64 no,.int .i64 other,.slice a bs0.length q] W (Ret fun v w => v = .bool true ∧ St W noF [] w) := by
 have hS := St.start W
 obtain ⟨hN,hhN⟩ : ∃ hN : Nat,hN = min pk.length 40 := ⟨_,rfl⟩
 have hmin1 : min ((pk.length : Nat) : Int) 40 = (hN : Nat) := by omega
 obtain ⟨hM,hhM⟩ : ∃ hM : Nat,hM = min bs0.length 2000 := ⟨_,rfl⟩
 have hmin2 : min ((bs0.length : Nat) : Int) 2000 = (hM : Nat) := by omega
 have hct : (pk.drop 0).take (hN - 0) = pk.take 40 := by
  rw [List.drop_zero,Nat.sub_zero,hhN,Nat.min_comm,← List.take_eq_take_min]
 have hsb := hb0.subBytes (l := 0) (h := hM) (c := q) (by omega) (by omega)
 rw [List.drop_zero,Nat.sub_zero] at hsb;have hbl0 : (bs0.take hM).length = hM := by rw [List.length_take]; omega
 obtain ⟨bs,hbs⟩ : ∃ bs,bs = bs0.take hM := ⟨_,rfl⟩
 obtain ⟨P,hP⟩ : ∃ P,P = pk.take 40 := ⟨_,rfl⟩
 rw [← hbs] at hsb hbl0;rw [← hP] at hct;have hbl : bs.length ≤ 2000 := by omega
 refine Zab Tryz.func3 rfl Tryz.ntmps3 rfl ?_
 repeat (first|refine Yd1 ?_|refine Yag ?_|refine Yd2 ?_|refine Yab ?_)
 refine Zaa _ rfl rfl rfl rfl rfl (Zsm rd fs _ (hG.mono fun _ hr => (hr.rd hS).ro) (hL.at_ hS)) ?_
 rintro _ w ⟨lp,tp,dp,f,c,r,rfl,hS'⟩
 replace hS := hS.plus hS';clear hS';obtain ⟨F1,hS1,hro,hw1,hbk1⟩ := hS.call [true]
 have hT := Zrn (hro (pts f (.cells (List.toArray [.pointer (some ⟨tp,0,none⟩),.int .i64 0]) 168 (0,0))) (by simp)) (hro (itab rd fs tp lp dp 400 2 80 400 (Zbm 80)) (by simp))
 have hL1 := hL.mono fun r hr => hw1 r hr
 have hG1 := hG.mono fun r hr => hw1 r hr
 have hsb1 := hw1 _ hsb
 clear hS hro hsb;have hS : St w F1 [chR c f 0 (atT (Zbm 80)) (Nt t0) []] w := hS1
 clear hS1;repeat (first|refine Yd1 ?_|refine Yaf ?_|refine Yag ?_|refine Yax ?_|refine Ybt ?_|refine Yec ?_|refine Yab ?_)
 refine Zaq (.s 0 (.s 1 (.s 2 (.s 3 (.s 4 (.s 5 (.s 6 (.s 7 (.s 8 (.s 9 (.s 10 (.s 11 .nil)))))))))))) mixed (by kernel_rfl) rfl ?_
 have hS := hS.drew
 repeat' (first | (refine Zah rfl rfl (fun _ => Zne rfl rfl rfl) rfl rfl ?_; first | rw [Zb2,hmin1] | rw [hmin2]) | (refine Zah rfl rfl (fun _ => Zam (l := 0) (h := hM) rfl rfl rfl rfl (.inr ⟨_,_,rfl,by omega,by omega,by omega⟩) (.inl ⟨rfl,rfl⟩)) rfl rfl ?_) | (refine Zah rfl rfl (fun _ => Zdy (s := pk) (l := 0) (h := hN) rfl rfl rfl rfl (.inr ⟨_,_,rfl,by omega,by omega,by omega⟩) (.inl ⟨rfl,rfl⟩)) rfl rfl ?_; rw [hct]) | refine Zk2 ?_ ?_ | (refine G_id ?_; first | refine Zew rfl rfl ?_) | (refine X_id ?_; first | refine X_yl (Zb0 rfl rfl) rfl rfl ?_) | (refine C_id ?_; first | refine Zcm ?_ | refine Zat ?_) | (refine E_id ?_; first | refine Zdd ?_) | (refine Zae ?_; first | refine Zw6 ?_ | refine Zah rfl rfl (fun _ => Zb0 rfl rfl) rfl rfl ?_ | refine Zah rfl rfl (fun _ => Zbb rfl rfl) rfl rfl ?_ | refine Zah rfl rfl (fun _ => Zpi rfl rfl) rfl rfl ?_ | refine Zah rfl rfl (fun _ => Zl7 rfl rfl) rfl rfl ?_))
 rw [show hM - 0 = bs.length by omega]
 have hbc : bs.length ≤ q - 0 := by omega
 generalize q - 0 = q2 at hbc ⊢;generalize sub a 0 1 q = sa at hsb1 ⊢;repeat (first|fail)
 obtain ⟨_,hcc,hr1,hw,hbk⟩ := hS.call [true]
 refine Zaa _ rfl rfl rfl rfl rfl (Zyg Zuq P no sa bs q2 hbc (by omega) _ _ (hT.mono hw) (hL1.mono hw) (hw _ hsb1) hcc) ?_
 rintro _ w ⟨X1,hX1,rfl,hS⟩
 replace hS := hbk hS
 clear hbk hw hcc hr1;repeat (first|refine Yd1 ?_|refine Yef ?_|refine Yd2 ?_|refine Yab ?_)
 refine Zaa _ rfl rfl rfl rfl rfl (Zmo P no _) ?_
 rintro _ w ⟨rfl,hS'⟩
 replace hS := hS.plus hS';clear hS';by_cases hbad : Za9 P no ≠ 0
 ·rw [Zol hbad] at hS ⊢
  simp only at hS ⊢
  repeat (first|refine Yd1 ?_|refine Yef ?_|refine Yd2 ?_|refine Yab ?_)
  obtain ⟨_,hcc,hr1,hw,hbk⟩ := hS.call [true]
  refine Zaa _ rfl rfl rfl rfl rfl (Zye P no hbad _ _ (hL1.mono hw) hcc) ?_
  rintro _ w ⟨rfl,hS⟩
  replace hS := hbk hS
  clear hbk hw hcc hr1;generalize Za9 P no = e at hbad ⊢;repeat (first|refine Yd1 ?_|refine Yet ?_|refine Yeb ?_|refine Yab ?_)
  refine Zaa _ rfl rfl rfl rfl rfl (Zsb rd fs _ (hG1.mono fun _ hr => (hr.rd hS).ro) (hL1.at_ hS)) ?_
  rintro _ w ⟨rfl,hS'⟩
  replace hS := hS.plus hS';clear hS';repeat (first|refine Yeh ?_|refine Yaf ?_|refine Yag ?_|refine Yba ?_|refine Ybf ?_|refine Yah ?_|refine Yej ?_)
  exact ⟨rfl,(hbk1 hS.drops).drops⟩
 have hw0 : Za9 P no = 0 := Classical.not_not.1 hbad
 have hR := Zf5 hw0
 obtain ⟨k1,k2,k3⟩ := Zsf hR hbl
 have htw := Ztr (b := []) k3 hR (d := []) (by simp)
 rw [k1,hw0];generalize (Zee 80 t0 P no bs).2 = t1 at hS k2 k3 htw;have hcf := Zfx hbl
 have hcle := Zcf bs
 obtain ⟨u,hgu,hu,hul,_⟩ := k3.dir
 have hln := Zh5 k2.ok hR.three hgu hu
 repeat (first|refine Yd1 ?_|refine Yef ?_|refine Yd2 ?_|refine Yab ?_)
 obtain ⟨_,hcc,hr1,hw,hbk⟩ := hS.call [true]
 refine Zaa _ rfl rfl rfl rfl rfl (Zqp k2.ok P no hR bs hbl k3 _ _ (hT.mono hw) (hL1.mono hw) hcc) ?_
 rintro _ w ⟨X2,ka,kq,hX2,rfl,hkq,hS⟩
 replace hS := hbk hS
 clear hbk hw hcc hr1;repeat (first|refine Yd1 ?_|refine Yeu ?_|refine Yec ?_|refine Yab ?_)
 obtain ⟨_,hcc,hr1,hw,hbk⟩ := hS.call [true]
 have hkeep := Zyg k2.ok P no none [] 0 (by simp) (by simp) _ _ (hT.mono hw) (hL1.mono hw) (Zhv _ _ _) hcc
 rw [htw] at hkeep;refine Zaa _ rfl rfl rfl rfl rfl hkeep ?_
 rintro _ w ⟨X3,hX3,rfl,hS⟩
 replace hS := hbk hS
 clear hbk hw hcc hr1 hkeep;repeat (first|refine Yd1 ?_|refine Yef ?_|refine Yd2 ?_|refine Yab ?_)
 obtain ⟨_,hcc,hr1,hw,hbk⟩ := hS.call [true]
 refine Zaa _ rfl rfl rfl rfl rfl (Zqp k2.ok P no hR bs hbl k3 _ _ (hT.mono hw) (hL1.mono hw) hcc) ?_
 rintro _ w ⟨X4,kb,kr,hX4,rfl,hkr,hS⟩
 replace hS := hbk hS
 clear hbk hw hcc hr1;repeat (first|refine Yeh ?_|(refine X_id ?_;first|refine Yaf ?_|refine Yag ?_|refine Yax ?_|refine Ya3 ?_|refine Ya5 ?_)|refine Yd2 ?_|refine Yab ?_)
 refine Zaa _ rfl rfl rfl rfl rfl (same_ kb sa kr q2 bs bs _ (hS.rd (r := own 5 1 kb kr (bv bs)) (by simp)).own_row (hsb1.rd hS) (by omega)) ?_
 rintro _ w ⟨rfl,hS'⟩
 replace hS := hS.plus hS';clear hS';rw [decide_eq_true rfl];repeat (first|refine Yeh ?_|refine Yaf ?_|refine Ya3 ?_|refine Ybb ?_|refine Yec ?_|refine Yab ?_)
 obtain ⟨nn,hnn⟩ : ∃ k : Nat,no = (k : Nat) := ⟨no.toNat,by have := hR.2.1; omega⟩
 have hnum := Zvc nn nn (Nat.le_refl _) (by have := hR.2.2; omega)
 rw [← hnn] at hnum;have hds : [114] ++ Lib.decDigits nn = rN no := by rw [rN,hnn,Za7]; rfl
 have hdl := Zss (k := nn) (by have := hR.2.2; omega)
 generalize Lib.decDigits nn = ds at hnum hds hdl;refine Zaa _ rfl rfl rfl rfl rfl (hnum _) ?_
 rintro _ w ⟨rfl,hS'⟩
 replace hS := hS.plus hS';clear hS' hnum hnn;repeat (first|refine Yaa ?_|refine Ybi (fun _ _ hS _ => ?_)|refine Yc3 ?_)
 rw [hds] at hS;replace hS := hS.front (chR c f 0 (atT (Zbm 80)) (Nt t1) X4)
 obtain ⟨_,hcc,hr1,hw,hbk⟩ := hS.call [true]
 refine Zaa _ rfl rfl rfl rfl rfl (Zoj k2.ok _ [varN,P,rN no] 3 _ _ (hT.mono hw) (hL1.mono hw) (hr1 _ (List.mem_cons_self ..)).own_row (by simp) hcc) ?_
 rintro _ w ⟨X5,la,lq,hX5,rfl,_,hS⟩
 replace hS := hbk hS
 clear hbk hw hcc hr1;rw [hln] at hS ⊢;simp only [List.length_map,hul] at hS ⊢
 repeat (first|refine Yeh ?_|(refine X_id ?_;first|refine Yaf ?_|refine Yag ?_|refine Yax ?_|refine Yar ?_|refine Ya5 ?_|refine Yaw ?_|refine Ycv ?_)|refine Yd2 ?_|refine Yab ?_)
 have hmx : max ((((bs.length : Nat) : Int) + 511) / 512) 1 = ((Zan bs).length : Nat) := by omega
 refine X_yl (Z2c rfl rfl rfl) rfl rfl ?_
 rw [hmx];have hL1a := k2.two [(no,Zan bs)] rfl (fun x hx => by rw [List.mem_singleton.1 hx]; exact k3) (fun x hx => by rw [List.mem_singleton.1 hx]; exact hR)
 have hcl : (Zan bs).length ≤ 1000 := by omega
 refine (show other = no ∨ ((other ≠ no ∧ Za9 P other ≠ 0) ∨ (other ≠ no ∧ Za9 P other = 0)) by omega).elim (fun ho => ?x) (fun h => h.elim (fun h => ?y) (fun h => ?z))
 case' x =>
  repeat (first|refine Yev ?_|(refine X_id ?_;first|refine Yaf ?_|refine Yag ?_|refine Ya3 ?_|refine Ya5 ?_|refine Ybi (fun _ _ hS _ => ?_))|refine Yec ?_|refine Yab ?_)
  replace hS := hS.front (chR c f 0 (atT (Zbm 80)) (Nt t1) X5)
  obtain ⟨t2,L,k,X6,hA,hLs,hfold,hk,ht2,hX6⟩ : ∃ (t2 : Tn) (L : List (Int × List (List UInt8))) (k : Nat) (X6 : List RowD),ArcL t2 P L ∧ (∀ x ∈ L,x.2.length ≤ 1000) ∧ [no,no,other,1000000].foldl Zgg (L,0) = ([],1 + k) ∧ k = 0 ∧ t2 = t1 ∧ X6 = X5 := ⟨t1,[(no,Zan bs)],0,X5,hL1a,fun x hx => by rw [List.mem_singleton.1 hx]; exact hcl,Zlv no other _,rfl,rfl,rfl⟩
  rw [← ht2,← hX6] at hS
 case' y =>
  obtain ⟨ho,hw1⟩ := h
  repeat (first|refine Yeh ?_|(refine X_id ?_;first|refine Yaf ?_|refine Yag ?_|refine Ya3 ?_|refine Ybj ?_|refine Ya5 ?_)|refine Yec ?_|refine Yab ?_)
  refine Zaa _ rfl rfl rfl rfl rfl (Zmo P other _) ?_
  rintro _ w ⟨rfl,hS'⟩
  replace hS := hS.plus hS';clear hS';generalize Za9 P other = e at hw1 ⊢;repeat (first|refine Yeh ?_|refine Yaf ?_|refine Yba ?_|refine Ybg ?_|refine Ybi (fun _ _ hS _ => ?_)|refine Yec ?_|refine Yab ?_)
  replace hS := hS.front (chR c f 0 (atT (Zbm 80)) (Nt t1) X5)
  obtain ⟨t2,L,k,X6,hA,hLs,hfold,hk,ht2,hX6⟩ : ∃ (t2 : Tn) (L : List (Int × List (List UInt8))) (k : Nat) (X6 : List RowD),ArcL t2 P L ∧ (∀ x ∈ L,x.2.length ≤ 1000) ∧ [no,no,other,1000000].foldl Zgg (L,0) = ([],1 + k) ∧ k = 0 ∧ t2 = t1 ∧ X6 = X5 := ⟨t1,[(no,Zan bs)],0,X5,hL1a,fun x hx => by rw [List.mem_singleton.1 hx]; exact hcl,Zlv no other _,rfl,rfl,rfl⟩
  rw [← ht2,← hX6] at hS
 case' z =>
  obtain ⟨ho,hw1⟩ := h
  have hR2 := Zf5 hw1
  obtain ⟨m1,m2,m3,m4⟩ := Zyf (b := [109,111,114,101]) k2 hR2 (by
   intro hx
   exact ho (Zob hR2.2.1 hR.2.1 (List.mem_singleton.1 hx))) (by simp) (by simp) (by omega)
  have hne : rN no ≠ rN other := fun e => ho (Zob hR2.2.1 hR.2.1 e.symm)
  have hA2 := m2.two [(other,Zan [109,111,114,101]),(no,Zan bs)] rfl (fun x hx => by
   simp only [List.mem_cons,List.not_mem_nil,or_false] at hx
   rcases hx with rfl | rfl
   ·exact m3
   ·exact m4 _ _ hne k3) (fun x hx => by
   simp only [List.mem_cons,List.not_mem_nil,or_false] at hx
   rcases hx with rfl | rfl
   ·exact hR2
   ·exact hR)
  repeat (first|refine Yeh ?_|(refine X_id ?_;first|refine Yaf ?_|refine Yag ?_|refine Ya3 ?_|refine Ybj ?_|refine Ya5 ?_)|refine Yec ?_|refine Yab ?_)
  refine Zaa _ rfl rfl rfl rfl rfl (Zmo P other _) ?_
  rintro _ w ⟨rfl,hS'⟩
  replace hS := hS.plus hS';clear hS';rw [hw1];repeat (first|refine Yeh ?_|refine Yaf ?_|refine Yba ?_|refine Ybf ?_|refine Ybi (fun _ _ hS _ => ?_)|refine Yeb ?_|refine Yab ?_)
  refine Zig rfl rfl rfl rfl hS (by simp) (fun w hS => ?_)
  repeat (first|refine Yaa ?_)
  replace hS := hS.front (chR c f 0 (atT (Zbm 80)) (Nt t1) X5)
  obtain ⟨_,hcc,hr1,hw,hbk⟩ := hS.call [true]
  refine Zaa _ rfl rfl rfl rfl rfl (Zyg k2.ok P other _ [109,111,114,101] 4 (by simp) (by simp) _ _ (hT.mono hw) (hL1.mono hw) (hr1 _ (List.mem_cons_self ..)) hcc) ?_
  rintro _ w ⟨Xz,hXz,rfl,hS⟩
  replace hS := hbk hS
  clear hbk hw hcc hr1;rw [m1];generalize (Zee 80 t1 P other [109,111,114,101]).2 = tz at hS hA2;have h4 : (Zan [109,111,114,101]).length ≤ 1000 := by rw [Zcf]; decide
  generalize Zan [109,111,114,101] = ds4 at hA2 h4;repeat (first|refine Yd1 ?_|refine Yaf ?_|refine Yag ?_|refine Ya5 ?_|refine Ybi (fun _ _ hS _ => ?_)|refine Yec ?_|refine Yab ?_)
  replace hS := hS.front (chR c f 0 (atT (Zbm 80)) (Nt tz) Xz)
  obtain ⟨t2,L,k,X6,hA,hLs,hfold,hk,ht2,hX6⟩ : ∃ (t2 : Tn) (L : List (Int × List (List UInt8))) (k : Nat) (X6 : List RowD),ArcL t2 P L ∧ (∀ x ∈ L,x.2.length ≤ 1000) ∧ [no,no,other,1000000].foldl Zgg (L,0) = ([],1 + k) ∧ k = 1 ∧ t2 = tz ∧ X6 = Xz := ⟨tz,[(other,ds4),(no,Zan bs)],1,Xz,hA2,fun x hx => by simp only [List.mem_cons,List.not_mem_nil,or_false] at hx; rcases hx with rfl | rfl; exact h4; exact hcl,Ztw ho hR2.2.2 _ _,rfl,rfl,rfl⟩
  rw [← ht2,← hX6] at hS
 all_goals
  obtain ⟨_,hcc,hr1,hw,hbk⟩ := hS.call [true]
  refine Zaa _ rfl rfl rfl rfl rfl (Z1s P hR.1 L hA hLs _ [no,no,other,1000000] 4 (by simp) (by rw [hfold]) (by rw [hfold]; exact Nat.lt_of_lt_of_le Nat.zero_lt_one (Nat.le_add_right ..)) _ _ (hT.mono hw) (hL1.mono hw) (hr1 _ (List.mem_cons_self ..)).own_row hcc) ?_
  rintro _ w ⟨X7,t3,hX7,rfl,ht3,hg2,hg3,hS⟩
  replace hS := hbk hS
  clear hbk hw hcc hr1;rw [hfold];repeat (first|refine Yd1 ?_|(refine X_id ?_;first|refine Yaf ?_|refine Yag ?_|refine Yax ?_|refine Ybf ?_|refine Ybg ?_)|refine Yew ?_|refine Yab ?_)
  obtain ⟨e3,hge⟩ := hg3 (rN no)
  obtain ⟨_,hcc,hr1,hw,hbk⟩ := hS.call [true]
  refine Zaa _ rfl rfl rfl rfl rfl (Zvp ht3 P no hR hge _ _ (hT.mono hw) (hL1.mono hw) hcc) ?_
  rintro _ w ⟨X8,hX8,rfl,hS⟩
  replace hS := hbk hS
  clear hbk hw hcc hr1;repeat (first|refine Yd1 ?_|refine Yex ?_|refine Yd2 ?_|refine Yab ?_)
  refine Zaa _ rfl rfl rfl rfl rfl (Zsb rd fs _ (hG1.mono fun _ hr => (hr.rd hS).ro) (hL1.at_ hS)) ?_
  rintro _ w ⟨rfl,hS'⟩
  replace hS := hS.plus hS';clear hS';repeat (first|refine Yaa ?_|refine Yav ?_|(refine X_id ?_;first|refine Yaf ?_|refine Yba ?_|refine Ybf ?_|refine Yaw ?_|refine Ydm ?_))
  replace hS := hS.front (chR c f 0 (atT (Zbm 80)) (Nt t3) X8)
  obtain ⟨_,hcc,hr1,hw,hbk⟩ := hS.call [true]
  refine Zaa _ rfl rfl rfl rfl rfl (Z1o ht3 P hg2 _ _ (hT.mono hw) (hL1.mono hw) hcc) ?_
  rintro _ w ⟨X9,hX9,rfl,hS⟩
  replace hS := hbk hS
  clear hbk hw hcc hr1;repeat (first|refine Yd1 ?_|refine Yag ?_|refine Yba ?_|refine Yah ?_|refine Yd3 ?_)
  exact ⟨rfl,(hbk1 hS.drops).drops⟩
end Cr
