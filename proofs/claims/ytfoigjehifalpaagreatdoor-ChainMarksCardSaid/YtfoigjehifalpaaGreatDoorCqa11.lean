/-
  Package codec: a reader reads a value,lists in lists too: the parse in plain words (pvM) is what it does.
  Package codec: Next and Decode: what bytes say (decM).
  Package codec,lists in lists too: values made and copied.
  Package codec,lists in lists too: what is wrong with a value (chkM).
  Package codec: values made: Text,Int,Of; a leaf copied.
  Package codec: a writer; leaves and lists of leaves are written as encL and encT say.
  Package codec,lists in lists too: a right value is written as encM says; Encode.
  Layer 8 (tree): a directory's bytes written and read.
  Names: what package path and the document call one; path.sign.
  path.Name says nameOk.
  Layer 8 (tree): names looked for; paths that are right; a name of a directory.
-/
import Derived.Test.YtfoigjehifalpaaGreatDoorCqa10
import Derived.Test.YtfoigjehifalpaaGreatDoorCqa6
import Derived.Test.YtfoigjehifalpaaGreatDoorCqa9
import Derived.Test.YtfoigjehifalpaaGreatDoorCqa3
import Derived.Test.YtfoigjehifalpaaGreatDoorCqa4
namespace Cr
open Go Go.Proofs
set_option maxRecDepth 100000
set_option maxHeartbeats 64000000
attribute [local irreducible] Calls

theorem Z00 (f deep : Nat) (r : List UInt8) : pvM (f + 1) deep (40 :: r) = (if 8 < deep then none else plM f deep r).map fun q => (liM q.1,q.2) := by
 rw [pvM,if_pos rfl]
 split
 ·rfl
 ·cases plM f deep r <;> rfl
theorem Z38 (f deep : Nat) (r : List UInt8) : pvM (f + 1) deep (105 :: r) = (num true 59 r).map fun q => (nuM q.1,q.2) := by
 rw [pvM,if_neg (by decide),if_pos rfl]
 cases num true 59 r <;> rfl
theorem Z37 (f deep : Nat) (c : UInt8) (r : List UInt8) (h1 : ¬ c = 40) (h2 : ¬ c = 105) : pvM (f + 1) deep (c :: r) =
  (num false 58 (c :: r)).bind fun q => if q.1.toNat ≤ q.2.length then some (txM (q.2.take q.1.toNat),q.2.drop q.1.toNat) else none := by
 rw [pvM,if_neg h1,if_neg h2]
 cases num false 58 (c :: r) <;> rfl
theorem Zsy (p : Nat) (a : Option Addr) (n c : Nat) (i : Nat) (k : Int) (W : World) (F : Nat → Prop) (hS : St W F [Rdr p a n c i 0] W) :
  Calls Tryz.prog 210 #[.pointer (some ⟨p,0,none⟩),.int .i64 k] W (Ret fun v w => v = .tuple #[] ∧ St W F [Rdr p a n c i k] w) := Zkm p a n c i 0 k W F hS
theorem Zwv (p : Nat) (a : Option Addr) (s : List UInt8) (c : Nat) (hsc : s.length ≤ c) (hl : s.length ≤ 1073741824) (f : Nat) (hL : Zzs p a s c f) : Zo6 p a s c (f + 1) := by
 intro i deep W F hi hd hf hG hb hS
 have hm := Zje p a s.length c i 0
 have q40 := is_ p a s c i 0 40
 have q105 := is_ p a s c i 0 105
 refine Zab Tryz.func168 rfl Tryz.ntmps168 rfl ?_
 by_cases hlt : i < s.length
 ·simp only [decide_eq_true hlt] at hm
  have hdr := List.drop_eq_getElem_cons hlt
  generalize hx0 : s[i] = x at hdr
  have hx : s[i]? = some x := by rw [List.getElem?_eq_getElem hlt,hx0]
  rw [hdr]
  by_cases h40 : x = 40
  ·subst h40
   simp only [decide_eq_true hx] at q40
   have hLi := hL i deep
   rw [Z00]
   generalize (if 8 < deep then none else plM f deep (s.drop (i + 1))) = res at hLi ⊢
   repeat (first|refine Yeg ?_|(refine X_id ?_;first|(refine Zad 209 rfl rfl rfl rfl rfl hS (hm _ (hS.rd (List.mem_cons_of_mem _ (List.mem_cons_self ..)))) ?_;rintro _ _ rfl hS)|(refine Zad 211 rfl rfl rfl rfl rfl hS (q40 _ (hS.rd (List.mem_cons_of_mem _ (List.mem_cons_self ..))) (hb.rd hS)) ?_;rintro _ _ rfl hS)|refine Yaf ?_|refine Yag ?_|refine Yav ?_|refine Yan ?_|refine Ybc ?_|refine Yar (fun _ _ hS _ => ?_))|refine Yfo ?_|refine Yab ?_)
   obtain ⟨_,hc,_,hw,hbk⟩ := hS.call [false,true]
   refine Zaa _ rfl rfl rfl rfl rfl (hLi _ _ hx hd (by omega) (hG.mono hw) (hw _ hb) hc) ?_
   rintro v w hV
   cases res with
   | none =>
    obtain ⟨b,m,q,rfl,j,e,hj,he,hS⟩ := hV
    replace hS := hbk hS
    clear hbk hw hc
    repeat (first|refine Yeg ?_|refine Ybn ?_|refine Yao (fun _ hS _ => ?_)|refine Yah ?_|refine Yab ?_|refine Yaq ?_|refine Ya8 ?_|refine Ybv ?_)
    exact ⟨_,_,_,_,_,_,_,_,rfl,j,e,hj,he,hS.took⟩
   | some u =>
    obtain ⟨x,t⟩ := u
    obtain ⟨b,q,rows,X,rfl,hb2,hM,j,hj,hdj,hS⟩ := hV
    replace hS := hbk hS
    clear hbk hw hc
    repeat (first|refine Yeg ?_|refine Ybn ?_|refine Yao (fun _ hS _ => ?_)|refine Yah ?_|refine Yab ?_|refine Yaq ?_|refine Ya8 ?_|refine Ybv ?_)
    have hS : St W F [bag X,Rdr p a s.length c j 0] _ := hS.took
    exact ⟨_,X,rfl,.mk (k := 2) (n := 0) (b := []) (l := x) (Nat.zero_le _) .nil hb2 hM.1 hM.2,j,hj,hdj,hS⟩
  ·have h40' : ¬ s[i]? = some 40 := fun h => h40 (by rw [hx] at h; exact Option.some.inj h)
   simp only [decide_eq_false h40'] at q40
   by_cases h105 : x = 105
   ·subst h105
    simp only [decide_eq_true hx] at q105
    rw [Z38]
    have hN := Zqv p a s c hsc (i + 1) true 59
    generalize num true 59 (s.drop (i + 1)) = res at hN ⊢
    repeat (first|refine Yeg ?_|(refine X_id ?_;first|(refine Zad 209 rfl rfl rfl rfl rfl hS (hm _ (hS.rd (List.mem_cons_of_mem _ (List.mem_cons_self ..)))) ?_;rintro _ _ rfl hS)|(refine Zad 211 rfl rfl rfl rfl rfl hS (q40 _ (hS.rd (List.mem_cons_of_mem _ (List.mem_cons_self ..))) (hb.rd hS)) ?_;rintro _ _ rfl hS)|(refine Zad 211 rfl rfl rfl rfl rfl hS (q105 _ (hS.rd (List.mem_cons_of_mem _ (List.mem_cons_self ..))) (hb.rd hS)) ?_;rintro _ _ rfl hS)|refine Yaf ?_|refine Yag ?_|refine Yav ?_|refine Yan ?_|refine Ybc ?_|refine Yar (fun _ _ hS _ => ?_))|refine Yfo ?_|refine Yab ?_)
    obtain ⟨_,hc,hr,hw,hbk⟩ := hS.call [false,true]
    refine Zaa _ rfl rfl rfl rfl rfl (Z0g p a s c i 0 105 _ _ hc (hw _ hb) (by omega)) ?_
    rintro _ w ⟨rfl,hS⟩
    replace hS := hbk hS
    clear hc hr hw hbk
    rw [show Zf4 s i 0 105 = (i + 1,0) by unfold Zf4; rw [if_neg (by simp),if_neg (by simpa using hlt),if_pos hx]] at hS
    simp only at hS
    repeat (first|refine Yeg ?_|refine Yaf ?_|refine Yeh ?_|refine Yab ?_)
    obtain ⟨_,hc,_,hw,hbk⟩ := hS.call [true,false]
    refine Zaa _ rfl rfl rfl rfl rfl (hN _ _ hc (hw _ hb) (by omega) (by omega) (hG.mono hw)) ?_
    rintro v w hV
    cases res with
    | none =>
     obtain ⟨rfl,j,e,hj,he,hS⟩ := hV
     replace hS := hbk hS
     clear hbk hw hc
     repeat (first|refine Yeg ?_|refine Ybn ?_|refine Yao (fun _ hS _ => ?_)|refine Yah ?_|refine Yab ?_|refine Yaq ?_|refine Ya8 ?_|refine Ybv ?_)
     exact ⟨_,_,_,_,_,_,_,_,rfl,j,e,hj,he,hS.took⟩
    | some u =>
     obtain ⟨n,t⟩ := u
     obtain ⟨rfl,j,hj,hdj,hS⟩ := hV
     replace hS := hbk hS
     clear hbk hw hc
     repeat (first|refine Yeg ?_|refine Ybn ?_|refine Yao (fun _ hS _ => ?_)|refine Yah ?_|refine Yab ?_|refine Yaq ?_|refine Ya8 ?_|refine Ybv ?_)
     have hS : St W F [Rdr p a s.length c j 0] _ := hS.took
     exact ⟨_,[],rfl,.mk (k := 0) (n := n) (b := []) (l := []) (rows := []) (Nat.zero_le _) .nil .nil rfl (fun _ _ _ h => by simp at h),j,hj,hdj,hS.bagNil⟩
   ·have h105' : ¬ s[i]? = some 105 := fun h => h105 (by rw [hx] at h; exact Option.some.inj h)
    simp only [decide_eq_false h105'] at q105
    rw [Z37 _ _ _ _ h40 h105,← hdr]
    have hN := Zqv p a s c hsc i false 58
    have hnn : ∀ n t,num false 58 (s.drop i) = some (n,t) → 0 ≤ n := fun n t h => Zmw h
    generalize num false 58 (s.drop i) = res at hN hnn ⊢
    repeat (first|refine Yeg ?_|(refine X_id ?_;first|(refine Zad 209 rfl rfl rfl rfl rfl hS (hm _ (hS.rd (List.mem_cons_of_mem _ (List.mem_cons_self ..)))) ?_;rintro _ _ rfl hS)|(refine Zad 211 rfl rfl rfl rfl rfl hS (q40 _ (hS.rd (List.mem_cons_of_mem _ (List.mem_cons_self ..))) (hb.rd hS)) ?_;rintro _ _ rfl hS)|(refine Zad 211 rfl rfl rfl rfl rfl hS (q105 _ (hS.rd (List.mem_cons_of_mem _ (List.mem_cons_self ..))) (hb.rd hS)) ?_;rintro _ _ rfl hS)|refine Yaf ?_|refine Yag ?_|refine Yav ?_|refine Yan ?_|refine Ybc ?_|refine Yar (fun _ _ hS _ => ?_))|refine Ye3 ?_|refine Yab ?_)
    obtain ⟨_,hc,_,hw,hbk⟩ := hS.call [false,true]
    refine Zaa _ rfl rfl rfl rfl rfl (hN _ _ hc (hw _ hb) (by omega) (by omega) (hG.mono hw)) ?_
    rintro v w hV
    cases res with
    | none =>
     obtain ⟨rfl,j,e,hj,he,hS⟩ := hV
     replace hS := hbk hS
     clear hbk hw hc
     repeat (first|refine Yeg ?_|refine Yag ?_|refine Yae ?_|refine Yab ?_)
     refine Zan (.s 0 (.s 1 (.s 2 (.s 3 (.s 4 (.s 5 (.s 6 (.s 7 (.s 8 (.s 9 (.s 10 (.s 11 (.s 12 (.s 13 (.s 14 (.s 15 (.s 16 (.s 17 (.s 18 (.s 19 (.s 20 .nil))))))))))))))))))))) mixed (by kernel_rfl) rfl ?_
     have hS := hS.drew
     repeat (first|refine Yeg ?_|(refine X_id ?_;first|refine Yaf ?_|refine Yav ?_|refine Yan ?_|refine Ybi ?_|refine Ybn ?_|refine Yap ?_|refine Yao (fun _ hS _ => ?_))|refine Ye6 ?_|refine Yab ?_|refine Yat ?_|refine Ybv ?_|(refine Zae ?_;first|refine Yaw ?_|refine Ya0 ?_|refine Ybo ?_|refine Ybg ?_|refine Ycc ?_|refine Zak rfl rfl (fun _ => Zkk rfl rfl rfl (by omega)) rfl rfl ?_|refine Ybm ?_|refine Ycr ?_))
     exact ⟨_,_,_,_,_,_,_,_,rfl,j,e,hj,he,hS.took⟩
    | some u =>
     obtain ⟨n,t⟩ := u
     obtain ⟨rfl,j,hj,hdj,hS⟩ := hV
     replace hS := hbk hS
     clear hbk hw hc
     obtain ⟨m,rfl⟩ : ∃ m : Nat,n = m := ⟨n.toNat,by have := hnn n t rfl; omega⟩
     have htl : t.length = s.length - j := by rw [← hdj,List.length_drop]
     simp only [Option.bind_some,Int.toNat_natCast]
     by_cases hmt : m ≤ t.length
     ·rw [if_pos hmt]
      repeat (first|refine Yeg ?_|refine Yag ?_|refine Yae ?_|refine Yab ?_)
      refine Zan (.s 0 (.s 1 (.s 2 (.s 3 (.s 4 (.s 5 (.s 6 (.s 7 (.s 8 (.s 9 (.s 10 (.s 11 (.s 12 (.s 13 (.s 14 (.s 15 (.s 16 (.s 17 (.s 18 (.s 19 (.s 20 .nil))))))))))))))))))))) mixed (by kernel_rfl) rfl ?_
      have hS := hS.drew
      repeat (first|refine Yeg ?_|(refine X_id ?_;first|refine Yaf ?_|refine Yav ?_|refine Yan ?_|refine Ybh ?_|refine Yay ?_|refine Yap ?_|refine Yao (fun _ hS _ => ?_))|refine Yfd ?_|refine Yab ?_|(refine Zae ?_;first|refine Yaw ?_|refine Ya0 ?_|refine Ybo ?_|refine Ybg ?_|refine Yct ?_|refine Yd5 ?_|refine Ybm ?_|refine Yca ?_|refine Yc3 ?_|refine Ycx ?_|refine Ydo ?_|refine Zcg rfl rfl rfl rfl (fun _ => Zoz rfl rfl rfl (by omega)) rfl rfl ?_|refine Yee ?_|refine Yda ?_))
      have hS := hS.conv (rs' := [Rdr p a s.length c (j + m) 0,pts _ (.cells (List.toArray _) _ _)]) rfl
      refine Zan (.s 0 (.s 1 (.s 2 (.s 3 (.s 4 (.s 5 (.s 6 (.s 7 (.s 8 (.s 9 (.s 10 (.s 11 (.s 12 (.s 13 (.s 14 (.s 15 (.s 16 (.s 17 (.h 18 (.s 19 (.h 20 .nil .no)) .no))))))))))))))))))) mixed (by kernel_rfl) rfl ?_
      have hS := hS.drew
      repeat (first|(refine Zae ?_;first|refine Ya0 ?_|refine Ybo ?_|refine Ybg ?_|refine Ych ?_|refine Ybm ?_))
      have hsb : Ro W F (bytes (Cr.sub a j 1 c) (t.take m)) := by
       have := hb.subBytes (l := j) (h := j + m) (c := c) (by omega) (by omega)
       rwa [show j + m - j = m by omega,hdj] at this
      refine Zak rfl rfl (fun _ => Zas (l := j) (h := j + m) rfl rfl rfl rfl (.inr ⟨_,_,rfl,by omega,by omega,by omega⟩) (.inr ⟨_,_,rfl,by omega,by omega,by omega⟩)) rfl rfl ?_
      repeat (first|(refine Zae ?_;first|refine Yas ?_))
      refine Zaa _ rfl rfl rfl rfl rfl (Ze9 _ _ _ (t.take m) _ (hsb.rd hS) (by simp; omega) (by omega)) ?_
      rintro _ w ⟨a',c',rfl,_,hc',hS'⟩
      replace hS := hS.plus hS'
      clear hS'
      repeat (first|refine Yao (fun _ hS _ => ?_)|refine Yah ?_|refine Yab ?_|refine Yaq ?_|refine Ya8 ?_|refine Ybv ?_|(refine Zae ?_;first|refine Yaw ?_|refine Yce ?_|refine Yas ?_)|(refine Zac ?_;first|refine Yax ?_))
      have hS : St W F [own 5 1 a' c' (bv (t.take m)),Rdr p a s.length c (j + m) 0] _ := hS.took
      have hS := hS.toBag (a := a') (cs := bv (t.take m)) fun _ h => h.row
      have hmt' : (t.take m).length = j + m - j := by simp; omega
      rw [← hmt']
      exact ⟨_,_,rfl,.mk (k := 1) (n := 0) (b := t.take m) (l := []) (rows := []) (by rw [hmt']; omega) (.mem (List.mem_cons_self ..)) .nil rfl (fun _ _ _ h => by simp at h),j + m,by omega,by rw [← hdj,List.drop_drop],hS⟩
     ·rw [if_neg hmt]
      repeat (first|refine Yeg ?_|refine Yag ?_|refine Yae ?_|refine Yab ?_)
      refine Zan (.s 0 (.s 1 (.s 2 (.s 3 (.s 4 (.s 5 (.s 6 (.s 7 (.s 8 (.s 9 (.s 10 (.s 11 (.s 12 (.s 13 (.s 14 (.s 15 (.s 16 (.s 17 (.s 18 (.s 19 (.s 20 .nil))))))))))))))))))))) mixed (by kernel_rfl) rfl ?_
      have hS := hS.drew
      repeat (first|refine Yaa ?_|refine Yaf ?_|refine Yad ?_|refine Yak ?_|refine Yab ?_|(refine Zae ?_;first|refine Yaw ?_|refine Ya0 ?_|refine Ybo ?_|refine Ybg ?_|refine Yct ?_|refine Yd5 ?_|refine Ybm ?_|refine Yca ?_|refine Yc3 ?_|refine Ycx ?_|refine Ydo ?_|refine Zcg rfl rfl rfl rfl (fun _ => Zus rfl rfl rfl (by omega)) rfl rfl ?_|refine Yee ?_|refine Yda ?_))
      obtain ⟨_,hc,hr,hw,hbk⟩ := hS.call [true,false]
      refine Zaa _ rfl rfl rfl rfl rfl (Zsy p a s.length c j 4 _ _ hc) ?_
      rintro _ w ⟨rfl,hS⟩
      replace hS := hbk hS
      clear hc hr hw hbk
      repeat (first|refine Yeg ?_|(refine X_id ?_;first|refine Yaf ?_|refine Yav ?_|refine Yan ?_|refine Ybi ?_|refine Ybn ?_|refine Yap ?_|refine Yao (fun _ hS _ => ?_))|refine Ye6 ?_|refine Yab ?_|refine Yat ?_|refine Ybv ?_)
      exact ⟨_,_,_,_,_,_,_,_,rfl,j,4,hj,by decide,hS.took⟩
 ·simp only [decide_eq_false hlt] at hm
  rw [List.drop_of_length_le (by omega)]
  repeat (first|refine Yeg ?_|(refine X_id ?_;first|(refine Zad 209 rfl rfl rfl rfl rfl hS (hm _ (hS.rd (List.mem_cons_of_mem _ (List.mem_cons_self ..)))) ?_;rintro _ _ rfl hS)|refine Yaf ?_|refine Yag ?_|refine Yav ?_|refine Yan ?_|refine Ybq ?_|refine Yar (fun _ _ hS _ => ?_))|refine Yfl ?_|refine Yab ?_)
  obtain ⟨_,hc,hr,hw,hbk⟩ := hS.call [false,true]
  refine Zaa _ rfl rfl rfl rfl rfl (Zsy p a s.length c i 4 _ _ hc) ?_
  rintro _ w ⟨rfl,hS⟩
  replace hS := hbk hS
  clear hc hr hw hbk
  repeat (first|refine Yeg ?_|refine Ybn ?_|refine Yao (fun _ hS _ => ?_)|refine Yeu ?_|refine Yab ?_|refine Yat ?_|refine Ybv ?_)
  rw [Zxl]
  exact ⟨_,_,_,_,_,_,_,_,rfl,i,4,hi,by decide,hS.took⟩
theorem Z3h (p : Nat) (a : Option Addr) (s : List UInt8) (c : Nat) (hsc : s.length ≤ c) (hl : s.length ≤ 1073741824) (f : Nat) : Zo6 p a s c f := by
 induction f using Nat.strongRecOn with
 | _ f ih =>
  cases f with
  | zero => intro i deep W F hi hd hf; omega
  | succ f => exact Zwv p a s c hsc hl f (Z1e p a s c (by omega) f fun g hg => ih g (by omega))
def Qbu (W : World) (r : Option (Mv × List UInt8)) (v : Value) (w : World) : Prop :=
 match r with
 | some (t,l) => ∃ cs X b q,v = .tuple #[.agg (List.toArray cs),.slice b l.length q,.int .i64 0] ∧ Mrd (RX X) t cs ∧ St W noF [bag X] w
 | none => ∃ e,v = .tuple #[.agg (List.toArray [.int .i64 0,.int .i64 0,.slice none 0 0,.slice none 0 0]),.slice none 0 0,.int .i64 e] ∧ e ≠ 0 ∧ St W noF [] w
theorem Z78 (a : Option Addr) (s : List UInt8) (c : Nat) (hsc : s.length ≤ c) (hl : s.length ≤ 131072) (W : World) (hG : Lg W noF) (hb : Ro W noF (bytes a s)) :
  Calls Tryz.prog 108 #[.slice a s.length c] W (Ret fun v w => Qbu W (pvM (2 * s.length + 1) 1 s) v w) := by
 have hS := St.start W
 refine Zab Tryz.func108 rfl Tryz.ntmps108 rfl ?_
 repeat (first|refine Yeg ?_|(refine X_id ?_;first|refine Yaf ?_|refine Yag ?_|refine Yau ?_|refine Ybs ?_|refine Ybn ?_|refine Ya7 (fun _ _ hS _ => ?_)|refine Yar (fun _ _ hS _ => ?_))|refine Yes ?_|refine Yab ?_)
 rename_i r _ _
 have hv := Z3h r a s c hsc (by omega) (2 * s.length + 1) 0 1
 rw [List.drop_zero] at hv
 generalize pvM (2 * s.length + 1) 1 s = res at hv ⊢
 obtain ⟨_,hc,_,hw,hbk⟩ := hS.call [true,false]
 refine Zaa _ rfl rfl rfl rfl rfl (hv _ _ (Nat.zero_le _) (by omega) (by omega) (hG.mono hw) (hw _ hb) hc) ?_
 rintro v w hV
 cases res with
 | none =>
  obtain ⟨k,n,a1,n1,c1,a2,n2,c2,rfl,j,e,hj,he,hS⟩ := hV
  replace hS := hbk hS
  clear hbk hw hc
  repeat (first|refine Yeg ?_|(refine X_id ?_;first|refine Yaf ?_|refine Yav ?_|refine Yan ?_|refine Ybl ?_|refine Yap ?_|refine Yao (fun _ hS _ => ?_)|refine Yar (fun _ _ hS _ => ?_))|refine Yer ?_|refine Yab ?_)
  refine Zan (.s 0 (.s 1 (.s 2 (.s 3 (.s 4 (.h 5 (.s 6 (.s 7 .nil)) .no)))))) mixed (by kernel_rfl) rfl ?_
  have hS := hS.drew
  repeat (first|refine Yao (fun _ hS _ => ?_)|refine Yah ?_|refine Yab ?_|refine Yaq ?_|refine Yd7 ?_|(refine Zae ?_;first|refine Yaw ?_|refine Ya0 ?_|refine Ybj ?_|refine Ybo ?_|refine Ybg ?_|refine Yce ?_|refine Ybm ?_|refine Yas ?_)|(refine Zac ?_;first|refine Yax ?_))
  exact ⟨e,rfl,he,hS.took⟩
 | some u =>
  obtain ⟨t,l⟩ := u
  obtain ⟨cs,X,rfl,hM,j,hj,hdj,hS⟩ := hV
  replace hS := hbk hS
  clear hbk hw hc
  obtain ⟨a1,c1,a2,c2,rows2,rfl,_⟩ := hM.lit
  have hsb : Ro W noF (bytes (Cr.sub a j 1 c) l) := by
   have := hb.subBytes (l := j) (h := s.length) (c := c) (by omega) (by omega)
   rwa [hdj,List.take_of_length_le (by rw [← hdj]; simp)] at this
  have hll : l.length = s.length - j := by rw [← hdj,List.length_drop]
  repeat (first|refine Yeg ?_|(refine X_id ?_;first|refine Yaf ?_|refine Yav ?_|refine Yan ?_|refine Ybb ?_|refine Yap ?_|refine Yao (fun _ hS _ => ?_)|refine Yar (fun _ _ hS _ => ?_))|refine Yes ?_|refine Yab ?_)
  refine Zan (.s 0 (.s 1 (.s 2 (.s 3 (.s 4 (.s 5 (.s 6 (.s 7 (.h 8 (.h 9 (.s 10 (.s 11 .nil)) .no) .no))))))))) mixed (by kernel_rfl) rfl ?_
  have hS := hS.drew
  repeat (first|(refine Zae ?_;first|refine Ya0 ?_|refine Ybo ?_|refine Ybg ?_|refine Ybm ?_|refine Ybx ?_))
  refine Zak rfl rfl (fun _ => Zas (l := j) (h := s.length) rfl rfl rfl rfl (.inl ⟨rfl,rfl⟩) (.inr ⟨_,_,rfl,by omega,by omega,by omega⟩)) rfl rfl ?_
  repeat (first|(refine Zae ?_;first|refine Yas ?_))
  refine Zaa _ rfl rfl rfl rfl rfl (Ze9 _ _ _ l _ (hsb.rd hS) hll (by omega)) ?_
  rintro _ w ⟨a',c',rfl,_,_,hS'⟩
  replace hS := hS.plus hS'
  clear hS'
  rw [← hll]
  repeat (first|refine Yao (fun _ hS _ => ?_)|refine Yah ?_|refine Yab ?_|refine Yd7 ?_|(refine Zae ?_;first|refine Yaw ?_|refine Ybj ?_|refine Yas ?_)|(refine Zac ?_;first|refine Yax ?_))
  exact ⟨_,X,a',c',rfl,hM,hS.took⟩
def Qby (W : World) (r : Option Mv) (v : Value) (w : World) : Prop :=
 match r with
 | some t => ∃ cs X,v = .tuple #[.agg (List.toArray cs),.int .i64 0] ∧ Mrd (RX X) t cs ∧ St W noF [bag X] w
 | none => ∃ e,v = .tuple #[.agg (List.toArray [.int .i64 0,.int .i64 0,.slice none 0 0,.slice none 0 0]),.int .i64 e] ∧ e ≠ 0 ∧ St W noF [] w
theorem Zuh (a : Option Addr) (s : List UInt8) (c : Nat) (hsc : s.length ≤ c) (hl : s.length ≤ 131072) (W : World) (hG : Lg W noF) (hb : Ro W noF (bytes a s)) :
  Calls Tryz.prog 57 #[.slice a s.length c] W (Ret fun v w => Qby W (decM s) v w) := by
 have hS := St.start W
 have hN := Z78 a s c hsc hl
 unfold decM
 generalize pvM (2 * s.length + 1) 1 s = res at hN ⊢
 refine Zab Tryz.func57 rfl Tryz.ntmps57 rfl ?_
 repeat (first|refine Yeg ?_|refine Yev ?_|refine Yar (fun _ _ hS _ => ?_)|refine Yeh ?_|refine Yab ?_)
 obtain ⟨_,hc,_,hw,hbk⟩ := hS.call [false]
 refine Zaa _ rfl rfl rfl rfl rfl (hN _ ((hG.mono hw).at_ hc) ((hw _ hb).rd hc).ro) ?_
 rintro v w hV
 cases res with
 | none =>
  obtain ⟨e,rfl,he,hS'⟩ := hV
  replace hS := hS.plus hS'
  clear hbk hw hc
  repeat (first|refine Yeg ?_|refine Yfp ?_|refine Yao (fun _ hS _ => ?_)|refine Yar (fun _ _ hS _ => ?_)|refine Ye4 ?_|refine Yab ?_|refine Yaq ?_|refine Ya8 ?_|refine Yby ?_)
  exact ⟨e,rfl,he,hS.took⟩
 | some u =>
  obtain ⟨t,l⟩ := u
  obtain ⟨cs,X,b,q,rfl,hM,hS'⟩ := hV
  replace hS := hS.plus hS'
  clear hbk hw hc
  obtain ⟨a1,c1,a2,c2,rows2,rfl,_⟩ := hM.lit
  cases l with
  | nil =>
   simp only [List.length_nil]
   repeat (first|refine Yeg ?_|(refine X_id ?_;first|refine Yaf ?_|refine Yag ?_|refine Ya3 ?_|refine Yau ?_|refine Ybb ?_|refine Ybs ?_|refine Ybf ?_|refine Yao (fun _ hS _ => ?_)|refine Yar (fun _ _ hS _ => ?_))|refine Ye7 ?_|refine Yab ?_|refine Yat ?_|refine Yby ?_)
   exact ⟨_,X,rfl,hM,hS.took⟩
  | cons x l =>
   simp only [List.length_cons]
   repeat (first|refine Yeg ?_|(refine X_id ?_;first|refine Yaf ?_|refine Yag ?_|refine Ya3 ?_|refine Yau ?_|refine Ybb ?_|refine Ybz ?_|refine Ybn ?_|refine Yao (fun _ hS _ => ?_)|refine Yar (fun _ _ hS _ => ?_))|refine Ye1 ?_|refine Yab ?_|refine Yaq ?_|refine Ya8 ?_|refine Yby ?_)
   exact ⟨3,rfl,by decide,hS.took⟩
theorem Zw3 (s : List UInt8) (W : World) : Calls Tryz.prog 46 #[.string (str s)] W (Ret fun v w => ∃ b c X,v = .agg (List.toArray [.int .i64 1,.int .i64 0,.slice b s.length c,.slice none 0 0]) ∧ Mrd (RX X) (txM s) [.int .i64 1,.int .i64 0,.slice b s.length c,.slice none 0 0] ∧ St W noF [bag X] w) := by
 have hS := St.start W
 refine Zab Tryz.func46 rfl Tryz.ntmps46 rfl ?_
 repeat (first|refine Yeg ?_|(refine X_id ?_;first|refine Yaf ?_|refine Ybn ?_|refine Yao (fun _ hS _ => ?_)|refine Yar (fun _ _ hS _ => ?_)|refine Zjf rfl rfl rfl rfl hS (fun _ _ _ hS _ => ?_))|refine Yeu ?_|refine Yab ?_|refine Ybv ?_)
 have hS := hS.pick [0]
 exact ⟨_,_,_,rfl,.mk (rows := []) (by assumption) (.mem (List.mem_cons_self ..)) .nil rfl (fun _ _ _ h => by simp at h),hS.toBag fun _ h => h⟩
theorem Qbe (n : Int) (W : World) : Calls Tryz.prog 45 #[.int .i64 n] W (Ret fun v w => v = .agg (List.toArray [.int .i64 0,.int .i64 n,.slice none 0 0,.slice none 0 0]) ∧ St W noF [] w) := by
 have hS := St.start W
 refine Zab Tryz.func45 rfl Tryz.ntmps45 rfl ?_
 repeat (first|refine Yeg ?_|refine Yaf ?_|refine Ybn ?_|refine Yao (fun _ hS _ => ?_)|refine Yar (fun _ _ hS _ => ?_)|refine Yeu ?_|refine Yab ?_|refine Ybv ?_)
 exact ⟨rfl,hS.took⟩
theorem Z74 {R : Option Addr → List Value → Prop} (h0 : ∀ a,R a []) (n : Int) : Mrd R (nuM n) [.int .i64 0,.int .i64 n,.slice none 0 0,.slice none 0 0] :=
 .mk (b := []) (l := []) (rows := []) (Nat.zero_le _) (h0 _) (h0 _) rfl (fun _ _ _ h => by simp at h)
theorem Z12 : ∀ (d : Nat) (v : Mv) (cs : List Value) (W : World) (F : Nat → Prop),Mrd (RoR W F) v cs → wM v ≤ 1048576 → d ≤ 8 →
  Calls Tryz.prog 92 #[.agg (List.toArray cs),.int .i64 (d : Nat)] W (Ret fun u w => ∃ cs' X,u = .agg (List.toArray cs') ∧ Mrd (RX X) (Zd5 d v) cs' ∧ St W noF [bag X] w) := by
 intro d
 induction d with
 | zero =>
  intro v cs W F hv hw hd
  have hS := St.start W
  obtain ⟨k,n,b,l⟩ := v
  rw [Zl8] at hw
  obtain ⟨a1,c1,a2,c2,rows,rfl,hc1,hb,hr,hM⟩ := hv.lit
  simp only [Mv.kind,Mv.num,Mv.txt,Mv.lst] at *
  replace hb : Ro W noF (bytes a1 b) := hb.start.ro
  refine Zab Tryz.func92 rfl Tryz.ntmps92 rfl ?_
  repeat (first|refine Yeg ?_|refine Yan ?_|refine Yap ?_|refine Ya7 (fun _ _ hS _ => ?_)|refine Yar (fun _ _ hS _ => ?_)|refine Yeh ?_|refine Yab ?_)
  refine Zaa _ rfl rfl rfl rfl rfl (Ze9 _ _ _ b _ (hb.rd hS) rfl (by omega)) ?_
  rintro _ w ⟨a',c',rfl,_,hca,hS'⟩
  replace hS := hS.plus hS'
  clear hS'
  repeat (first|refine Yeg ?_|(refine X_id ?_;first|refine Yaf ?_|refine Yag ?_|refine Yan ?_|refine Ybs ?_|refine Yap ?_|refine Ybf ?_|refine Yao (fun _ hS _ => ?_))|refine Ye6 ?_|refine Yab ?_|refine Ybv ?_)
  have hS : St W noF [own 5 1 a' c' (bv b)] _ := hS.took
  exact ⟨_,_,rfl,.mk' (rows := []) rfl rfl hca (.mem (List.mem_cons_self ..)) .nil rfl (fun _ _ _ h => by simp at h),hS.toBag fun _ h => h.row⟩
 | succ d ih =>
  intro v cs W F hv hw hd
  have hS := St.start W
  obtain ⟨k,n,b,l⟩ := v
  rw [Zl8] at hw
  obtain ⟨a1,c1,a2,c2,rows,rfl,hc1,hb,hr,hM⟩ := hv.lit
  simp only [Mv.kind,Mv.num,Mv.txt,Mv.lst] at *
  have hwl := Zkt l
  replace hb : Ro W noF (bytes a1 b) := hb.start.ro
  replace hr : Ro W noF (row a2 rows.flatten) := hr.start.ro
  replace hM : Mrds (RoR W noF) l rows := hM.mono fun _ _ h => h.start.ro
  refine Zab Tryz.func92 rfl Tryz.ntmps92 rfl ?_
  repeat (first|refine Yeg ?_|refine Yan ?_|refine Yap ?_|refine Ya7 (fun _ _ hS _ => ?_)|refine Yar (fun _ _ hS _ => ?_)|refine Yeh ?_|refine Yab ?_)
  rename_i b2 _ _ _ b4 _ _
  refine Zaa _ rfl rfl rfl rfl rfl (Ze9 _ _ _ b _ (hb.rd hS) rfl (by omega)) ?_
  rintro _ w ⟨a',c',rfl,_,hca,hS'⟩
  replace hS := hS.plus hS'
  clear hS'
  repeat (first|refine Yeg ?_|(refine X_id ?_;first|refine Yaf ?_|refine Yag ?_|refine Yan ?_|refine Yau ?_|refine Ybz ?_|refine Yap ?_|refine Yao (fun _ hS _ => ?_))|refine Yfl ?_|refine Yab ?_)
  have hS : St W noF [own 5 1 a' c' (bv b),pts b4 (.cells (List.toArray [.int .i64 0,.int .i64 0,.slice none 0 0,.slice none 0 0]) 38 (0,0)),pts b2 (.cells (List.toArray [.int .i64 k,.int .i64 n,.slice a' b.length c',.slice none 0 0]) 38 (0,0))] _ := hS.took
  refine Zaj (α := Nat × Option Addr × Nat) (fun z => [(1,.int .i64 ((d + 1 : Nat) : Int)),(2,.pointer (some ⟨b2,0,none⟩)),(4,.pointer (some ⟨b4,0,none⟩)),(17,.slice a2 l.length c2),(18,.int .i64 (l.length : Nat)),(19,.int .i64 (z.1 : Nat))])
   (fun z w => z.1 ≤ l.length ∧ z.1 ≤ z.2.2 ∧ ∃ rows' X,Mrds (RX X) ((l.take z.1).map (Zd5 d)) rows' ∧ St W noF [own 38 4 z.2.1 z.2.2 rows'.flatten,bag X,own 5 1 a' c' (bv b),pts b4 (.cells (List.toArray [.int .i64 0,.int .i64 0,.slice none 0 0,.slice none 0 0]) 38 (0,0)),pts b2 (.cells (List.toArray [.int .i64 k,.int .i64 n,.slice a' b.length c',.slice z.2.1 z.1 z.2.2]) 38 (0,0))] w)
   (fun z => l.length - z.1) (0,none,0) ⟨rfl,rfl,rfl,rfl,rfl,rfl,trivial⟩ ⟨Nat.zero_le _,Nat.le_refl _,[],[],.nil,(hS.bagNil).own_none _ _ _⟩ ?_
  clear hS
  rintro ⟨i,q,qc⟩ w ⟨hi,hiq,rows',X,hMs,hS2⟩
  simp only at hi hiq hMs hS2
  have hrl : rows'.flatten.length = i * 4 := by rw [hMs.flat,List.length_map,List.length_take,Nat.min_eq_left hi]
  by_cases hlt : i < l.length
  ·obtain ⟨y,hyx⟩ : ∃ y,y = l[i] := ⟨_,rfl⟩
   have hy0 : l[i]? = some y := by rw [hyx]; exact List.getElem?_eq_getElem hlt
   have hyw := Zks (List.mem_of_getElem? hy0)
   obtain ⟨cs,hxs,hy⟩ := hM.at_ hy0
   obtain ⟨d1,e1,d2,e2,rows2,rfl,_⟩ := hy.lit
   obtain ⟨ab,ao,rfl⟩ := hr.start.base (by
    intro e
    rw [e] at hxs
    simp at hxs)
   have hS := hS2
   repeat (first|refine Yeg ?_|(refine X_id ?_;first|refine Ya1 ?_|refine Yba ?_|refine Ybr ?_|refine Yao (fun _ hS _ => ?_)|refine Yar (fun _ _ hS _ => ?_))|refine Yek ?_|refine Yab ?_)
   refine Zan (.s 0 (.s 1 (.s 2 (.s 3 (.s 4 (.h 5 (.h 6 (.h 7 (.s 8 (.h 9 .nil .no)) .no) .no) .no)))))) mixed (by kernel_rfl) rfl ?_
   have hS := hS.drew
   repeat (first|(refine Zae ?_;first|refine Ya0 ?_|refine Ybg ?_|refine Ych ?_|refine Ybm ?_|refine Ybx ?_|refine Yas ?_))
   rw [show (((d + 1 : Nat) : Int) - 1) = ((d : Nat) : Int) by omega]
   refine Zaa _ rfl rfl rfl rfl rfl (ih y _ _ noF (hy.mono fun _ _ h => (h.rd hS).ro) (by omega) (by omega)) ?_
   rintro _ w ⟨cs',Y,rfl,hY,hS'⟩
   replace hS := hS.plus hS'
   clear hS'
   obtain ⟨g1,h1,g2,h2,rows3,rfl,_⟩ := hY.lit
   repeat (first|refine Ybd (fun _ _ hS _ => ?_)|(refine Zae ?_;first|refine Yas ?_)|(refine Zac ?_;first|refine Yax ?_))
   have hnw := (hS.rd (List.mem_cons_self ..)).own_row
   refine Zap rfl rfl rfl rfl rfl hS hrl hiq hnw rfl (by simp [Value.oneCell']) (by omega) (by simp only [maxLen]; omega) (fun b' q' w hS hq' _ => ?_)
   repeat (first|refine Yeg ?_|refine Yel ?_|refine Yao (fun _ hS _ => ?_)|refine Yad ?_|refine Yeo ?_|(refine Zae ?_;first|refine Yaw ?_|refine Ybg ?_|refine Yas ?_)|(refine Zac ?_;first|refine Yax ?_))
   refine Zaf (z := (i,q,qc)) (i + 1,b',q') ⟨rfl,rfl,rfl,rfl,rfl,rfl,trivial⟩ ⟨hlt,hq',rows' ++ [[.int .i64 (Zd5 d y).kind,.int .i64 (Zd5 d y).num,.slice g1 (Zd5 d y).txt.length h1,.slice g2 (Zd5 d y).lst.length h2]],X ++ Y,?_,?_⟩ (by dsimp only; omega)
   ·rw [List.take_succ_eq_append_getElem hlt,← hyx,List.map_append]
    exact (hMs.mono fun _ _ h => h.left).snoc (hY.mono fun _ _ h => h.right)
   ·have hS : St W noF [bag X,bag Y,own 38 4 b' q' (rows'.flatten ++ [.int .i64 (Zd5 d y).kind,.int .i64 (Zd5 d y).num,.slice g1 (Zd5 d y).txt.length h1,.slice g2 (Zd5 d y).lst.length h2]),own 5 1 a' c' (bv b),pts b4 (.cells (List.toArray [.int .i64 0,.int .i64 0,.slice none 0 0,.slice none 0 0]) 38 (0,0)),pts b2 (.cells (List.toArray [.int .i64 k,.int .i64 n,.slice a' b.length c',.slice b' (i + 1) q']) 38 (0,0))] _ := hS.took
    have hS := hS.bagJoin
    rw [List.flatten_append]
    simpa using hS.took
  ·obtain rfl : i = l.length := by omega
   have hS := hS2
   repeat (first|refine Yeg ?_|refine Yaz ?_|refine Ybf ?_|refine Yao (fun _ hS _ => ?_)|refine Yep ?_|refine Yeq ?_)
   rw [List.take_length] at hMs
   have hS : St W noF [own 38 4 q qc rows'.flatten,own 5 1 a' c' (bv b),bag X] _ := hS.took
   have hS := (hS.second (r' := own 5 1 a' c' (bv b)) fun _ h => h)
   have hS : St W noF [own 5 1 a' c' (bv b),bag X,own 38 4 q qc rows'.flatten] _ := hS.took
   have hS := hS.bagAdd (a := a') (cs := bv b) fun _ h => h.row
   have hS : St W noF [own 38 4 q qc rows'.flatten,bag ((a',bv b) :: X)] _ := hS.took
   have hS := hS.bagAdd (a := q) (cs := rows'.flatten) fun _ h => h.row
   exact ⟨_,_,rfl,.mk' rfl (by rw [List.length_map]) hca (.mem (List.mem_cons_of_mem _ (List.mem_cons_self ..))) (.mem (List.mem_cons_self ..)) hMs.1 (fun i y cs h1 h2 => (hMs.2 i y cs h1 h2).mono fun _ _ h => h.tail.tail),hS⟩
theorem of_M (a : Option Addr) (l : List Mv) (c : Nat) (rows : List (List Value)) (W : World) (hr : Ro W noF (row a rows.flatten)) (hM : Mrds (RoR W noF) l rows) (hw : wMs l ≤ 1048576) :
  Calls Tryz.prog 44 #[.slice a l.length c] W (Ret fun v w => ∃ b q rows' X,v = .agg (List.toArray [.int .i64 2,.int .i64 0,.slice none 0 0,.slice b l.length q]) ∧ l.length ≤ q ∧ Mrds (RX X) (l.map (Zd5 8)) rows' ∧ St W noF [own 38 4 b q rows'.flatten,bag X] w) := by
 have hS := St.start W
 have hwl := Zkt l
 refine Zab Tryz.func44 rfl Tryz.ntmps44 rfl ?_
 repeat (first|refine Yeg ?_|(refine X_id ?_;first|refine Yaf ?_|refine Yau ?_|refine Ybn ?_|refine Yao (fun _ hS _ => ?_)|refine Yar (fun _ _ hS _ => ?_))|refine Yej ?_|refine Yab ?_)
 rename_i b2 _ _ _ b3 _ _ _ _ _
 refine Zaj (α := Nat × Option Addr × Nat) (fun z => [(2,.pointer (some ⟨b2,0,none⟩)),(3,.pointer (some ⟨b3,0,none⟩)),(7,.slice a l.length c),(8,.int .i64 (l.length : Nat)),(9,.int .i64 (z.1 : Nat))])
  (fun z w => z.1 ≤ l.length ∧ z.1 ≤ z.2.2 ∧ ∃ rows' X,Mrds (RX X) ((l.take z.1).map (Zd5 8)) rows' ∧ St W noF [own 38 4 z.2.1 z.2.2 rows'.flatten,bag X,pts b3 (.cells (List.toArray [.int .i64 2,.int .i64 0,.slice none 0 0,.slice z.2.1 z.1 z.2.2]) 38 (0,0)),pts b2 (.cells (List.toArray [.int .i64 0,.int .i64 0,.slice none 0 0,.slice none 0 0]) 38 (0,0))] w)
  (fun z => l.length - z.1) (0,none,0) ⟨rfl,rfl,rfl,rfl,rfl,trivial⟩ ⟨Nat.zero_le _,Nat.le_refl _,[],[],.nil,(hS.bagNil).own_none _ _ _⟩ ?_
 clear hS
 rintro ⟨i,b,q⟩ w ⟨hi,hiq,rows',X,hMs,hS2⟩
 simp only at hi hiq hMs hS2
 have hrl : rows'.flatten.length = i * 4 := by rw [hMs.flat,List.length_map,List.length_take,Nat.min_eq_left hi]
 by_cases hlt : i < l.length
 ·obtain ⟨y,hyx⟩ : ∃ y,y = l[i] := ⟨_,rfl⟩
  have hy0 : l[i]? = some y := by rw [hyx]; exact List.getElem?_eq_getElem hlt
  have hyw := Zks (List.mem_of_getElem? hy0)
  obtain ⟨cs,hxs,hy⟩ := hM.at_ hy0
  obtain ⟨d1,e1,d2,e2,rows2,rfl,_⟩ := hy.lit
  obtain ⟨ab,ao,rfl⟩ := hr.start.base (by
   intro e
   rw [e] at hxs
   simp at hxs)
  have hS := hS2
  repeat (first|refine Yeg ?_|(refine X_id ?_;first|refine Ya1 ?_|refine Yba ?_|refine Ybr ?_|refine Yao (fun _ hS _ => ?_)|refine Yar (fun _ _ hS _ => ?_))|refine Yek ?_|refine Yab ?_)
  refine Zan (.s 0 (.s 1 (.s 2 (.h 3 (.h 4 (.h 5 (.s 6 (.h 7 .nil .no)) .no) .no) .no)))) mixed (by kernel_rfl) rfl ?_
  have hS := hS.drew
  repeat (first|(refine Zae ?_;first|refine Ybg ?_|refine Ybm ?_|refine Ybx ?_|refine Yas ?_))
  refine Zaa _ rfl rfl rfl rfl rfl (Z12 8 y _ _ noF (hy.mono fun _ _ h => (h.rd hS).ro) (by omega) (by omega)) ?_
  rintro _ w ⟨cs',Y,rfl,hY,hS'⟩
  replace hS := hS.plus hS'
  clear hS'
  obtain ⟨g1,h1,g2,h2,rows3,rfl,_⟩ := hY.lit
  repeat (first|refine Ybd (fun _ _ hS _ => ?_)|(refine Zae ?_;first|refine Yas ?_)|(refine Zac ?_;first|refine Yax ?_))
  have hnw := (hS.rd (List.mem_cons_self ..)).own_row
  refine Zap rfl rfl rfl rfl rfl hS hrl hiq hnw rfl (by simp [Value.oneCell']) (by omega) (by simp only [maxLen]; omega) (fun b' q' w hS hq' _ => ?_)
  repeat (first|refine Yeg ?_|refine Yel ?_|refine Yao (fun _ hS _ => ?_)|refine Yad ?_|refine Yeo ?_|(refine Zae ?_;first|refine Yaw ?_|refine Ybg ?_|refine Yas ?_)|(refine Zac ?_;first|refine Yax ?_))
  refine Zaf (z := (i,b,q)) (i + 1,b',q') ⟨rfl,rfl,rfl,rfl,rfl,trivial⟩ ⟨hlt,hq',rows' ++ [[.int .i64 (Zd5 8 y).kind,.int .i64 (Zd5 8 y).num,.slice g1 (Zd5 8 y).txt.length h1,.slice g2 (Zd5 8 y).lst.length h2]],X ++ Y,?_,?_⟩ (by dsimp only; omega)
  ·rw [List.take_succ_eq_append_getElem hlt,← hyx,List.map_append]
   exact (hMs.mono fun _ _ h => h.left).snoc (hY.mono fun _ _ h => h.right)
  ·have hS : St W noF [bag X,bag Y,own 38 4 b' q' (rows'.flatten ++ [.int .i64 (Zd5 8 y).kind,.int .i64 (Zd5 8 y).num,.slice g1 (Zd5 8 y).txt.length h1,.slice g2 (Zd5 8 y).lst.length h2]),
    pts b3 (.cells (List.toArray [.int .i64 2,.int .i64 0,.slice none 0 0,.slice b' (i + 1) q']) 38 (0,0)),pts b2 (.cells (List.toArray [.int .i64 0,.int .i64 0,.slice none 0 0,.slice none 0 0]) 38 (0,0))] _ := hS.took
   have hS := hS.bagJoin
   rw [List.flatten_append]
   simpa using hS.took
 ·obtain rfl : i = l.length := by omega
  have hS := hS2
  repeat (first|refine Yeg ?_|refine Yaz ?_|refine Ybf ?_|refine Yao (fun _ hS _ => ?_)|refine Yep ?_|refine Yeq ?_)
  rw [List.take_length] at hMs
  exact ⟨b,q,rows',X,rfl,hiq,hMs,hS.took⟩
theorem Z2t (k n : Int) (b : List UInt8) (l : List Mv) (a1 a2 : Option Addr) (c1 c2 : Nat) (W : World) :
  Calls Tryz.prog 152 #[.agg (List.toArray [.int .i64 k,.int .i64 n,.slice a1 b.length c1,.slice a2 l.length c2])] W (Ret fun v w => v = .bool (kdM k n b l) ∧ St W noF [] w) := by
 have hS := St.start W
 by_cases h0 : k = 0
 ·subst h0
  cases b with
  | cons x b =>
   simp only [List.length_cons]
   refine Zab Tryz.func152 rfl Tryz.ntmps152 rfl ?_
   repeat (first|refine Ye0 ?_|(refine X_id ?_;first|refine Yaf ?_|refine Yag ?_|refine Yan ?_|refine Ya9 ?_|refine Yau ?_|refine Ybh ?_|refine Ybi ?_|refine Yap ?_|refine Ya7 (fun _ _ hS _ => ?_))|refine Ye4 ?_|refine Ye2 ?_)
   refine ⟨?_,hS.drops⟩
   simp [kdM, *]
  | nil =>
   cases l with
   | cons x l =>
    simp only [List.length_cons]
    refine Zab Tryz.func152 rfl Tryz.ntmps152 rfl ?_
    repeat (first|refine Yex ?_|(refine X_id ?_;first|refine Yaf ?_|refine Yag ?_|refine Yan ?_|refine Ybe ?_|refine Yau ?_|refine Ybh ?_|refine Ybi ?_|refine Yc0 ?_|refine Yap ?_|refine Ya7 (fun _ _ hS _ => ?_))|refine Ye4 ?_|refine Ye2 ?_)
    refine ⟨?_,hS.drops⟩
    simp [kdM, *]
   | nil =>
    refine Zab Tryz.func152 rfl Tryz.ntmps152 rfl ?_
    repeat (first|refine Yex ?_|(refine X_id ?_;first|refine Yaf ?_|refine Yag ?_|refine Yan ?_|refine Ybe ?_|refine Yau ?_|refine Ybh ?_|refine Yc0 ?_|refine Yap ?_|refine Ya7 (fun _ _ hS _ => ?_))|refine Ye4 ?_|refine Ye2 ?_)
    refine ⟨?_,hS.drops⟩
    simp [kdM, *]
 ·by_cases h1 : k = 1
  ·subst h1
   by_cases hn : n = 0
   ·subst hn
    cases l with
    | cons x l =>
     simp only [List.length_cons]
     refine Zab Tryz.func152 rfl Tryz.ntmps152 rfl ?_
     repeat (first|refine Yex ?_|(refine X_id ?_;first|refine Yaf ?_|refine Yag ?_|refine Yan ?_|refine Ybe ?_|refine Yau ?_|refine Ybh ?_|refine Ybi ?_|refine Yap ?_|refine Ya7 (fun _ _ hS _ => ?_))|refine Ye1 ?_|refine Ye2 ?_)
     refine ⟨?_,hS.drops⟩
     simp [kdM, *]
    | nil =>
     refine Zab Tryz.func152 rfl Tryz.ntmps152 rfl ?_
     repeat (first|refine Yex ?_|(refine X_id ?_;first|refine Yaf ?_|refine Yag ?_|refine Yan ?_|refine Ybe ?_|refine Yau ?_|refine Ybh ?_|refine Ybi ?_|refine Yc0 ?_|refine Yap ?_|refine Ya7 (fun _ _ hS _ => ?_))|refine Ye1 ?_|refine Ye2 ?_)
     refine ⟨?_,hS.drops⟩
     simp [kdM, *]
   ·skip
    refine Zab Tryz.func152 rfl Tryz.ntmps152 rfl ?_
    repeat (first|refine Ye0 ?_|(refine X_id ?_;first|refine Yaf ?_|refine Yag ?_|refine Yan ?_|refine Ya9 ?_|refine Ybh ?_|refine Ybi ?_|refine Yap ?_|refine Ya7 (fun _ _ hS _ => ?_))|refine Ye1 ?_|refine Ye2 ?_)
    refine ⟨?_,hS.drops⟩
    simp [kdM, *]
  ·by_cases h2 : k = 2
   ·subst h2
    by_cases hn : n = 0
    ·subst hn
     cases b with
     | cons x b =>
      simp only [List.length_cons]
      refine Zab Tryz.func152 rfl Tryz.ntmps152 rfl ?_
      repeat (first|refine Yex ?_|(refine X_id ?_;first|refine Yaf ?_|refine Yag ?_|refine Yan ?_|refine Ybe ?_|refine Yau ?_|refine Ybh ?_|refine Ybi ?_|refine Yap ?_|refine Ya7 (fun _ _ hS _ => ?_))|refine Ye1 ?_|refine Ye2 ?_)
      refine ⟨?_,hS.drops⟩
      simp [kdM, *]
     | nil =>
      refine Zab Tryz.func152 rfl Tryz.ntmps152 rfl ?_
      repeat (first|refine Yex ?_|(refine X_id ?_;first|refine Yaf ?_|refine Yag ?_|refine Yan ?_|refine Ybe ?_|refine Yau ?_|refine Ybh ?_|refine Ybi ?_|refine Yc0 ?_|refine Yap ?_|refine Ya7 (fun _ _ hS _ => ?_))|refine Ye1 ?_|refine Ye2 ?_)
      refine ⟨?_,hS.drops⟩
      simp [kdM, *]
    ·skip
     refine Zab Tryz.func152 rfl Tryz.ntmps152 rfl ?_
     repeat (first|refine Ye0 ?_|(refine X_id ?_;first|refine Yaf ?_|refine Yag ?_|refine Yan ?_|refine Ya9 ?_|refine Ybh ?_|refine Ybi ?_|refine Yap ?_|refine Ya7 (fun _ _ hS _ => ?_))|refine Ye1 ?_|refine Ye2 ?_)
     refine ⟨?_,hS.drops⟩
     simp [kdM, *]
   ·skip
    refine Zab Tryz.func152 rfl Tryz.ntmps152 rfl ?_
    repeat (first|refine Yeg ?_|(refine X_id ?_;first|refine Yag ?_|refine Yan ?_|refine Ybi ?_|refine Yap ?_|refine Ya7 (fun _ _ hS _ => ?_))|refine Ye7 ?_|refine Yab ?_|refine Yat ?_|refine Yam ?_)
    refine ⟨?_,hS.drops⟩
    simp [kdM, *]
theorem Zhn {f : Mv → Int} : ∀ {l : List Mv} {i : Nat},(∀ j,j < i → ∀ y,l[j]? = some y → f y = 0) → Zil (l.map f) = Zil ((l.drop i).map f)
 | [],i,_ => by simp
 | x :: l,0,_ => rfl
 | x :: l,i + 1,h => by
  have h0 := h 0 (by omega) x rfl
  rw [List.map_cons,Zil,if_pos h0,List.drop_succ_cons]
  exact Zhn fun j hj y hy => h (j + 1) (by omega) y (by simpa using hy)
theorem Z5c : ∀ (m : Nat) (v : Mv) (cs : List Value) (deep : Nat) (W : World) (F : Nat → Prop),deep + m = 9 → Mrd (RoR W F) v cs → wM v ≤ 1048576 →
  Calls Tryz.prog 93 #[.agg (List.toArray cs),.int .i64 (deep : Nat)] W (Ret fun u w => u = .int .i64 (chkM m v) ∧ St W noF [] w) := by
 intro m
 induction m with
 | zero =>
  intro v cs deep W F hd hv hw
  have hS := St.start W
  obtain ⟨k,n,b,l⟩ := v
  obtain ⟨a1,c1,a2,c2,rows,rfl,hc1,hb,hr,hM⟩ := hv.lit
  simp only [Mv.kind,Mv.num,Mv.txt,Mv.lst] at *
  have hk := fun W => Z2t k n b l a1 a2 c1 c2 W
  rw [chkM]
  obtain rfl : deep = 9 := by omega
  by_cases hkd : kdM k n b l = true
  ·rw [if_pos hkd]
   simp only [hkd] at hk
   by_cases h2 : k = 2
   ·subst h2
    rw [if_pos rfl]
    refine Zab Tryz.func93 rfl Tryz.ntmps93 rfl ?_
    repeat (first|refine Yex ?_|(refine X_id ?_;first|(refine Zad 152 rfl rfl rfl rfl rfl hS (hk _) ?_;rintro _ _ rfl hS)|refine Yaf ?_|refine Yag ?_|refine Yan ?_|refine Ybe ?_|refine Ybc ?_|refine Ybh ?_|refine Ybz ?_|refine Yap ?_|refine Ybf ?_|refine Ya7 (fun _ _ hS _ => ?_))|refine Ye1 ?_|refine Ye2 ?_)
    exact ⟨rfl,hS.drops⟩
   ·rw [if_neg h2]
    have hl0 : l = [] := by
     rcases Zqa hkd with ⟨_,_,h⟩ | ⟨_,_,h⟩ | ⟨h,_,_⟩
     ·exact h
     ·exact h
     ·exact absurd h h2
    subst hl0
    refine Zab Tryz.func93 rfl Tryz.ntmps93 rfl ?_
    repeat (first|refine Ye0 ?_|(refine X_id ?_;first|(refine Zad 152 rfl rfl rfl rfl rfl hS (hk _) ?_;rintro _ _ rfl hS)|refine Yaf ?_|refine Yag ?_|refine Yan ?_|refine Ya9 ?_|refine Ybc ?_|refine Yau ?_|refine Ybi ?_|refine Yap ?_|refine Ybf ?_|refine Ya7 (fun _ _ hS _ => ?_))|refine Ye9 ?_|refine Yeo ?_)
    refine Zaj (α := Unit) (fun _ => [(22,.int .i64 0),(23,.int .i64 0)]) (fun _ w => St W noF [] w) (fun _ => 0) () ⟨rfl,rfl,trivial⟩ hS.drops ?_
    clear hS
    rintro _ w hS
    repeat (first|refine Yeg ?_|refine Yag ?_|refine Yaz ?_|refine Yep ?_|refine Yfc ?_)
    exact ⟨rfl,hS⟩
  ·rw [if_neg hkd]
   simp only [eq_false_of_ne_true hkd] at hk
   refine Zab Tryz.func93 rfl Tryz.ntmps93 rfl ?_
   repeat (first|refine Yeg ?_|(refine X_id ?_;first|(refine Zad 152 rfl rfl rfl rfl rfl hS (hk _) ?_;rintro _ _ rfl hS)|refine Yag ?_|refine Ybq ?_|refine Ybf ?_|refine Ya7 (fun _ _ hS _ => ?_))|refine Ye4 ?_|refine Ye2 ?_)
   exact ⟨rfl,hS.drops⟩
 | succ m ih =>
  intro v cs deep W F hd hv hw
  have hS := St.start W
  obtain ⟨k,n,b,l⟩ := v
  obtain ⟨a1,c1,a2,c2,rows,rfl,hc1,hb,hr,hM⟩ := hv.lit
  simp only [Mv.kind,Mv.num,Mv.txt,Mv.lst] at *
  rw [Zl8] at hw
  have hwl := Zkt l
  replace hr : Ro W noF (row a2 rows.flatten) := hr.start.ro
  replace hM : Mrds (RoR W noF) l rows := hM.mono fun _ _ h => h.start.ro
  have hk := fun W => Z2t k n b l a1 a2 c1 c2 W
  rw [chkM]
  by_cases hkd : kdM k n b l = true
  ·rw [if_pos hkd]
   simp only [hkd] at hk
   refine Zab Tryz.func93 rfl Tryz.ntmps93 rfl ?_
   by_cases h2 : k = 2
   case' pos =>
    subst h2
    repeat (first|refine Yex ?_|(refine X_id ?_;first|(refine Zad 152 rfl rfl rfl rfl rfl hS (hk _) ?_;rintro _ _ rfl hS)|refine Yaf ?_|refine Yag ?_|refine Yan ?_|refine Ybe ?_|refine Ybc ?_|refine Yau ?_|refine Ybh ?_|refine Ybs ?_|refine Yap ?_|refine Ybf ?_|refine Ya7 (fun _ _ hS _ => ?_))|refine Ye9 ?_|refine Yeo ?_)
   case' neg =>
    repeat (first|refine Ye0 ?_|(refine X_id ?_;first|(refine Zad 152 rfl rfl rfl rfl rfl hS (hk _) ?_;rintro _ _ rfl hS)|refine Yaf ?_|refine Yag ?_|refine Yan ?_|refine Ya9 ?_|refine Ybc ?_|refine Yau ?_|refine Ybi ?_|refine Yap ?_|refine Ybf ?_|refine Ya7 (fun _ _ hS _ => ?_))|refine Ye9 ?_|refine Yeo ?_)
   all_goals
    refine Zaj (α := Nat) (fun i => [(1,.int .i64 (deep : Nat)),(21,.slice a2 l.length c2),(22,.int .i64 (l.length : Nat)),(23,.int .i64 (i : Nat))]) (fun i w => i ≤ l.length ∧ (∀ j,j < i → ∀ y,l[j]? = some y → chkM m y = 0) ∧ St W noF [] w) (fun i => l.length - i) 0 ⟨rfl,rfl,rfl,rfl,trivial⟩ ⟨Nat.zero_le _,fun j hj => absurd hj (by omega),hS.drops⟩ ?_
    clear hS
    rintro i w ⟨hi,hz,hS2⟩
    by_cases hlt : i < l.length
    ·obtain ⟨y,hyx⟩ : ∃ y,y = l[i] := ⟨_,rfl⟩
     have hy0 : l[i]? = some y := by rw [hyx]; exact List.getElem?_eq_getElem hlt
     have hyw := Zks (List.mem_of_getElem? hy0)
     obtain ⟨cs,hxs,hy⟩ := hM.at_ hy0
     obtain ⟨d1,e1,d2,e2,rows2,rfl,_⟩ := hy.lit
     obtain ⟨ab,ao,rfl⟩ := hr.start.base (by
      intro e
      rw [e] at hxs
      simp at hxs)
     have hdr : (l.drop i).map (chkM m) = chkM m y :: (l.drop (i + 1)).map (chkM m) := by rw [List.drop_eq_getElem_cons hlt,← hyx]; rfl
     have ihy := fun W h => ih y [.int .i64 y.kind,.int .i64 y.num,.slice d1 y.txt.length e1,.slice d2 y.lst.length e2] (deep + 1) W noF (by omega) h (by omega)
     obtain ⟨e,he⟩ : ∃ e,e = chkM m y := ⟨_,rfl⟩
     rw [← he] at ihy hdr
     have hS := hS2
     repeat (first|refine Yeg ?_|(refine X_id ?_;first|refine Yaf ?_|refine Ya1 ?_|refine Yba ?_|refine Yay ?_|refine Ybf ?_|refine Ybr ?_|refine Yao (fun _ hS _ => ?_)|refine Yar (fun _ _ hS _ => ?_))|refine Yek ?_|refine Yab ?_)
     rw [show ((deep : Nat) : Int) + 1 = ((deep + 1 : Nat) : Int) by omega]
     refine Zad 93 rfl rfl rfl rfl rfl hS (ihy _ (hy.mono fun _ _ h => (h.rd hS).ro)) ?_
     rintro _ w rfl hS
     by_cases h0 : e = 0
     ·subst h0
      repeat (first|refine Yeg ?_|refine Yaf ?_|refine Yag ?_|refine Ybb ?_|refine Yay ?_|refine Yes ?_|refine Yeo ?_)
      exact Zaf (i + 1) ⟨rfl,rfl,rfl,rfl,trivial⟩ ⟨hlt,fun j hj z hzj => by
       by_cases hji : j = i
       ·subst hji
        rw [hy0] at hzj
        cases hzj
        exact he.symm
       ·exact hz j (by omega) z hzj,hS.drops⟩ (by omega)
     ·repeat (first|refine Yeg ?_|refine Yaf ?_|refine Yag ?_|refine Ybl ?_|refine Yey ?_|refine Ye2 ?_)
      rw [Zhn hz,hdr,Zil,if_neg h0]
      exact ⟨rfl,hS.drops⟩
    ·obtain rfl : i = l.length := by omega
     have hS := hS2
     repeat (first|refine Yeg ?_|refine Yag ?_|refine Yaz ?_|refine Yep ?_|refine Yfc ?_)
     rw [Zhn hz,List.drop_length]
     exact ⟨rfl,hS⟩
  ·rw [if_neg hkd]
   simp only [eq_false_of_ne_true hkd] at hk
   refine Zab Tryz.func93 rfl Tryz.ntmps93 rfl ?_
   repeat (first|refine Yeg ?_|(refine X_id ?_;first|(refine Zad 152 rfl rfl rfl rfl rfl hS (hk _) ?_;rintro _ _ rfl hS)|refine Yag ?_|refine Ybq ?_|refine Ybf ?_|refine Ya7 (fun _ _ hS _ => ?_))|refine Ye4 ?_|refine Ye2 ?_)
   exact ⟨rfl,hS.drops⟩
abbrev Wt (p : Nat) (b : Option Addr) (q : Nat) (s : List UInt8) : List Res := [pts p (.cells (List.toArray [.slice b s.length q,.bool false]) 203 (0,0)),own 5 1 b q (bv s)]
theorem Zqu (p : Nat) (b : Option Addr) (q : Nat) (s : List UInt8) (a : Option Addr) (t : List UInt8) (c m : Nat) (W : World) (F : Nat → Prop) (hq : s.length ≤ q) (hm : t.length = m) (hS : St W F (Wt p b q s) W) (ht : Ro W F (bytes a t)) (hl : s.length + t.length ≤ 131072) :
  Calls Tryz.prog 153 #[.pointer (some ⟨p,0,none⟩),.slice a m c] W (Ret fun v w => (v = .tuple #[] ∧ ∃ b' q',(s ++ t).length ≤ q' ∧ St W F (Wt p b' q' (s ++ t)) w)) := by
 subst hm
 refine Zab Tryz.func153 rfl Tryz.ntmps153 rfl ?_
 repeat (first|refine Yex ?_|(refine X_id ?_;first|refine Yaf ?_|refine Yav ?_|refine Yan ?_|refine Ya9 ?_|refine Ybq ?_|refine Yau ?_|refine Ybs ?_|refine Yay ?_|refine Yap ?_|refine Yao (fun _ hS _ => ?_))|refine Yer ?_|refine Yab ?_)
 refine Zap rfl rfl rfl rfl rfl hS (by simp) hq (ht.rd hS) (by simp) Zc6 (by omega) (by simp only [maxLen]; omega) (fun b' q' w hS hq' _ => ?_)
 repeat (first|refine Yeg ?_|refine Yav ?_|refine Yan ?_|refine Yao (fun _ hS _ => ?_)|refine Ybt ?_)
 refine ⟨rfl,b',q',by simpa using hq',?_⟩
 exact St.conv (rs := [pts p (.cells (List.toArray [.slice b' ((s.length + t.length : Nat)) q',.bool false]) 203 (0,0)),own 5 1 b' q' (bv s ++ bv t)]) hS.took (by show _ = [_,_]; rw [List.length_append,Zcc])
theorem Zv6 (l : List Mv) (i : Nat) : (Za5 (l.take i)).length ≤ (Za5 l).length := by
 have := congrArg List.length (congrArg Za5 (List.take_append_drop i l))
 rw [Zgi,List.length_append] at this; omega
theorem Zv7 (l : List Mv) (y : Mv) : Za5 (l ++ [y]) = Za5 l ++ encM y := by rw [Zgi,Za5,Za5,List.append_nil]
theorem Z2d (n : Int) (cs : List Value) (p : Nat) (b : Option Addr) (q : Nat) (s : List UInt8) (W : World) (F : Nat → Prop) (hq : s.length ≤ q) (hv : Mrd (RoR W F) (nuM n) cs) (hfit : fitM (nuM n)) (hS : St W F (Wt p b q s) W) (hl : s.length + (encM (nuM n)).length ≤ 131072) (hG : Lg W F) :
  Calls Tryz.prog 94 #[.pointer (some ⟨p,0,none⟩),.agg (List.toArray cs)] W (Ret fun u w => (u = .tuple #[] ∧ ∃ b' q',(s ++ encM (nuM n)).length ≤ q' ∧ St W F (Wt p b' q' (s ++ encM (nuM n))) w)) := by
 obtain ⟨a1,c1,a2,c2,rows,rfl,_⟩ := hv.lit
 simp only [Mv.kind,Mv.num,Mv.txt,Mv.lst,List.length_nil] at *
 rw [fitM] at hfit
 have e : encM (nuM n) = [105] ++ Lib.itoa n ++ [59] := by rw [Zfz]; simp
 rw [e] at hl ⊢
 have hl2 := hl
 simp only [List.length_append,List.length_cons,List.length_nil] at hl2
 refine Zab Tryz.func94 rfl Tryz.ntmps94 rfl ?_
 repeat (first|refine Yeg ?_|(refine X_id ?_;first|(refine Zad 65 rfl rfl rfl rfl rfl hS (Z4v n _ _ (hG.at_ hS) hfit.1.1 hfit.1.2) ?_;rintro _ _ rfl hS)|refine Yaf ?_|refine Yag ?_|refine Yan ?_|refine Ybh ?_|refine Yap ?_|refine Ya7 (fun _ _ hS _ => ?_)|refine Ydr ?_|refine Zjf rfl rfl rfl rfl hS (fun _ _ _ hS _ => ?_))|refine Yfl ?_|refine Yab ?_)
 obtain ⟨_,hc,hr,hw,hbk⟩ := hS.call [false,false,true,true]
 refine Zaa _ rfl rfl rfl rfl rfl (Zqu p b q s _ _ _ _ _ _ hq rfl hc (hr _ (List.mem_cons_self ..)) hl) ?_
 rintro _ w ⟨rfl,b',q',hq',hS⟩
 replace hS := hbk hS
 clear hc hr hw hbk
 repeat (first|refine Yac ?_|refine Yat ?_|refine Ybt ?_)
 exact ⟨rfl,b',q',hq',hS.took⟩
theorem Z2c (t : List UInt8) (cs : List Value) (p : Nat) (b : Option Addr) (q : Nat) (s : List UInt8) (W : World) (F : Nat → Prop) (hq : s.length ≤ q) (hv : Mrd (RoR W F) (txM t) cs) (hfit : fitM (txM t)) (hS : St W F (Wt p b q s) W) (hl : s.length + (encM (txM t)).length ≤ 131072) (hG : Lg W F) :
  Calls Tryz.prog 94 #[.pointer (some ⟨p,0,none⟩),.agg (List.toArray cs)] W (Ret fun u w => (u = .tuple #[] ∧ ∃ b' q',(s ++ encM (txM t)).length ≤ q' ∧ St W F (Wt p b' q' (s ++ encM (txM t))) w)) := by
 obtain ⟨a,c,a2,c2,rows,rfl,hc1,hb,_⟩ := hv.lit
 simp only [Mv.kind,Mv.num,Mv.txt,Mv.lst,List.length_nil] at *
 rw [fitM] at hfit
 have e : s ++ encM (txM t) = (s ++ (Lib.itoa (t.length : Nat) ++ [58])) ++ t := by rw [Zex]; simp
 have hl2 := congrArg List.length e
 rw [List.length_append] at hl2
 rw [e]
 rw [hl2] at hl
 simp only [List.length_append,List.length_cons,List.length_nil] at hl
 refine Zab Tryz.func94 rfl Tryz.ntmps94 rfl ?_
 repeat (first|refine Yeg ?_|(refine X_id ?_;first|(refine Zad 65 rfl rfl rfl rfl rfl hS (Z4v (t.length : Nat) _ _ (hG.at_ hS) (by omega) (by omega)) ?_;rintro _ _ rfl hS)|refine Yaf ?_|refine Yag ?_|refine Yan ?_|refine Yau ?_|refine Ybh ?_|refine Ybi ?_|refine Yap ?_|refine Ya7 (fun _ _ hS _ => ?_)|refine Ydr ?_|refine Zjf rfl rfl rfl rfl hS (fun _ _ _ hS _ => ?_))|refine Yfo ?_|refine Yab ?_)
 obtain ⟨_,hc,hr,hw,hbk⟩ := hS.call [false,false,true,true]
 refine Zaa _ rfl rfl rfl rfl rfl (Zqu p b q s _ _ _ _ _ _ hq rfl hc (hr _ (List.mem_cons_self ..)) (by simp; omega)) ?_
 rintro _ w ⟨rfl,b',q',hq',hS⟩
 replace hS := hbk hS
 clear hc hr hw hbk
 repeat (first|refine Yeg ?_|refine Yaf ?_|refine Yan ?_|refine Yap ?_|refine Yad ?_|refine Yab ?_)
 obtain ⟨_,hc,hr,hw,hbk⟩ := hS.call [true,true,false,false]
 refine Zaa _ rfl rfl rfl rfl rfl (Zqu p b' q' _ a t c t.length _ _ hq' rfl hc (hw _ hb) (by simp; omega)) ?_
 rintro _ w ⟨rfl,b2,q2,hq2,hS⟩
 replace hS := hbk hS
 clear hc hr hw hbk
 repeat (first|refine Yac ?_|refine Yat ?_|refine Ybt ?_)
 exact ⟨rfl,b2,q2,hq2,hS.took⟩
theorem Zz2 : ∀ (m : Nat) (v : Mv) (cs : List Value) (p : Nat) (b : Option Addr) (q : Nat) (s : List UInt8) (W : World) (F : Nat → Prop),s.length ≤ q → Mrd (RoR W F) v cs → wM v ≤ 1048576 → chkM m v = 0 → fitM v → St W F (Wt p b q s) W → s.length + (encM v).length ≤ 131072 → Lg W F →
  Calls Tryz.prog 94 #[.pointer (some ⟨p,0,none⟩),.agg (List.toArray cs)] W (Ret fun u w => (u = .tuple #[] ∧ ∃ b' q',(s ++ encM v).length ≤ q' ∧ St W F (Wt p b' q' (s ++ encM v)) w)) := by
 intro m
 induction m with
 | zero =>
  intro v cs p b q s W F hq hv hwv hck hfit hS hl hG
  rcases Zdf hck with ⟨n,rfl⟩ | ⟨t,rfl⟩ | ⟨l,m',_,h',_⟩
  ·exact Z2d n cs p b q s W F hq hv hfit hS hl hG
  ·exact Z2c t cs p b q s W F hq hv hfit hS hl hG
  ·cases h'
 | succ m ih =>
  intro v cs p b q s W F hq hv hwv hck hfit hS hl hG
  rcases Zdf hck with ⟨n,rfl⟩ | ⟨t,rfl⟩ | ⟨l,m',rfl,h',hck⟩
  ·exact Z2d n cs p b q s W F hq hv hfit hS hl hG
  ·exact Z2c t cs p b q s W F hq hv hfit hS hl hG
  obtain rfl : m = m' := by omega
  obtain ⟨a1,c1,a,c,rows,rfl,hc1,hb0,hr0,hx⟩ := hv.lit
  simp only [Mv.kind,Mv.num,Mv.txt,Mv.lst,List.length_nil] at *
  rw [Zl8] at hwv
  rw [fitM] at hfit
  have hwl := Zkt l
  have e : s ++ encM (liM l) = ((s ++ [40]) ++ Za5 l) ++ [41] := by rw [Zby]; simp
  have hl2 := congrArg List.length e
  rw [List.length_append] at hl2
  rw [e]
  rw [hl2] at hl
  simp only [List.length_append,List.length_cons,List.length_nil] at hl
  refine Zab Tryz.func94 rfl Tryz.ntmps94 rfl ?_
  repeat (first|refine Yeg ?_|(refine X_id ?_;first|refine Yaf ?_|refine Yag ?_|refine Yan ?_|refine Ybh ?_|refine Ybi ?_|refine Yap ?_|refine Ya7 (fun _ _ hS _ => ?_)|refine Ybd (fun _ _ hS _ => ?_))|refine Yfo ?_|refine Yab ?_)
  obtain ⟨_,hc,hr,hw,hbk⟩ := hS.call [false,false,true,true]
  refine Zaa _ rfl rfl rfl rfl rfl (Zqu p b q s _ [40] _ _ _ _ hq rfl hc (hr _ (List.mem_cons_self ..)).own_row (by simp; omega)) ?_
  rintro _ w ⟨rfl,b',q',hq',hS⟩
  replace hS := hbk hS
  clear hc hr hw hbk
  repeat (first|refine Yeg ?_|refine Yaf ?_|refine Yan ?_|refine Yau ?_|refine Yap ?_|refine Yej ?_|refine Yab ?_)
  refine Zaj (α := Nat × Option Addr × Nat) (fun z => [(0,.pointer (some ⟨p,0,none⟩)),(38,.slice a l.length c),(39,.int .i64 (l.length : Nat)),(40,.int .i64 (z.1 : Nat))])
   (fun z w => z.1 ≤ l.length ∧ ((s ++ [40]) ++ Za5 (l.take z.1)).length ≤ z.2.2 ∧ St W F (Wt p z.2.1 z.2.2 ((s ++ [40]) ++ Za5 (l.take z.1))) w) (fun z => l.length - z.1) (0,b',q') ⟨rfl,rfl,rfl,rfl,trivial⟩ ⟨Nat.zero_le _,by simpa [Za5] using hq',by rw [List.take_zero,Za5,List.append_nil]; exact hS.took⟩ ?_
  clear hS
  rintro ⟨i,b2,q2⟩ w ⟨hi,hq2,hS2⟩
  simp only at hi hq2 hS2
  by_cases hlt : i < l.length
  ·obtain ⟨y,hyx⟩ : ∃ y,y = l[i] := ⟨_,rfl⟩
   have hy0 : l[i]? = some y := by rw [hyx]; exact List.getElem?_eq_getElem hlt
   have hymem : y ∈ l := List.mem_of_getElem? hy0
   have hyw := Zks hymem
   obtain ⟨cs,hxs,hy⟩ := hx.at_ hy0
   obtain ⟨d1,e1,d2,e2,rows2,rfl,_⟩ := hy.lit
   have hr := hr0
   obtain ⟨ab,ao,rfl⟩ := hr.start.base (by
    intro e
    rw [e] at hxs
    simp at hxs)
   have htk : Za5 (l.take (i + 1)) = Za5 (l.take i) ++ encM y := by
    rw [List.take_succ_eq_append_getElem hlt,← hyx,Zv7]
   have hle := Zv6 l (i + 1)
   rw [htk,List.length_append] at hle
   have hS := hS2
   repeat (first|refine Yeg ?_|(refine X_id ?_;first|refine Yaf ?_|refine Ya1 ?_|refine Yba ?_|refine Ybf ?_|refine Ybr ?_|refine Yao (fun _ hS _ => ?_)|refine Yar (fun _ _ hS _ => ?_))|refine Yek ?_|refine Yab ?_)
   obtain ⟨_,hc,hr,hw,hbk⟩ := hS.call [false,true,true]
   refine Zaa _ rfl rfl rfl rfl rfl (ih y _ p b2 q2 _ _ _ hq2 (hy.mono fun _ _ h => hw _ h) (by omega) (hck y hymem) (fitMs_mem.1 hfit.2.2 y hymem) hc (by simp; omega) (hG.mono hw)) ?_
   rintro _ w ⟨rfl,b3,q3,hq3,hS⟩
   replace hS := hbk hS
   clear hc hr hw hbk
   repeat (first|refine Yeg ?_|refine Yel ?_|refine Yad ?_|refine Yeo ?_)
   refine Zaf (z := (i,b2,q2)) (i + 1,b3,q3) ⟨rfl,rfl,rfl,rfl,trivial⟩ ⟨hlt,?_,?_⟩ (by dsimp only; omega)
   ·rw [htk,← List.append_assoc]; exact hq3
   ·rw [htk,← List.append_assoc]; exact hS.took
  ·obtain rfl : i = l.length := by omega
   have hS := hS2
   rw [List.take_length] at hS hq2
   repeat (first|refine Yeg ?_|refine Yaf ?_|refine Yaz ?_|refine Ybd (fun _ _ hS _ => ?_)|refine Yet ?_|refine Yem ?_)
   obtain ⟨_,hc,hr,hw,hbk⟩ := hS.call [false,true,true]
   refine Zaa _ rfl rfl rfl rfl rfl (Zqu p b2 q2 _ _ [41] _ _ _ _ hq2 rfl hc (hr _ (List.mem_cons_self ..)).own_row (by simp; omega)) ?_
   rintro _ w ⟨rfl,b3,q3,hq3,hS⟩
   replace hS := hbk hS
   clear hc hr hw hbk
   repeat (first|refine Yac ?_|refine Yat ?_|refine Ybt ?_)
   exact ⟨rfl,b3,q3,hq3,hS.took⟩
theorem Zud (v : Mv) (cs : List Value) (W : World) (hv : Mrd (RoR W noF) v cs) (hwv : wM v ≤ 1048576) (hfit : fitM v) (hl : (encM v).length ≤ 131072) (hG : Lg W noF) :
  Calls Tryz.prog 47 #[.agg (List.toArray cs)] W (Ret fun u w => (chkM 8 v ≠ 0 ∧ u = .tuple #[.slice none 0 0,.int .i64 (chkM 8 v)] ∧ St W noF [] w) ∨ (chkM 8 v = 0 ∧ ∃ b q,u = .tuple #[.slice b (encM v).length q,.int .i64 0] ∧ (encM v).length ≤ q ∧ St W noF [own 5 1 b q (bv (encM v))] w)) := by
 have hS := St.start W
 have hck := fun W h => Z5c 8 v cs 1 W noF rfl h hwv
 obtain ⟨a1,c1,a2,c2,rows,rfl,_⟩ := hv.lit
 obtain ⟨e,he⟩ : ∃ e,e = chkM 8 v := ⟨_,rfl⟩
 rw [← he] at hck ⊢
 by_cases h0 : e = 0
 ·subst h0
  refine Zab Tryz.func47 rfl Tryz.ntmps47 rfl ?_
  repeat (first|refine Yeg ?_|(refine X_id ?_;first|(refine Zad 93 rfl rfl rfl rfl rfl hS (hck _ (hv.mono fun _ _ h => (h.rd hS).ro)) ?_;rintro _ _ rfl hS)|refine Yaf ?_|refine Yag ?_|refine Ybb ?_|refine Ybn ?_|refine Ybf ?_|refine Ya7 (fun _ _ hS _ => ?_))|refine Yes ?_|refine Yab ?_)
  rename_i p _ _
  replace hS := hS.head (r' := pts p (.cells (List.toArray [.slice none 0 0,.bool false]) 203 (0,0))) (fun _ h => h)
  replace hS := hS.own_none 5 1 none
  have hS := hS.pick [1,0,0]
  obtain ⟨_,hc,hr,hw,hbk⟩ := hS.call [true,true,false]
  refine Zaa _ rfl rfl rfl rfl rfl (Zz2 8 v _ p none 0 [] _ _ (Nat.le_refl _) (hv.mono fun _ _ h => hw _ h) hwv he.symm hfit hc (by simpa using hl) (hG.mono hw)) ?_
  rintro _ w ⟨rfl,b,q,hq,hS⟩
  replace hS := hbk hS
  clear hc hr hw hbk
  rw [List.nil_append] at hS hq
  repeat (first|refine Yeg ?_|(refine X_id ?_;first|refine Yaf ?_|refine Yag ?_|refine Yav ?_|refine Yan ?_|refine Yap ?_)|refine Ye6 ?_|refine Ye5 ?_)
  refine .inr ⟨rfl,b,q,rfl,hq,?_⟩
  have hS := hS.pick [1]
  exact hS
 ·refine Zab Tryz.func47 rfl Tryz.ntmps47 rfl ?_
  repeat (first|refine Yeg ?_|(refine X_id ?_;first|(refine Zad 93 rfl rfl rfl rfl rfl hS (hck _ (hv.mono fun _ _ h => (h.rd hS).ro)) ?_;rintro _ _ rfl hS)|refine Yaf ?_|refine Yag ?_|refine Ybl ?_|refine Ybf ?_|refine Ya7 (fun _ _ hS _ => ?_))|refine Yey ?_|refine Yab ?_|refine Yaq ?_|refine Ybp ?_)
  exact .inl ⟨h0,rfl,hS.drops⟩
def nmC (x : Nm) : List Value := [.string (str x.1),.int .i64 x.2]
def nmV (l : List Nm) : List Value := l.flatMap nmC
theorem Zhf : ∀ l : List Nm,(nmV l).length = l.length * 2
 | [] => rfl
 | x :: l => by
  have := Zhf l
  simp only [nmV,List.flatMap_cons,List.length_append,nmC,List.length_cons,List.length_nil] at this ⊢; omega
theorem Zib : ∀ {l : List Nm} {i : Nat} {x : Nm},l[i]? = some x → ((nmV l).drop (i * 2)).take 2 = nmC x
 | [],i,x,h => by simp at h
 | y :: l,0,x,h => by
  obtain rfl : y = x := by simpa using h
  simp [nmV,nmC]
 | y :: l,i + 1,x,h => by
  have := Zib (l := l) (i := i) (x := x) (by simpa using h)
  rw [nmV,List.flatMap_cons,List.drop_append]
  simp only [nmC,List.length_cons,List.length_nil]
  rw [show (i + 1) * 2 - (0 + 1 + 1) = i * 2 by omega,List.drop_of_length_le (by simp; omega),List.nil_append]
  exact this
theorem Zk8 (l m : List Nm) : nmV (l ++ m) = nmV l ++ nmV m := by simp [nmV]
theorem Zku (a : Option Addr) (l : List Nm) (c : Nat) (W : World) (hr : Ro W noF (row a (nmV l))) (hl : NmOk l) (hG : Lg W noF) :
  Calls Tryz.prog 88 #[.slice a l.length c] W (Ret fun v w => ∃ b q,v = .slice b (wrD l).length q ∧ (wrD l).length ≤ q ∧ St W noF [own 5 1 b q (bv (wrD l))] w) := by
 have hS := St.start W
 have hlen := hl.1
 have h0 : Ro W noF (row none ([] : List (List Value)).flatten) := Zit _ _ _
 refine Zab Tryz.func88 rfl Tryz.ntmps88 rfl ?_
 repeat (first|refine Yeg ?_|refine Yag ?_|refine Yeh ?_|refine Yab ?_)
 refine Zaa _ rfl rfl rfl rfl rfl (of_M none [] 0 [] _ h0 .nil (by simp [wMs])) ?_
 rintro _ w ⟨b,q,rows,X,rfl,hq,hMs,hS'⟩
 replace hS := hS.plus hS'
 clear hS'
 have hrow0 : rows = [] := List.eq_nil_of_length_eq_zero (by simpa using hMs.1)
 subst hrow0
 repeat (first|refine Yeg ?_|refine Yaf ?_|refine Yau ?_|refine Yao (fun _ hS _ => ?_)|refine Yar (fun _ _ hS _ => ?_)|refine Yej ?_|refine Yab ?_)
 rename_i b3 _ _ _ _ _
 have hS2 : St W noF [own 38 4 b q ([] : List (List Value)).flatten,bag X,pts b3 (.cells (List.toArray [.int .i64 2,.int .i64 0,.slice none 0 0,.slice b 0 q]) 38 (0,0))] _ := hS.took
 clear hS
 refine Zaj (α := Nat × Option Addr × Nat) (fun z => [(3,.pointer (some ⟨b3,0,none⟩)),(9,.slice a l.length c),(10,.int .i64 (l.length : Nat)),(11,.int .i64 (z.1 : Nat))])
  (fun z w => z.1 ≤ l.length ∧ z.1 ≤ z.2.2 ∧ ∃ rows X,Mrds (RX X) ((l.take z.1).map Zfi) rows ∧ St W noF [own 38 4 z.2.1 z.2.2 rows.flatten,bag X,pts b3 (.cells (List.toArray [.int .i64 2,.int .i64 0,.slice none 0 0,.slice z.2.1 z.1 z.2.2]) 38 (0,0))] w)
  (fun z => l.length - z.1) (0,b,q) ⟨rfl,rfl,rfl,rfl,trivial⟩ ⟨Nat.zero_le _,Nat.zero_le _,[],X,.nil,hS2⟩ ?_
 clear hS2
 rintro ⟨i,b,q⟩ w ⟨hi,hiq,rows,X,hMs,hS2⟩
 simp only at hi hiq hMs hS2
 have hrl : rows.flatten.length = i * 4 := by rw [hMs.flat,List.length_map,List.length_take,Nat.min_eq_left hi]
 by_cases hlt : i < l.length
 ·obtain ⟨y,hyx⟩ : ∃ y,y = l[i] := ⟨_,rfl⟩
  have hy0 : l[i]? = some y := by rw [hyx]; exact List.getElem?_eq_getElem hlt
  have hyo := hl.2 y (List.mem_of_getElem? hy0)
  have hxs := Zib hy0
  unfold nmC at hxs
  obtain ⟨ab,ao,rfl⟩ := hr.start.base (by
   intro e
   rw [e] at hxs
   simp at hxs)
  have hS := hS2
  repeat (first|refine Yeg ?_|(refine X_id ?_;first|refine Ya1 ?_|refine Yba ?_|refine Ybr ?_|refine Yao (fun _ hS _ => ?_)|refine Yar (fun _ _ hS _ => ?_))|refine Yek ?_|refine Yab ?_)
  refine Zan (.s 0 (.s 1 (.s 2 (.s 3 (.s 5 (.s 6 (.h 4 (.h 7 (.h 8 (.h 9 (.h 10 (.h 11 (.s 12 (.h 13 .nil .no)) .no) .no) .no) .no) .no) .no))))))) mixed (by kernel_rfl) rfl ?_
  have hS := hS.drew
  repeat (first|(refine Zae ?_;first|refine Ybg ?_|refine Ybm ?_|refine Yas ?_))
  refine Zaa _ rfl rfl rfl rfl rfl (Zw3 y.1 _) ?_
  rintro _ w ⟨b1,c1,Y,rfl,hY,hS'⟩
  replace hS := hS.plus hS'
  clear hS'
  repeat (first|(refine Zae ?_;first|refine Yas ?_)|(refine Zac ?_;first|refine Yax ?_))
  refine Zaa _ rfl rfl rfl rfl rfl (Qbe y.2 _) ?_
  rintro _ w ⟨rfl,hS'⟩
  replace hS := hS.plus hS'
  clear hS'
  repeat (first|refine Ybd (fun _ _ hS _ => ?_)|(refine Zae ?_;first|refine Yas ?_)|(refine Zac ?_;first|refine Yax ?_))
  have hr2 := (hS.rd (List.mem_cons_self ..)).own_row.ro
  have hM2 : Mrds (RoR _ noF) [txM y.1,nuM y.2] [[.int .i64 1,.int .i64 0,.slice b1 y.1.length c1,.slice none 0 0],[.int .i64 0,.int .i64 y.2,.slice none 0 0,.slice none 0 0]] := (Mrds.nil.snoc (hY.ro (hS.rd (r := bag Y) (by simp)).ro)).snoc (Z74 (fun a => Zit _ _ a) y.2)
  refine Zaa _ rfl rfl rfl rfl rfl (of_M _ [txM y.1,nuM y.2] 2 [[.int .i64 1,.int .i64 0,.slice b1 y.1.length c1,.slice none 0 0],[.int .i64 0,.int .i64 y.2,.slice none 0 0,.slice none 0 0]] _ hr2 hM2 (by simp only [wMs,Zl8,List.length_nil]; omega)) ?_
  rintro _ w ⟨b4,q4,rows4,Z,rfl,_,hZ,hS'⟩
  replace hS := hS.plus hS'
  clear hS'
  simp only [List.length_cons,List.length_nil,Nat.zero_add,Nat.reduceAdd]
  repeat (first|refine Ybd (fun _ _ hS _ => ?_)|(refine Zae ?_;first|refine Yas ?_)|(refine Zac ?_;first|refine Yax ?_))
  have hnw := (hS.rd (List.mem_cons_self ..)).own_row
  refine Zap rfl rfl rfl rfl rfl hS hrl hiq hnw rfl (by simp [Value.oneCell']) (by omega) (by simp only [maxLen]; omega) (fun b' q' w hS hq' _ => ?_)
  repeat (first|refine Yeg ?_|refine Yel ?_|refine Yao (fun _ hS _ => ?_)|refine Yad ?_|refine Yeo ?_|(refine Zae ?_;first|refine Yaw ?_|refine Ybg ?_|refine Yas ?_)|(refine Zac ?_;first|refine Yax ?_))
  refine Zaf (z := (i,b,q)) (i + 1,b',q') ⟨rfl,rfl,rfl,rfl,trivial⟩ ⟨hlt,hq',rows ++ [[.int .i64 2,.int .i64 0,.slice none 0 0,.slice b4 2 q4]],((b4,rows4.flatten) :: Z) ++ X,?_,?_⟩ (by dsimp only; omega)
  ·rw [List.take_succ_eq_append_getElem hlt,← hyx,List.map_append]
   refine (hMs.mono fun _ _ h => h.right).snoc ?_
   exact Mrd.mk' (l := [txM y.1,nuM y.2]) rfl rfl (Nat.zero_le _) .nil (.mem (List.mem_append_left _ (List.mem_cons_self ..))) hZ.1 fun i y cs h1 h2 => (hZ.2 i y cs h1 h2).mono fun _ _ h => h.tail.left
  ·have hS : St W noF [own 38 4 b4 q4 rows4.flatten,bag Z,bag X,own 38 4 b' q' (rows.flatten ++ [.int .i64 2,.int .i64 0,.slice none 0 0,.slice b4 2 q4]),pts b3 (.cells (List.toArray [.int .i64 2,.int .i64 0,.slice none 0 0,.slice b' (i + 1) q']) 38 (0,0))] _ := hS.took
   have hS := (hS.bagAdd (a := b4) (cs := rows4.flatten) fun _ h => h.row).bagJoin
   rw [List.flatten_append]
   simpa using hS.took (out := [own 38 4 b' q' (rows.flatten ++ [.int .i64 2,.int .i64 0,.slice none 0 0,.slice b4 2 q4]),bag (((b4,rows4.flatten) :: Z) ++ X),pts b3 (.cells (List.toArray [.int .i64 2,.int .i64 0,.slice none 0 0,.slice b' (i + 1) q']) 38 (0,0))])
 ·obtain rfl : i = l.length := by omega
  have hS := hS2
  rw [List.take_length] at hMs
  repeat (first|refine Yeg ?_|refine Yaz ?_|refine Ybf ?_|refine Yet ?_|refine Yem ?_)
  have hS3 : St W noF [own 38 4 b q rows.flatten,bag X] _ := hS.took
  have hS4 := hS3.bagAdd (a := b) (cs := rows.flatten) fun _ h => h.row
  have hv : Mrd (RX ((b,rows.flatten) :: X)) (dirM l) [.int .i64 2,.int .i64 0,.slice none 0 0,.slice b l.length q] :=
   .mk' rfl (by rw [List.length_map]) (Nat.zero_le _) .nil (.mem (List.mem_cons_self ..)) hMs.1 fun i y cs h1 h2 => (hMs.2 i y cs h1 h2).mono fun _ _ h => h.tail
  refine Zaa _ rfl rfl rfl rfl rfl (Zud (dirM l) _ _ (hv.ro (hS4.rd (List.mem_cons_self ..)).ro) (Z3g hl) (Zua hl.2) (by have := Zrk hl; unfold wrD at this; omega) (hG.at_ hS)) ?_
  rintro _ w (⟨h,_⟩ | ⟨_,b',q',rfl,hq',hS'⟩)
  ·exact absurd (Zuj l) h
  replace hS := hS.plus hS'
  clear hS'
  repeat (first|refine Yeg ?_|refine Yfk ?_|refine Yeu ?_|refine Yei ?_)
  have hS : St W noF [own 5 1 b' q' (bv (encM (dirM l)))] _ := hS.took
  exact ⟨b',q',rfl,hq',hS⟩
theorem Z2e (a : Option Addr) (s : List UInt8) (c : Nat) (W : World) (hb : Ro W noF (bytes a s)) (hsc : s.length ≤ c) (hl : s.length ≤ 512) (hG : Lg W noF) :
  Calls Tryz.prog 149 #[.slice a s.length c] W (Ret fun v w => ∃ b q,v = .slice b (rdD s).length q ∧ St W noF [own 281 2 b q (nmV (rdD s))] w) := by
 have hS := St.start W
 have hD := Zuh a s c hsc (by omega)
 unfold rdD
 refine Zab Tryz.func149 rfl Tryz.ntmps149 rfl ?_
 repeat (first|refine Yeg ?_|refine Yev ?_|refine Yeh ?_|refine Yab ?_)
 refine Zaa _ rfl rfl rfl rfl rfl (hD _ (hG.at_ hS) ((hb.rd hS).ro)) ?_
 rintro v w hV
 cases hd : decM s with
 | none =>
  rw [hd] at hV
  obtain ⟨e,rfl,he,hS'⟩ := hV
  replace hS := hS.plus hS'
  clear hS'
  repeat (first|refine Yeg ?_|(refine X_id ?_;first|refine Yaf ?_|refine Yag ?_|refine Yan ?_|refine Ya3 ?_|refine Yau ?_|refine Yap ?_|refine Yao (fun _ hS _ => ?_)|refine Yar (fun _ _ hS _ => ?_))|refine Yej ?_|refine Yab ?_)
  refine Zaj (α := Unit) (fun _ => [(5,.slice none 0 0),(15,.int .i64 0),(16,.int .i64 0)]) (fun _ w => St W noF [] w) (fun _ => 0) () ⟨rfl,rfl,rfl,trivial⟩ hS.drops ?_
  clear hS
  rintro _ w hS
  repeat (first|refine Yeg ?_|refine Yfb ?_|refine Yep ?_|refine Yfc ?_)
  exact ⟨_,_,rfl,hS.own_none _ _ _⟩
 | some t =>
  rw [hd] at hV
  obtain ⟨cs,X,rfl,hM,hS'⟩ := hV
  replace hS := hS.plus hS'
  clear hS'
  obtain ⟨k,n,tb,l⟩ := t
  obtain ⟨a1,c1,a2,c2,rows,rfl,hc1,hb1,hr1,hMs⟩ := hM.lit
  simp only [Mv.kind,Mv.num,Mv.txt,Mv.lst] at *
  have hll := Znj hd
  simp only [Mv.lst] at hll
  repeat (first|refine Yeg ?_|(refine X_id ?_;first|refine Yaf ?_|refine Yag ?_|refine Yan ?_|refine Ya3 ?_|refine Yau ?_|refine Yap ?_|refine Yao (fun _ hS _ => ?_)|refine Yar (fun _ _ hS _ => ?_))|refine Yej ?_|refine Yab ?_)
  have hS : St W noF [bag X] _ := hS.took
  obtain ⟨F2,hS2,hro,hw,hbk⟩ := hS.call []
  have hX := hro _ (List.mem_cons_self ..)
  rename_i w1 _ _
  refine Zaj (α := Nat × Option Addr × Nat × Nat) (fun z => [(5,.slice z.2.1 z.2.2.1 z.2.2.2),(14,.slice a2 l.length c2),(15,.int .i64 (l.length : Nat)),(16,.int .i64 (z.1 : Nat))])
   (fun z w => z.1 ≤ l.length ∧ z.2.2.1 = ((l.take z.1).filterMap Zgj).length ∧ z.2.2.1 ≤ z.2.2.2 ∧ St _ F2 [own 281 2 z.2.1 z.2.2.2 (nmV ((l.take z.1).filterMap Zgj))] w) (fun z => l.length - z.1) (0,none,0,0) ⟨rfl,rfl,rfl,rfl,trivial⟩ ⟨Nat.zero_le _,rfl,Nat.le_refl _,hS2.own_none _ _ _⟩ ?_
  clear hS hS2
  rintro ⟨i,b,n,q⟩ w ⟨hi,hn,hnq,hS2⟩
  simp only at hi hn hnq hS2
  by_cases hlt : i < l.length
  ·obtain ⟨y,hyx⟩ : ∃ y,y = l[i] := ⟨_,rfl⟩
   have hy0 : l[i]? = some y := by rw [hyx]; exact List.getElem?_eq_getElem hlt
   have htk : l.take (i + 1) = l.take i ++ [y] := by rw [List.take_succ_eq_append_getElem hlt,← hyx]
   obtain ⟨cs,hxs,hy⟩ := hMs.at_ hy0
   obtain ⟨d1,e1,d2,e2,rows2,rfl,_,_,hr2X,hM2⟩ := hy.lit
   have hr := hr1.ro hX
   obtain ⟨ab,ao,rfl⟩ := hr.start.base (by
    intro e
    rw [e] at hxs
    simp at hxs)
   have hS := hS2
   by_cases h2 : y.lst.length = 2
   ·obtain ⟨u,v,huv⟩ : ∃ u v,y.lst = [u,v] := by
     match hh : y.lst with
     | [] => rw [hh] at h2; simp at h2
     | [_] => rw [hh] at h2; simp at h2
     | [u,v] => exact ⟨u,v,rfl⟩
     | _ :: _ :: _ :: _ => rw [hh] at h2; simp at h2
    rw [huv] at hM2
    obtain ⟨cu,hcu,hu⟩ := hM2.at_ (i := 0) rfl
    obtain ⟨cv,hcv,hv⟩ := hM2.at_ (i := 1) rfl
    obtain ⟨f1,g1,f2,g2,rows3,rfl,_,hbu,_⟩ := hu.lit
    obtain ⟨f3,g3,f4,g4,rows4,rfl,_⟩ := hv.lit
    have hen : Zgj y = some (u.txt,v.num) := by unfold Zgj; rw [huv]
    repeat (first|refine Yeg ?_|(refine X_id ?_;first|refine Yan ?_|refine Yau ?_|refine Ybh ?_|refine Ya1 ?_|refine Yba ?_|refine Yap ?_|refine Ybr ?_|refine Yao (fun _ hS _ => ?_)|refine Yar (fun _ _ hS _ => ?_))|refine Yek ?_|refine Yab ?_)
    have hr := hr2X.ro hX
    obtain ⟨xb,xo,rfl⟩ := hr.start.base (by
     intro e
     rw [e] at hcu
     simp at hcu)
    have hx : rows2.flatten[2]? = some (.slice f1 u.txt.length g1) := by
     have := congrArg (fun l => l[2]?) hcu
     simpa [List.getElem?_take,List.getElem?_drop] using this
    have hr2 := hr
    have hx2 : rows2.flatten[5]? = some (.int .i64 v.num) := by
     have := congrArg (fun l => l[1]?) hcv
     simpa [List.getElem?_take,List.getElem?_drop] using this
    have hb := hbu.ro hX
    refine Zan (.s 0 (.s 1 (.s 2 (.s 3 (.s 4 (.s 5 (.s 6 (.s 7 (.s 8 (.s 9 (.s 10 (.s 11 (.s 12 (.h 13 (.h 14 (.s 15 .nil) .no) .no)))))))))))))) mixed (by kernel_rfl) rfl ?_
    have hS := hS.drew
    repeat (first|refine Ybd (fun _ _ hS _ => ?_)|(refine Zae ?_;first|refine Ya0 ?_|refine Ybg ?_|refine Ydi ?_|refine Yce ?_|refine Yb9 ?_|refine Ybm ?_|refine Yd4 ?_|refine Yas ?_|refine Za6 (fun w' => w'.cell? _ = some _) rfl rfl ((hr2.rd hS).cellF (by first|omega|(dsimp only;omega)) hx2) (fun _ hc => Zav rfl rfl hc) rfl rfl ?_|refine Yed ?_)|(refine Zac ?_;first|refine Yax ?_))
    have hnw := (hS.rd (List.mem_cons_self ..)).own_row
    have hni : n ≤ i := by
     have := List.length_filterMap_le Zgj (l.take i)
     rw [List.length_take] at this; omega
    refine Zap rfl rfl rfl rfl rfl hS (by rw [Zhf,hn]) hnq hnw rfl (by simp [Value.oneCell']) (by dsimp only; omega) (by simp only [maxLen]; omega) (fun b' q' w hS hq' _ => ?_)
    repeat (first|refine Yeg ?_|refine Yel ?_|refine Yad ?_|refine Yeo ?_|(refine Zae ?_;first|refine Yfg ?_)|(refine Zac ?_;first|refine Yax ?_))
    have hre : (l.take (i + 1)).filterMap Zgj = (l.take i).filterMap Zgj ++ [(u.txt,v.num)] := by rw [htk,List.filterMap_append]; simp [hen]
    refine Zaf (z := (i,b,n,q)) (i + 1,b',n + 1,q') ⟨rfl,rfl,rfl,rfl,trivial⟩ ⟨hlt,by rw [hre,List.length_append,← hn]; rfl,hq',?_⟩ (by dsimp only; omega)
    rw [hre,Zk8]
    have hS : St w1 F2 [own 281 2 b' q' (nmV ((l.take i).filterMap Zgj) ++ [.string (str u.txt),.int .i64 v.num])] _ := hS.took
    exact hS
   ·have hen : Zgj y = none := by
     unfold Zgj
     match hh : y.lst with
     | [] => rfl
     | [_] => rfl
     | [u,v] => rw [hh] at h2; simp at h2
     | _ :: _ :: _ :: _ => rfl
    repeat (first|refine Yeg ?_|(refine X_id ?_;first|refine Yaf ?_|refine Yan ?_|refine Yau ?_|refine Ybi ?_|refine Ya1 ?_|refine Yba ?_|refine Yay ?_|refine Yap ?_|refine Ybr ?_|refine Yao (fun _ hS _ => ?_)|refine Yar (fun _ _ hS _ => ?_))|refine Yen ?_|refine Yeo ?_)
    have hre : (l.take (i + 1)).filterMap Zgj = (l.take i).filterMap Zgj := by rw [htk,List.filterMap_append]; simp [hen]
    refine Zaf (z := (i,b,n,q)) (i + 1,b,n,q) ⟨rfl,rfl,rfl,rfl,trivial⟩ ⟨hlt,by rw [hre]; exact hn,hnq,?_⟩ (by dsimp only; omega)
    rw [hre]
    exact hS.took
  ·obtain rfl : i = l.length := by omega
   have hS := hS2
   rw [List.take_length] at hn hS
   repeat (first|refine Yeg ?_|refine Yfb ?_|refine Yep ?_|refine Yfc ?_)
   replace hS := hbk hS
   subst hn
   have hS : St W noF [own 281 2 b q (nmV (l.filterMap Zgj))] _ := hS.took
   exact ⟨b,q,rfl,hS⟩
def okC (c : UInt8) : Prop := (97 ≤ c.toNat ∧ c.toNat ≤ 122) ∨ (48 ≤ c.toNat ∧ c.toNat ≤ 57) ∨ c.toNat = 46 ∨ c.toNat = 45 ∨ c.toNat = 95
instance (c : UInt8) : Decidable (okC c) := by unfold okC; infer_instance
def nameOk (s : List UInt8) : Prop := 1 ≤ s.length ∧ s.length ≤ 24 ∧ s ≠ [46] ∧ s ≠ [46,46] ∧ ∀ c ∈ s,okC c
instance (s : List UInt8) : Decidable (nameOk s) := by unfold nameOk; infer_instance
theorem Z98 (c : UInt8) (W : World) : Calls Tryz.prog 91 #[.int .u8 (c.toNat : Int)] W (Ret fun v w => v = .bool (decide (okC c)) ∧ St W noF [] w) := by
 have hS := St.start W
 refine Zab Tryz.func91 rfl Tryz.ntmps91 rfl ?_
 repeat' (first | (refine G_id ?_; first | refine Zme ?_ | refine Zeq rfl rfl ?_ | refine Z2a rfl rfl rfl rfl ?_ | refine G_no rfl rfl rfl rfl rfl rfl ?_ | refine Znp rfl rfl rfl rfl rfl ?_) | (refine X_id ?_; first | refine X_yl (Zce rfl rfl) rfl rfl ?_ | refine X_yl (Zbf rfl rfl) rfl rfl ?_ | refine X_yl (Zip rfl rfl rfl) rfl rfl ?_ | refine X_yl (Ziq rfl rfl rfl) rfl rfl ?_ | refine X_yl (Zkk rfl rfl rfl (by omega)) rfl rfl ?_ | refine X_yl (Zuq rfl rfl rfl (by omega)) rfl rfl ?_ | refine X_yl (Zkj rfl rfl rfl (by omega)) rfl rfl ?_ | refine X_yl (Zrb rfl rfl rfl) rfl rfl ?_ | refine X_yl (Zze rfl rfl rfl) rfl rfl ?_ | refine X_yl (Zut rfl rfl rfl) rfl rfl ?_) | (refine C_id ?_; first | refine Zdl ?_ | refine Zay ?_ | refine Zj6 ?_) | (refine E_id ?_; first | refine Zcx ?_ | refine Zhc rfl (Zbt rfl) (Ret.mk ?_)) | (refine Zjh (d := 5) rfl ?_ ?_ <;> intro hd) | (refine Zjh (d := 9) rfl ?_ ?_ <;> intro hd) | (refine Zjh (d := 12) rfl ?_ ?_ <;> intro hd) | (refine Zjh (d := 17) rfl ?_ ?_ <;> intro hd) | (refine Zjh (d := 21) rfl ?_ ?_ <;> intro hd) | (refine Zjh (d := 25) rfl ?_ ?_ <;> intro hd) | (refine Zji rfl ?_ ?_ <;> intro hd))
 all_goals
  refine ⟨?_,hS⟩
  congr 1
  unfold okC
  first | (symm; exact decide_eq_true (by omega)) | (symm; exact decide_eq_false (by omega)) | exact decide_eq_decide.2 (by omega)
theorem Zic {s : List UInt8} (h : s.length < 1 ∨ 24 < s.length ∨ s = [46] ∨ s = [46,46]) : decide (nameOk s) = false := by
 refine decide_eq_false fun q => ?_
 obtain ⟨q1,q2,q3,q4,_⟩ := q
 rcases h with h | h | h | h
 ·omega
 ·omega
 ·exact q3 h
 ·exact q4 h
theorem Z08 (s : List UInt8) (W : World) : Calls Tryz.prog 43 #[.string (str s)] W (Ret fun v w => v = .bool (decide (nameOk s)) ∧ St W noF [] w) := by
 have hS := St.start W
 have hz := Zc0 s
 by_cases h1 : s.length < 1
 ·rw [Zic (.inl h1)]
  refine Zab Tryz.func43 rfl Tryz.ntmps43 rfl ?_
  repeat (first|refine Ye0 ?_|(refine X_id ?_;first|refine Yaf ?_|refine Yag ?_|refine Ybe ?_|refine Ycq ?_|refine Ya1 ?_)|refine Yae ?_|refine Ycl ?_|refine Yad ?_|refine Yah ?_|refine Yak ?_|refine Yfr ?_)
  exact ⟨rfl,hS⟩
 by_cases h2 : 24 < s.length
 ·rw [Zic (.inr (.inl h2))]
  refine Zab Tryz.func43 rfl Tryz.ntmps43 rfl ?_
  repeat (first|refine Yfe ?_|(refine X_id ?_;first|refine Yaf ?_|refine Yag ?_|refine Ybe ?_|refine Ya9 ?_|refine Ycq ?_|refine Yaz ?_|refine Ybz ?_)|refine Yae ?_|refine Ycl ?_|refine Yad ?_|refine Yah ?_|refine Yak ?_|refine Yfr ?_)
  exact ⟨rfl,hS⟩
 by_cases h3 : s = [46]
 ·rw [Zic (.inr (.inr (.inl h3)))]
  refine Zab Tryz.func43 rfl Tryz.ntmps43 rfl ?_
  repeat (first|refine Yfe ?_|(refine X_id ?_;first|refine Yaf ?_|refine Yag ?_|refine Ybe ?_|refine Ya9 ?_|refine Ycq ?_|refine Yaz ?_|refine Ybs ?_|refine Yc2 ?_)|refine Yae ?_|refine Ycl ?_|refine Yad ?_|refine Yah ?_|refine Yak ?_|refine Yfr ?_)
  exact ⟨rfl,hS⟩
 by_cases h4 : s = [46,46]
 ·rw [Zic (.inr (.inr (.inr h4)))]
  refine Zab Tryz.func43 rfl Tryz.ntmps43 rfl ?_
  repeat (first|refine Yex ?_|(refine X_id ?_;first|refine Yaf ?_|refine Yag ?_|refine Ya9 ?_|refine Ycq ?_|refine Yaz ?_|refine Ybs ?_|refine Yc2 ?_|refine Ycs ?_)|refine Yae ?_|refine Ycl ?_|refine Yad ?_|refine Yah ?_|refine Yak ?_|refine Yfr ?_)
  exact ⟨rfl,hS⟩
 refine Zab Tryz.func43 rfl Tryz.ntmps43 rfl ?_
 repeat (first|refine Yex ?_|(refine X_id ?_;first|refine Yaf ?_|refine Yag ?_|refine Ya9 ?_|refine Ycq ?_|refine Yaz ?_|refine Ybs ?_|refine Ycs ?_)|refine Yae ?_|refine Zhu ?_|refine Ycl ?_|refine Yad ?_|refine Yaj ?_|refine Yal ?_|refine Yai ?_|refine Yab ?_)
 refine Zbk (α := Unit) (fun _ => []) (fun _ w => (∀ c ∈ s,okC c) ∧ St W noF [] w) ?_ ?_
 ·refine Zaj (α := Nat) (fun i => [(0,.string (str s)),(21,.int .i64 (s.length : Nat)),(22,.int .i64 (i : Nat))]) (fun i w => i ≤ s.length ∧ (∀ c ∈ s.take i,okC c) ∧ St W noF [] w) (fun i => s.length - i) 0 ⟨rfl,rfl,rfl,trivial⟩ ⟨Nat.zero_le _,fun c hc => by simp at hc,hS⟩ ?_
  clear hS
  rintro i w ⟨hi,hok,hS⟩
  by_cases hlt : i < s.length
  ·obtain ⟨x,hx0⟩ : ∃ x,s[i]? = some x := ⟨_,List.getElem?_eq_getElem hlt⟩
   have hx : s[((i : Nat) : Int).toNat]? = some x := hx0
   have hq := Z98 x
   by_cases hc : okC x
   ·rw [decide_eq_true hc] at hq
    repeat (first|refine Yeg ?_|(refine X_id ?_;first|(refine Zad 91 rfl rfl rfl rfl rfl hS (hq _) ?_;rintro _ _ rfl hS)|refine Yaf ?_|refine Yag ?_|refine Ya1 ?_|refine Yay ?_|refine Ydd ?_)|refine Yae ?_|refine Yad ?_|refine Yaj ?_|refine Yal ?_|refine Ya4 ?_|refine Yak ?_|refine Yem ?_)
    refine Zaf (z := i) (i + 1) ⟨rfl,rfl,rfl,trivial⟩ ⟨hlt,fun c hc' => ?_,hS⟩ (by omega)
    rw [List.take_add_one,hx0] at hc'
    rcases List.mem_append.1 hc' with h | h
    ·exact hok c h
    ·obtain rfl : c = x := by simpa using h
     exact hc
   ·rw [decide_eq_false hc] at hq
    repeat (first|refine Yeg ?_|(refine X_id ?_;first|(refine Zad 91 rfl rfl rfl rfl rfl hS (hq _) ?_;rintro _ _ rfl hS)|refine Yaf ?_|refine Yag ?_|refine Ya1 ?_|refine Ydd ?_)|refine Yfn ?_|refine Yab ?_|refine Yaq ?_|refine Yb7 ?_|refine Ya8 ?_|refine Yam ?_)
    refine ⟨?_,hS⟩
    rw [decide_eq_false (fun q : nameOk s => hc (q.2.2.2.2 x (List.mem_of_getElem? hx0)))]
  ·repeat (first|refine Yeg ?_|refine Yaz ?_|refine Yet ?_|refine Yem ?_)
   refine Zbj () trivial ⟨?_,hS⟩
   rwa [List.take_of_length_le (by omega)] at hok
 ·clear hS
  rintro _ w ⟨hok,hS⟩
  repeat (first|refine Yeg ?_|refine Yag ?_|refine Yeu ?_|refine Yab ?_|refine Yb7 ?_|refine Yam ?_)
  refine ⟨?_,hS⟩
  rw [decide_eq_true (show nameOk s from ⟨by omega,by omega,h3,h4,hok⟩)]
def ixN (s : List UInt8) : List Nm → Int
 | [] => -1
 | x :: l => if x.1 = s then 0 else if ixN s l < 0 then -1 else ixN s l + 1
theorem Z2v (s : List UInt8) : ∀ l : List Nm,-1 ≤ ixN s l
 | [] => by simp [ixN]
 | x :: l => by
  have := Z2v s l
  unfold ixN; split
  ·omega
  ·split <;> omega
theorem Zx6 {s : List UInt8} : ∀ {l : List Nm} {k : Nat} {x : Nm},l[k]? = some x → x.1 = s → (∀ j,j < k → ∀ y,l[j]? = some y → y.1 ≠ s) → ixN s l = k
 | y :: l,0,x,h,hx,_ => by
  obtain rfl : y = x := by simpa using h
  simp [ixN,hx]
 | y :: l,k + 1,x,h,hx,hb => by
  have h0 := hb 0 (by omega) y rfl
  have ih := Zx6 (l := l) (k := k) (by simpa using h) hx fun j hj z hz => hb (j + 1) (by omega) z (by simpa using hz)
  rw [ixN,if_neg h0,ih,if_neg (by omega)]; omega
theorem Zoe {s : List UInt8} : ∀ {l : List Nm},(∀ x ∈ l,x.1 ≠ s) → ixN s l = -1
 | [],_ => rfl
 | y :: l,h => by
  rw [ixN,if_neg (h y (List.mem_cons_self ..)),Zoe fun x hx => h x (List.mem_cons_of_mem _ hx)]; rfl
def strV (p : List (List UInt8)) : List Value := p.map fun s => .string (str s)
theorem Zet (p : List (List UInt8)) : (strV p).length = p.length := by simp [strV]
theorem Zn1 {p : List (List UInt8)} {i : Nat} {s : List UInt8} (h : p[i]? = some s) : (strV p)[i]? = some (.string (str s)) := by simp [strV,h]
def Zcf (p : List (List UInt8)) : Prop := p.length ≤ 8 ∧ ∀ s ∈ p,nameOk s
instance (p : List (List UInt8)) : Decidable (Zcf p) := by unfold Zcf; infer_instance

theorem Z2x (x : Nm) (b : Nat) (s : List UInt8) (T : TypeId) (fz : Nat × Nat) (W : World) (hb : Rd W (pts b (.cells (List.toArray [.string (str s)]) T fz))) :
  Calls Tryz.prog 157 #[.agg (List.toArray [.string (str x.1),.int .i64 x.2]),.pointer (some ⟨b,0,none⟩)] W (Ret fun v w => v = .bool (decide (x.1 = s)) ∧ St W noF [] w) := by
 have hc := hb.ro
 have hS := St.start W
 by_cases h : x.1 = s
 ·refine Zab Tryz.func157 rfl Tryz.ntmps157 rfl ?_
  repeat (first|refine Yeg ?_|(refine X_id ?_;first|refine Yag ?_|refine Yan ?_|refine Yap ?_|refine Ya7 (fun _ _ hS _ => ?_)|refine Yc2 ?_|refine Ycd ?_)|refine Yeu ?_|refine Yei ?_)
  refine ⟨?_,hS.drops⟩
  simp [h]
 ·have h' : str x.1 ≠ str s := fun e => h (Zw7 e)
  refine Zab Tryz.func157 rfl Tryz.ntmps157 rfl ?_
  repeat (first|refine Yeg ?_|(refine X_id ?_;first|refine Yag ?_|refine Yan ?_|refine Yap ?_|refine Ya7 (fun _ _ hS _ => ?_)|refine Ycs ?_|refine Ycd ?_)|refine Yeu ?_|refine Yei ?_)
  refine ⟨?_,hS.drops⟩
  simp [h,h']
theorem Z1n (a : Option Addr) (l : List Nm) (c b : Nat) (s : List UInt8) (T : TypeId) (fz : Nat × Nat) (W : World) (hr0 : Rd W (row a (nmV l))) (hb : Rd W (pts b (.cells (List.toArray [.string (str s)]) T fz))) (hl : l.length ≤ 1048576) :
  Calls Tryz.prog 156 #[.slice a l.length c,.func (.func 157) #[] #[.pointer (some ⟨b,0,none⟩)]] W (Ret fun v w => v = .int .i64 (ixN s l) ∧ St W noF [] w) := by
 have hbo := hb.ro
 have hr1 := hr0.ro
 have hS := St.start W
 refine Zab Tryz.func156 rfl Tryz.ntmps156 rfl ?_
 repeat (first|refine Yeg ?_|refine Yfh ?_|refine Yej ?_|refine Yab ?_)
 refine Zaj (α := Nat) (fun k => [(0,.slice a l.length c),(1,.func (.func 157) #[] #[.pointer (some ⟨b,0,none⟩)]),(7,.int .i64 (l.length : Nat)),(8,.int .i64 (k : Nat))])
  (fun k w => k ≤ l.length ∧ (∀ j,j < k → ∀ y,l[j]? = some y → y.1 ≠ s) ∧ St W noF [] w) (fun k => l.length - k) 0 ⟨rfl,rfl,rfl,rfl,trivial⟩ ⟨Nat.zero_le _,fun j hj => absurd hj (by omega),hS⟩ ?_
 clear hS
 rintro k w ⟨hk,hne,hS2⟩
 by_cases hlt : k < l.length
 ·have hx0 : l[k]? = some l[k] := List.getElem?_eq_getElem (by omega)
  generalize l[k] = x at hx0
  have hr := hr1
  have hxs : ((nmV l).drop (k * 2)).take 2 = [.string (str x.1),.int .i64 x.2] := Zib hx0
  obtain ⟨xb,xo,rfl⟩ := (hr.rd hS2).base (by intro e; rw [e] at hxs; simp at hxs)
  have hS := hS2
  by_cases hq : x.1 = s
  ·have hc1 := fun w h => Z2x x b s T fz w h
   rw [decide_eq_true hq] at hc1
   repeat (first|refine Yeg ?_|(refine X_id ?_;first|refine Yaf ?_|refine Yag ?_|refine Ya1 ?_|refine Yba ?_|refine Ybr ?_)|refine Yek ?_|refine Yab ?_)
   refine Zb2 (first := []) (captured := [.pointer (some ⟨b,0,none⟩)]) rfl rfl rfl rfl rfl (hc1 _ (hbo.rd hS)) ?_
   rintro _ w' ⟨rfl,hS'⟩
   replace hS := hS.plus hS'
   clear hS'
   repeat (first|refine Yeg ?_|refine Yev ?_|refine Yey ?_|refine Ye2 ?_)
   exact ⟨by rw [Zx6 hx0 hq hne],hS⟩
  ·have hc1 := fun w h => Z2x x b s T fz w h
   rw [decide_eq_false hq] at hc1
   repeat (first|refine Yeg ?_|(refine X_id ?_;first|refine Yaf ?_|refine Yag ?_|refine Ya1 ?_|refine Yba ?_|refine Ybr ?_)|refine Yek ?_|refine Yab ?_)
   refine Zb2 (first := []) (captured := [.pointer (some ⟨b,0,none⟩)]) rfl rfl rfl rfl rfl (hc1 _ (hbo.rd hS)) ?_
   rintro _ w' ⟨rfl,hS'⟩
   replace hS := hS.plus hS'
   clear hS'
   repeat (first|refine Yeg ?_|refine Yel ?_|refine Ye8 ?_|refine Yeo ?_)
   refine Zaf (k + 1) ⟨rfl,rfl,rfl,rfl,trivial⟩ ⟨by omega,fun j hj y hy => ?_,hS⟩ (by omega)
   by_cases hjk : j = k
   ·subst hjk; rw [hx0] at hy; cases hy; exact hq
   ·exact hne j (by omega) y hy
 ·obtain rfl : k = l.length := by omega
  have hS := hS2
  repeat (first|refine Yeg ?_|refine Yag ?_|refine Yaz ?_|refine Yep ?_|refine Yfc ?_)
  rw [Zoe fun x hx => (by
   obtain ⟨j,hj,he⟩ := List.mem_iff_getElem.1 hx
   exact hne j hj x (by rw [List.getElem?_eq_getElem hj,he]))]
  exact ⟨rfl,hS⟩
theorem Z8u (a : Option Addr) (l : List Nm) (c : Nat) (s : List UInt8) (W : World) (hr : Rd W (row a (nmV l))) (hl : l.length ≤ 1048576) :
  Calls Tryz.prog 99 #[.slice a l.length c,.string (str s)] W (Ret fun v w => v = .int .i64 (ixN s l) ∧ St W noF [] w) := by
 have hro := hr.ro
 have hS := St.start W
 refine Zab Tryz.func99 rfl Tryz.ntmps99 rfl ?_
 repeat (first|refine Yeg ?_|refine Yaf ?_|refine Yag ?_|refine Ycg ?_|refine Ya7 (fun _ _ hS _ => ?_)|refine Yeh ?_|refine Yab ?_)
 refine Zaa _ rfl rfl rfl rfl rfl (Z1n a l c _ s _ _ _ (hro.rd hS) (hS.rd (List.mem_cons_self ..)) hl) ?_
 rintro _ w' ⟨rfl,hS'⟩
 replace hS := hS.plus hS'
 clear hS'
 repeat (first|refine Yeg ?_|refine Yag ?_|refine Yah ?_|refine Yei ?_)
 exact ⟨rfl,hS.drops⟩
theorem Zxh (s : List UInt8) (W : World) : Calls Tryz.prog 182 #[.string (str s)] W (Ret fun v w => v = .bool (!decide (nameOk s)) ∧ St W noF [] w) := by
 have hS := St.start W
 have hn := fun W => Z08 s W
 refine Zab Tryz.func182 rfl Tryz.ntmps182 rfl ?_
 repeat (first|refine Yeg ?_|(refine X_id ?_;first|(refine Zad 43 rfl rfl rfl rfl rfl hS (hn _) ?_;rintro _ _ rfl hS)|refine Yaf ?_|refine Yag ?_|refine X_yl (Z9k rfl rfl) rfl rfl ?_)|refine Yeu ?_|refine Yei ?_)
 exact ⟨by simp,hS⟩
theorem Z1m (a : Option Addr) (p : List (List UInt8)) (c : Nat) (W : World) (hr0 : Rd W (row a (strV p))) (hl : p.length ≤ 1048576) :
  Calls Tryz.prog 103 #[.slice a p.length c,.func (.func 182) #[] #[]] W (Ret fun v w => (∃ z : Int,v = .int .i64 z ∧ (z < 0 ↔ ∀ s ∈ p,nameOk s)) ∧ St W noF [] w) := by
 have hr1 := hr0.ro
 have hS := St.start W
 refine Zab Tryz.func103 rfl Tryz.ntmps103 rfl ?_
 repeat (first|refine Yeg ?_|refine Yfh ?_|refine Yej ?_|refine Yab ?_)
 refine Zaj (α := Nat) (fun k => [(0,.slice a p.length c),(1,.func (.func 182) #[] #[]),(7,.int .i64 (p.length : Nat)),(8,.int .i64 (k : Nat))])
  (fun k w => k ≤ p.length ∧ (∀ j,j < k → ∀ y,p[j]? = some y → nameOk y) ∧ St W noF [] w) (fun k => p.length - k) 0 ⟨rfl,rfl,rfl,rfl,trivial⟩ ⟨Nat.zero_le _,fun j hj => absurd hj (by omega),hS⟩ ?_
 clear hS
 rintro k w ⟨hk,hne,hS2⟩
 by_cases hlt : k < p.length
 ·have hx0 : p[k]? = some p[k] := List.getElem?_eq_getElem (by omega)
  generalize p[k] = x at hx0
  have hr := hr1
  have hx := Zn1 hx0
  obtain ⟨xb,xo,rfl⟩ := (hr.rd hS2).base (by intro e; rw [e] at hx; simp at hx)
  have hS := hS2
  by_cases hq : nameOk x
  ·have hc1 := fun w => Zxh x w
   rw [decide_eq_true hq] at hc1
   repeat (first|refine Yeg ?_|refine Yff ?_|refine Yek ?_|refine Yab ?_)
   refine Zb2 (first := []) (captured := []) rfl rfl rfl rfl rfl (hc1 _) ?_
   rintro _ w' ⟨rfl,hS'⟩
   replace hS := hS.plus hS'
   clear hS'
   repeat (first|refine Yeg ?_|refine Yel ?_|refine Ye8 ?_|refine Yeo ?_)
   refine Zaf (k + 1) ⟨rfl,rfl,rfl,rfl,trivial⟩ ⟨by omega,fun j hj y hy => ?_,hS⟩ (by omega)
   by_cases hjk : j = k
   ·subst hjk; rw [hx0] at hy; cases hy; exact hq
   ·exact hne j (by omega) y hy
  ·have hc1 := fun w => Zxh x w
   rw [decide_eq_false hq] at hc1
   repeat (first|refine Yeg ?_|refine Yff ?_|refine Yek ?_|refine Yab ?_)
   refine Zb2 (first := []) (captured := []) rfl rfl rfl rfl rfl (hc1 _) ?_
   rintro _ w' ⟨rfl,hS'⟩
   replace hS := hS.plus hS'
   clear hS'
   repeat (first|refine Yeg ?_|refine Yev ?_|refine Yey ?_|refine Ye2 ?_)
   exact ⟨⟨(k : Nat),rfl,⟨fun h => absurd h (by omega),fun h => absurd (h x (List.mem_of_getElem? hx0)) hq⟩⟩,hS⟩
 ·obtain rfl : k = p.length := by omega
  have hS := hS2
  repeat (first|refine Yeg ?_|refine Yag ?_|refine Yaz ?_|refine Yep ?_|refine Yfc ?_)
  refine ⟨⟨-1,rfl,⟨fun _ s hs => ?_,fun _ => by omega⟩⟩,hS⟩
  obtain ⟨j,hj,he⟩ := List.mem_iff_getElem.1 hs
  exact hne j hj s (by rw [List.getElem?_eq_getElem hj,he])
theorem Zxn (a : Option Addr) (p : List (List UInt8)) (c : Nat) (W : World) (hr : Rd W (row a (strV p))) (hl : p.length ≤ 1048576) :
  Calls Tryz.prog 123 #[.slice a p.length c] W (Ret fun v w => v = .bool (decide (Zcf p)) ∧ St W noF [] w) := by
 have hro := hr.ro
 have hS := St.start W
 by_cases h8 : p.length ≤ 8
 ·have hcf : ∀ W,Rd W (row a (strV p)) → Calls Tryz.prog 54 #[.slice a p.length c,.func (.func 182) #[] #[]] W (Ret fun v w => v = .bool (!decide (Zcf p)) ∧ St W noF [] w) := by
   intro W hr
   have hS := St.start W
   refine Zab Tryz.func54 rfl Tryz.ntmps54 rfl ?_
   repeat (first|refine Yeg ?_|refine Yev ?_|refine Yeh ?_|refine Yab ?_)
   refine Zaa _ rfl rfl rfl rfl rfl (Z1m a p c _ hr hl) ?_
   rintro _ w ⟨⟨z,rfl,hz⟩,hS'⟩
   replace hS := hS.plus hS'
   clear hS'
   by_cases h : z < 0
   ·repeat (first|refine Yeg ?_|refine Yag ?_|refine Yb4 ?_|refine Yah ?_|refine Yei ?_)
    have : Zcf p := ⟨h8,hz.1 h⟩
    exact ⟨by simp [this],hS⟩
   ·repeat (first|refine Yeg ?_|refine Yag ?_|refine Yb2 ?_|refine Yah ?_|refine Yei ?_)
    have : ¬ Zcf p := fun q => h (hz.2 q.2)
    exact ⟨by simp [this],hS⟩
  refine Zab Tryz.func123 rfl Tryz.ntmps123 rfl ?_
  repeat (first|refine Yex ?_|(refine X_id ?_;first|(refine Zad 54 rfl rfl rfl rfl rfl hS (hcf _ (hro.rd hS)) ?_;rintro _ _ rfl hS)|refine Yaf ?_|refine Yag ?_|refine Ybe ?_|refine X_yl (Zoy rfl rfl) rfl rfl ?_|refine Yau ?_|refine Ydg ?_)|refine Yeu ?_|refine Yei ?_)
  refine ⟨by simp,hS⟩
 ·have : ¬ Zcf p := fun q => h8 q.1
  refine Zab Tryz.func123 rfl Tryz.ntmps123 rfl ?_
  repeat (first|refine Ye0 ?_|(refine X_id ?_;first|refine Yaf ?_|refine Yag ?_|refine Ya9 ?_|refine Yau ?_|refine Yd2 ?_)|refine Yeu ?_|refine Yei ?_)
  exact ⟨by simp [this],hS⟩
end Cr
