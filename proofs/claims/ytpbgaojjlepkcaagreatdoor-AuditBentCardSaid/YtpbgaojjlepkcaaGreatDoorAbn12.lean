/-
  Layer 8 (tree): a directory left; a free node; what is wrong with a node to be made.
  Layer 8 (tree): Make.
  Layer 8 (tree) in plain words,6: other bytes,a node taken out. No program is in sight.
  Layer 8 (tree): Put,Remove.
  Layer 9 (table): a table of a change; what stands at a path; a key's value.
  Layer 9 (table): the directories that are still to be made.
  Layer 9 (table): one more node of a value's way; what was made is taken away again.
  Layer 9 (table): what was made is taken away again.
  Layer 9 (table): Put.
-/
import Derived.Test.YtpbgaojjlepkcaaGreatDoorAbn11
import Derived.Test.YtpbgaojjlepkcaaGreatDoorAbn8
import Derived.Test.YtpbgaojjlepkcaaGreatDoorAbn3
namespace Cr
open Go Go.Proofs
set_option maxRecDepth 100000
set_option maxHeartbeats 64000000
attribute [local irreducible] Calls

def Ziw (n : Nat) (N : Int → Option Nd) : Option Nat := (List.range n).find? fun (i : Nat) => (N (i : Int)).isNone
theorem Zmp {n : Nat} {N : Int → Option Nd} (h : ∀ (j : Nat),j < n → N j ≠ none) : Ziw n N = none :=
 List.find?_eq_none.2 fun x hx => by simpa [Option.isNone_iff_eq_none] using h x (List.mem_range.1 hx)
theorem Zgn {n : Nat} {N : Int → Option Nd} {i : Nat} (hi : i < n) (h0 : N i = none) (h : ∀ (j : Nat),j < i → N j ≠ none) : Ziw n N = some i := by
 unfold Ziw
 rw [List.find?_eq_some_iff_getElem];refine ⟨by simp [h0],i,by simpa using hi,by simp,fun j hj => ?_⟩
 have := h j hj
 cases hN : N (j : Int) with
 | none => exact absurd hN this
 | some y => simp [hN]
def Zkt (nd : Nd) : Int := if (nd.st.kind ≠ 0 ∧ nd.st.kind ≠ 1 ∧ nd.st.kind ≠ 2) ∨ (nd.st.kind = 1 ∧ nd.data ≠ []) then 17 else if nd.st.check ≠ 0 then nd.st.check else if 512 < nd.data.length then 2 else 0
theorem Z62 (nd : Nd) (a : Option Addr) (q : Nat) (W : World) :
  Calls Tryz.prog 98 #[.agg (List.toArray [.int .i64 nd.st.kind,.int .i64 nd.st.mode,.int .i64 nd.st.owner,.int .i64 nd.st.group,.slice a nd.data.length q])] W (Ret fun v w => v = .int .i64 (Zkt nd) ∧ St W noF [] w) := by
 have hS := St.start W
 have hck := fun W => Zr3 nd.st W
 unfold StatM.val at hck
 obtain ⟨e,he⟩ : ∃ e,e = nd.st.check := ⟨_,rfl⟩
 unfold Zkt
 rw [← he] at hck ⊢;by_cases h1 : nd.st.kind = 1
 ·by_cases hd : nd.data.length = 0
  ·have hd' : nd.data = [] := List.eq_nil_of_length_eq_zero hd
   rw [if_neg (by rintro (⟨_,h,_⟩ | ⟨_,h⟩); exact h h1; exact h hd')];by_cases h0 : e = 0
   ·subst h0
    refine Zab Tryz.func98 rfl Tryz.ntmps98 rfl ?_
    repeat (first|refine Yeu ?_|(refine X_id ?_;first|(refine Zad 161 rfl rfl rfl rfl rfl hS (hck _) ?_;rintro _ _ rfl hS)|refine Yaf ?_|refine Yag ?_|refine Yan ?_|refine Ya8 ?_|refine Ya1 ?_|refine Yav ?_|refine Ybi ?_|refine Ybj ?_|refine Ya4 ?_|refine Ybs ?_|refine Yap ?_|refine Ybg ?_|refine Ya5 (fun _ _ hS _ => ?_))|refine Yfd ?_|refine Yab ?_|refine Yaw ?_|refine Yam ?_)
    exact ⟨by simp [hd'],hS.drops⟩
   ·rw [if_pos h0]
    refine Zab Tryz.func98 rfl Tryz.ntmps98 rfl ?_
    repeat (first|refine Yeu ?_|(refine X_id ?_;first|(refine Zad 161 rfl rfl rfl rfl rfl hS (hck _) ?_;rintro _ _ rfl hS)|refine Yaf ?_|refine Yag ?_|refine Yan ?_|refine Ya8 ?_|refine Ya1 ?_|refine Yav ?_|refine Ybi ?_|refine Ybj ?_|refine Ya4 ?_|refine Ybs ?_|refine Yap ?_|refine Ybg ?_|refine Ya5 (fun _ _ hS _ => ?_))|refine Yfc ?_|refine Yey ?_)
    exact ⟨rfl,hS.drops⟩
  ·rw [if_pos (.inr ⟨h1,fun e => hd (by rw [e]; rfl)⟩)]
   refine Zab Tryz.func98 rfl Tryz.ntmps98 rfl ?_
   repeat (first|refine Yeu ?_|(refine X_id ?_;first|refine Yaf ?_|refine Yag ?_|refine Yan ?_|refine Ya8 ?_|refine Ya1 ?_|refine Yav ?_|refine Ybi ?_|refine Ybj ?_|refine Ya4 ?_|refine Ybx ?_|refine Yap ?_|refine Ya5 (fun _ _ hS _ => ?_))|refine Yfb ?_|refine Yey ?_)
   exact ⟨rfl,hS.drops⟩
 ·by_cases h02 : nd.st.kind = 0 ∨ nd.st.kind = 2
  ·rw [if_neg (by rintro (⟨h,_,h'⟩ | ⟨h,_⟩); rcases h02 with q | q; exact h q; exact h' q; exact h1 h)]
   have hor : nd.st.kind ≠ 0 → nd.st.kind = 2 := fun h => h02.resolve_left h
   by_cases hk0 : nd.st.kind = 0
   case' neg => have hk2 := hor hk0
   all_goals
    by_cases h0 : e = 0
    ·subst h0
     by_cases h5 : 512 < nd.data.length
     ·refine Zab Tryz.func98 rfl Tryz.ntmps98 rfl ?_
      repeat (first|refine Yeu ?_|(refine X_id ?_;first|(refine Zad 161 rfl rfl rfl rfl rfl hS (hck _) ?_;rintro _ _ rfl hS)|refine Yaf ?_|refine Yag ?_|refine Yan ?_|refine Ya8 ?_|refine Ya1 ?_|refine Yav ?_|refine Ybh ?_|refine Ybj ?_|refine Ya4 ?_|refine Ybx ?_|refine Yap ?_|refine Ybg ?_|refine Ya5 (fun _ _ hS _ => ?_))|refine Yfc ?_|refine Yey ?_)
      exact ⟨by simp [h5],hS.drops⟩
     ·refine Zab Tryz.func98 rfl Tryz.ntmps98 rfl ?_
      repeat (first|refine Yeu ?_|(refine X_id ?_;first|(refine Zad 161 rfl rfl rfl rfl rfl hS (hck _) ?_;rintro _ _ rfl hS)|refine Yaf ?_|refine Yag ?_|refine Yan ?_|refine Ya8 ?_|refine Ya1 ?_|refine Yav ?_|refine Ybh ?_|refine Ybj ?_|refine Ya4 ?_|refine Ybs ?_|refine Yap ?_|refine Ybg ?_|refine Ya5 (fun _ _ hS _ => ?_))|refine Yfd ?_|refine Yab ?_|refine Yaw ?_|refine Yam ?_)
      exact ⟨by simp [h5],hS.drops⟩
    ·rw [if_pos h0]
     refine Zab Tryz.func98 rfl Tryz.ntmps98 rfl ?_
     repeat (first|refine Yeu ?_|(refine X_id ?_;first|(refine Zad 161 rfl rfl rfl rfl rfl hS (hck _) ?_;rintro _ _ rfl hS)|refine Yaf ?_|refine Yag ?_|refine Yan ?_|refine Ya8 ?_|refine Ya1 ?_|refine Ybh ?_|refine Ybj ?_|refine Ya4 ?_|refine Yap ?_|refine Ybg ?_|refine Ya5 (fun _ _ hS _ => ?_))|refine Yfc ?_|refine Yey ?_)
     exact ⟨rfl,hS.drops⟩
  ·have hk0 : ¬ nd.st.kind = 0 := fun h => h02 (.inl h)
   have hk2 : ¬ nd.st.kind = 2 := fun h => h02 (.inr h)
   rw [if_pos (.inl ⟨hk0,h1,hk2⟩)];refine Zab Tryz.func98 rfl Tryz.ntmps98 rfl ?_
   repeat (first|refine Yac ?_|refine Yaa ?_|refine Yax ?_|refine Ybf ?_|refine Yc6 ?_|(refine X_id ?_;first|refine Yaf ?_|refine Yag ?_|refine Yan ?_|refine Ya8 ?_|refine Ybj ?_|refine Yap ?_|refine Ya5 (fun _ _ hS _ => ?_))|refine Yfb ?_|refine Yey ?_)
   exact ⟨rfl,hS.drops⟩
section
variable {c f tp n : Nat} {b : Int} {T N : Int → Option Nd} {X : List RowD}
theorem Z5x (hn : n ≤ 1048576) (W : World) (F : Nat → Prop) (hT : TreeRo W F f tp n b T) (hS : St W F [chR c f b T N X] W) :
  Calls Tryz.prog 101 #[.pointer (some ⟨c,0,none⟩)] W (Ret fun v w => ∃ X',(∀ x ∈ X,x ∈ X') ∧ St W F [chR c f b T N X'] w ∧ v = match Ziw n N with
   | some i => .tuple #[.int .i64 (i : Nat),.bool true]
   | none => .tuple #[.int .i64 0,.bool false]) := by
 obtain ⟨P,D,pm,dm,hq,hS⟩ := hS.openCh
 have hc := hT.blk
 refine Zab Tryz.func101 rfl Tryz.ntmps101 rfl ?_
 repeat (first|refine Yea ?_|(refine X_id ?_;first|refine Yaf ?_|refine Yag ?_|refine Yau ?_|refine Yan ?_|refine Yap ?_|refine Yca ?_)|refine Yeb ?_|refine Yab ?_)
 refine Zaa _ rfl rfl rfl rfl rfl (hT.tab.nodes _ (fun r h => h.rd hS)) ?_
 rintro _ _ ⟨rfl,rfl⟩
 replace hS := hS.shutCh hq
 clear hc;repeat (first|refine Yea ?_|refine Yaf ?_|refine Yal ?_|refine Yab ?_)
 refine Zal (α := Nat) (fun i => [(0,.pointer (some ⟨c,0,none⟩)),(14,.int .i64 (n : Nat)),(15,.int .i64 (i : Nat))])
  (fun i w => i ≤ n ∧ (∀ j : Nat,j < i → N j ≠ none) ∧ ∃ X',(∀ x ∈ X,x ∈ X') ∧ St W F [chR c f b T N X'] w) (fun i => n - i) 0 ⟨rfl,rfl,rfl,trivial⟩ ⟨Nat.zero_le _,fun j hj => absurd hj (by omega),X,fun _ h => h,hS⟩ ?_
 clear hS;rintro i w ⟨hi,hne,X',hX',hS⟩
 by_cases hlt : i < n
 ·repeat (first|refine Yea ?_|refine Yaf ?_|refine Yag ?_|refine Ya2 ?_|refine Yee ?_|refine Yab ?_)
  obtain ⟨_,hc,_,hw,hbk⟩ := hS.call [true]
  refine Zaa _ rfl rfl rfl rfl rfl (Z2y (i : Nat) _ _ (hT.mono hw) hc) ?_
  rintro v w ⟨X2,hX2,hS,nd,a',q',rfl,hy⟩
  replace hS := hbk hS
  clear hbk hw hc;cases hN : N (i : Int) with
  | none =>
   simp only [Option.isSome_none]
   rw [Zgn hlt hN hne];repeat (first|refine Yea ?_|(refine X_id ?_;first|refine Yaf ?_|refine Yag ?_|refine Yat ?_|refine Ybq ?_|refine Yao (fun _ hS _ => ?_)|refine Yar (fun _ _ hS _ => ?_))|refine Yek ?_|refine Yfh ?_)
   exact ⟨X2,fun x hx => hX2 x (hX' x hx),hS.took,rfl⟩
  | some y =>
   simp only [Option.isSome_some]
   repeat (first|refine Yea ?_|(refine X_id ?_;first|refine Yaf ?_|refine Yag ?_|refine Yat ?_|refine Ybd ?_|refine Ya0 ?_|refine Yao (fun _ hS _ => ?_)|refine Yar (fun _ _ hS _ => ?_))|refine Yem ?_|refine Yei ?_)
   exact Zaf (i + 1) ⟨rfl,rfl,rfl,trivial⟩ ⟨hlt,fun j hj => by
    by_cases hji : j = i
    ·subst hji; rw [hN]; simp
    ·exact hne j (by omega),X2,fun x hx => hX2 x (hX' x hx),hS.took⟩ (by omega)
 ·obtain rfl : i = n := by omega
  rw [Zmp hne];repeat (first|refine Yea ?_|refine Yag ?_|refine Ya6 ?_|refine Yej ?_|refine Yfm ?_)
  exact ⟨X',hX',hS,rfl⟩
theorem Z1g (no : Int) (nd : Nd) (a : Option Addr) (q : Nat) (nb : Option Addr) (l : List Nm) (nc : Nat) (s : List UInt8) (W : World) (F : Nat → Prop) (hG : Lg W F) (hl : RX X nb (nmV l)) (hok : NmOk l) (hS : St W F [chR c f b T N X] W) :
  Calls Tryz.prog 107 #[.pointer (some ⟨c,0,none⟩),.agg (List.toArray [.int .i64 no,.int .i64 nd.st.kind,.int .i64 nd.st.mode,.int .i64 nd.st.owner,.int .i64 nd.st.group,.slice a nd.data.length q]),.slice nb l.length nc,.string (str s)] W (Ret fun v w =>
   v = .tuple #[] ∧ ∃ X',(∀ x ∈ X,x ∈ X') ∧ St W F [chR c f b T (fun k => if k = no then some ⟨nd.st,wrD (rmN s l)⟩ else N k) X'] w) := by
 have hok2 : NmOk (rmN s l) := Z4n hok
 have hll := hok.1
 refine Zab Tryz.func107 rfl Tryz.ntmps107 rfl ?_
 repeat (first|refine Yea ?_|refine Yaf ?_|refine Ya5 (fun _ _ hS _ => ?_)|refine Yeb ?_|refine Yab ?_)
 refine Zaa _ rfl rfl rfl rfl rfl (Zww nb l nc _ (hl.rd (hS.rd (r := chR c f b T N X) (by simp)).ch) (by omega)) ?_
 rintro _ w ⟨a',c',rfl,hc',hS'⟩
 replace hS := hS.plus hS';clear hS';repeat (first|refine Yaa ?_|refine Ycg ?_)
 obtain ⟨_,hc,hr,hw,hbk⟩ := hS.call [true,false,false,false]
 refine Zaa _ rfl rfl rfl rfl rfl (Zxp a' c' l _ s _ _ _ _ hc' (by omega) (hr _ (List.mem_cons_self ..)) hc) ?_
 rintro _ w ⟨a2,c2,rfl,hc2,hS⟩
 replace hS := hbk hS
 clear hbk hw hc hr;generalize rmN s l = l2 at hS hok2 hc2 ⊢;repeat (first|refine Yea ?_|refine Yag ?_|refine Yab ?_)
 refine Zam (.s 0 (.s 1 (.s 2 (.s 3 (.s 4 (.s 5 (.s 6 (.h 7 (.s 8 (.h 9 .nil .no)) .no)))))))) mixed (by kernel_rfl) rfl ?_
 have hS := hS.drew
 repeat (first|(refine Zae ?_;first|refine Ya3 ?_|refine Ybe ?_|refine Yc9 ?_|refine Ybk ?_|refine Yb1 ?_|refine Yas ?_))
 refine Zaa _ rfl rfl rfl rfl rfl (Zkd a2 l2 c2 _ (hS.rd (List.mem_cons_self ..)).own_row.ro hok2 (hG.at_ hS)) ?_
 rintro _ w ⟨b3,q3,rfl,hq3,hS'⟩
 replace hS := hS.plus hS';clear hS';have hwl := Zrg hok2
 repeat (first|(refine Zae ?_;first|refine Yb8 ?_|refine Yas ?_)|(refine Zac ?_;first|refine Yaz ?_))
 obtain ⟨_,hc,hr,hw,hbk⟩ := hS.call [false,false,false,false,true]
 refine Zaa _ rfl rfl rfl rfl rfl (set_ no ⟨nd.st,wrD l2⟩ b3 q3 _ _ (.inl (hr _ (List.mem_cons_self ..)).own_row) (by simp only; omega) hc) ?_
 rintro _ w ⟨rfl,X',hX',hS⟩
 replace hS := hbk hS
 clear hbk hw hc hr;repeat (first|refine Ybt ?_|(refine Zae ?_;first|refine Yay ?_)|(refine Zac ?_;first|refine Yaz ?_))
 exact ⟨rfl,X',hX',hS.took⟩
end
def Zdx (n : Nat) (t : Tn) (nd : Nd) (p : List (List UInt8)) : Int × Tn :=
 if ¬ Zcd p ∨ p = [] then (10,t) else
 if Zkt nd ≠ 0 then (Zkt nd,t) else
 match Zfl t p with
 | .error e => (e,t)
 | .ok x => if (kidT x.2 x.1.kids).isSome = true then (8,t) else
  match Ziw n (Nt t) with
  | none => (6,t)
  | some i => if 512 < (wrD (insN (x.2,(i : Int)) x.1.names)).length then (6,t) else (0,updT p.dropLast (addF (.mk x.2 i nd.st nd.data [])) t)
theorem Zjs {t u : Tn} {p : List (List UInt8)} {s : List UInt8} (h : Zfl t p = .ok (u,s)) : Zcd p ∧ goT t p.dropLast = .ok u ∧ u.st.kind = 1 ∧ p = p.dropLast ++ [s] ∧ nameOk s := by
 unfold Zfl at h
 split at h
 ·rename_i hr
  split at h
  ·cases h
  ·rename_i s' hs'
   split at h
   ·cases h
   ·rename_i u' hu'
    split at h
    ·rename_i hk
     simp only [Except.ok.injEq,Prod.mk.injEq] at h
     obtain ⟨rfl,rfl⟩ := h
     have hne : p ≠ [] := fun e => by rw [e] at hs'; cases hs'
     have hp : p = p.dropLast ++ [s'] := by
      have := List.dropLast_concat_getLast hne
      rw [List.getLast?_eq_some_getLast hne] at hs';injection hs' with hs'
      rw [hs'] at this; exact this.symm
     exact ⟨hr,hu',hk,hp,hr.2 s' (List.mem_of_getLast? hs')⟩
    ·cases h
 ·cases h
theorem Zmo {n i : Nat} {N : Int → Option Nd} (h : Ziw n N = some i) : i < n ∧ N i = none := by
 unfold Ziw at h
 have h1 := List.mem_of_find?_eq_some h
 have h2 := List.find?_some h
 exact ⟨List.mem_range.1 h1,by simpa [Option.isNone_iff_eq_none] using h2⟩
theorem Zmg {nd : Nd} (h : Zkt nd = 0) : (nd.st.kind = 0 ∨ nd.st.kind = 1 ∨ nd.st.kind = 2) ∧ (nd.st.kind = 1 → nd.data = []) ∧ nd.st.check = 0 ∧ nd.data.length ≤ 512 := by
 unfold Zkt at h
 split at h
 ·cases h
 ·rename_i h1
  split at h
  ·exact absurd h (by assumption)
  ·rename_i h2
   split at h
   ·cases h
   ·rename_i h3
    refine ⟨?_,fun q => Decidable.byContradiction fun q2 => h1 (.inr ⟨q,q2⟩),Decidable.not_not.1 h2,by omega⟩
    have := fun q => h1 (.inl q)
    omega
theorem kidT_ix {u : Tn} {s : List UInt8} : 0 ≤ ixN s u.names ↔ (kidT s u.kids).isSome = true := by
 have hf := Zmf u s
 rcases Zh0 (s := s) (l := u.names) with ⟨h1,h2⟩ | ⟨k,x,h1,_,h3⟩
 ·rw [h2] at hf
  have : kidT s u.kids = none := by cases hq : kidT s u.kids with | none => rfl | some y => rw [hq] at hf; cases hf
  rw [this]; simp; omega
 ·rw [h3] at hf
  have : (kidT s u.kids).isSome = true := by cases hq : kidT s u.kids with | none => rw [hq] at hf; cases hf | some y => rfl
  rw [this]; simp; omega
theorem Zrf : wrD [] = [40,41] := by simp [wrD,dirM,Zbl,Zaz]
theorem Z42 {n i : Nat} {nd : Nd} {s : List UInt8} (hm : Zkt nd = 0) (hi : i < n) : TnOk n (.mk s i nd.st nd.data []) := by
 obtain ⟨h1,h2,h3,h4⟩ := Zmg hm
 refine ⟨h3,⟨Int.natCast_nonneg i,by show (i : Int) < n; omega⟩,fun q => ⟨h2 q,?_⟩,List.Pairwise.nil,fun _ h => (by cases h),fun _ => ⟨rfl,h4⟩⟩
 show (wrD []).length ≤ 512
 rw [Zrf]; decide
section
variable {n : Nat} {t : Tn}
theorem Ztp (ht : TreeOk n t) (nd : Nd) (p : List (List UInt8)) : TreeOk n (Zdx n t nd p).2 := by
 unfold Zdx
 split
 ·exact ht
 ·split
  ·exact ht
  ·rename_i hm
   replace hm := Decidable.not_not.1 hm
   cases hl : Zfl t p with
   | error e => exact ht
   | ok x =>
    obtain ⟨u,s⟩ := x
    obtain ⟨hr,hg,hu,hp,hs⟩ := Zjs hl
    simp only
    split
    ·exact ht
    ·rename_i hkid
     have hkid' : kidT s u.kids = none := by cases hq : kidT s u.kids with | none => rfl | some y => rw [hq] at hkid; exact absurd rfl hkid
     cases hf : Ziw n (Nt t) with
     | none => exact ht
     | some i =>
      obtain ⟨hi,hnew⟩ := Zmo hf
      simp only
      split
      ·exact ht
      ·rename_i h5
       have hpl : p.dropLast.length < 8 := by
        have h8 := hr.1
        have := congrArg List.length hp
        rw [List.length_append,List.length_singleton] at this; omega
       exact Z57 ht hg hu rfl (Z42 hm hi) hnew hs hkid' (by simp only [Tn.nm,Tn.no] at h5 ⊢; omega) hpl
end
section
variable {c f tp n : Nat} {b : Int} {T : Int → Option Nd} {t : Tn} {X : List RowD}
theorem Z5t (ht : TreeOk n t) (nd : Nd) (a : Option Addr) (q : Nat) (pa : Option Addr) (p : List (List UInt8)) (pc : Nat) (W : World) (F : Nat → Prop) (hT : TreeRo W F f tp n b T) (hG : Lg W F) (ha : Ro W F (bytes a nd.data)) (hp : Ro W F (row pa (strV p))) (hpc : p.length ≤ pc) (hpl : p.length ≤ 1048576) (hS : St W F [chR c f b T (Nt t) X] W) :
  Calls Tryz.prog 51 #[.pointer (some ⟨c,0,none⟩),.agg (List.toArray [.int .i64 nd.st.kind,.int .i64 nd.st.mode,.int .i64 nd.st.owner,.int .i64 nd.st.group,.slice a nd.data.length q]),.slice pa p.length pc] W (Ret fun v w => ∃ X',(∀ x ∈ X,x ∈ X') ∧ v = .int .i64 (Zdx n t nd p).1 ∧ St W F [chR c f b T (Nt (Zdx n t nd p).2) X'] w) := by
 unfold Zdx
 refine Zab Tryz.func51 rfl Tryz.ntmps51 rfl ?_
 repeat (first|refine Yea ?_|refine Yaf ?_|refine Yag ?_|refine Ybu ?_|refine Ya5 (fun _ _ hS _ => ?_)|refine Yem ?_|refine Yab ?_)
 refine Zaa _ rfl rfl rfl rfl rfl (Z07 pa p pc _ (hp.rd hS) hpc hpl) ?_
 rintro _ w (⟨hr,q0,s0,a',c',hpq,rfl,hc',hS'⟩ | ⟨hbad,rfl,hS'⟩)
 case inr =>
  replace hS := hS.plus hS';clear hS';rw [if_pos hbad];repeat (first|refine Yea ?_|refine Yfg ?_|refine Yek ?_|refine Yel ?_)
  exact ⟨X,fun _ h => h,rfl,hS.took⟩
 replace hS := hS.plus hS';clear hS';rw [if_neg (by rintro (h | h); exact h hr; rw [h] at hpq; simp at hpq)]
 obtain ⟨e,he⟩ : ∃ e,e = Zkt nd := ⟨_,rfl⟩
 have hmd := fun W => Z62 nd a q W
 rw [← he] at hmd ⊢;by_cases h0 : e = 0
 case neg =>
  rw [if_pos h0];repeat (first|refine Yea ?_|(refine X_id ?_;first|(refine Zad 98 rfl rfl rfl rfl rfl hS (hmd _) ?_;rintro _ _ rfl hS)|refine Yaf ?_|refine Yag ?_|refine Yat ?_|refine Ybj ?_|refine Ya4 ?_|refine Ybg ?_)|refine Yez ?_|refine Yel ?_)
  exact ⟨X,fun _ h => h,rfl,hS.took⟩
 subst h0
 rw [if_neg (by simp)];obtain ⟨hmk,hmd1,hmc,hm5⟩ := Zmg he.symm
 repeat (first|refine Yea ?_|(refine X_id ?_;first|(refine Zad 98 rfl rfl rfl rfl rfl hS (hmd _) ?_;rintro _ _ rfl hS)|refine Yfp ?_)|refine Yem ?_|refine Yab ?_)
 obtain ⟨_,hc,_,hw,hbk⟩ := hS.call [false,false,true]
 refine Zaa _ rfl rfl rfl rfl rfl (Z46 ht pa p pc _ _ (hT.mono hw) (hG.mono hw) (hw _ hp) hpc hpl hc) ?_
 rintro v w ⟨X1,hX1,hS,hv⟩
 replace hS := hbk hS
 clear hbk hw hc;cases hl : Zfl t p with
 | error e =>
  rw [hl] at hv;obtain ⟨he0,no',nd',a',q',b',m',k',s',rfl⟩ := hv
  simp only
  repeat (first|refine Yea ?_|refine Yfg ?_|refine Yao (fun _ hS _ => ?_)|refine Yar (fun _ _ hS _ => ?_)|refine Yfb ?_|refine Yey ?_)
  exact ⟨X1,hX1,rfl,hS.took⟩
 | ok x =>
  obtain ⟨u,s⟩ := x
  rw [hl] at hv;obtain ⟨a2,q2,nb,nc,rfl,hq2,hrow,hnrow⟩ := hv
  obtain ⟨_,hg,hk,hpd,hs⟩ := Zjs hl
  have hu := Zc4 hg
  have hnok := (ht.rd hu hk).1
  have hn5 := ((ht.node u hu).dir hk).2
  have hnl : u.names.length ≤ 1023 := by
   have hge := Zjz (m := 7) (l := u.names.map Zfa) fun x hx => by
    obtain ⟨y,_,rfl⟩ := List.mem_map.1 hx
    exact Zk7 y 6
   rw [wrD,dirM,Zbl] at hn5;simp only [List.length_map,List.length_cons,List.length_append,List.length_nil] at hge hn5
   omega
  simp only at hq2 hrow hnrow ⊢
  repeat (first|refine Yea ?_|refine Yff ?_|refine Yao (fun _ hS _ => ?_)|refine Yar (fun _ _ hS _ => ?_)|refine Ye7 ?_|refine Yab ?_)
  refine Zaa _ rfl rfl rfl rfl rfl (Z5j nb u.names nc s _ (hnrow.rd (hS.rd (r := chR c f b T (Nt t) X1) (by simp)).ch) (by omega)) ?_
  rintro _ w ⟨rfl,hS'⟩
  replace hS := hS.plus hS';clear hS';by_cases hix : 0 ≤ ixN s u.names
  ·rw [if_pos (kidT_ix.1 hix)]
   repeat (first|refine Yea ?_|refine Yag ?_|refine Yb9 ?_|refine Yek ?_|refine Yey ?_)
   exact ⟨X1,hX1,rfl,hS.took⟩
  have hix' : ixN s u.names < 0 := by omega
  rw [if_neg (fun h => hix (kidT_ix.2 h))];have hkid : kidT s u.kids = none := by
   cases hq : kidT s u.kids with
   | none => rfl
   | some y => exact absurd (kidT_ix.2 (by rw [hq]; rfl)) hix
  repeat (first|refine Yea ?_|refine Yaf ?_|refine Yag ?_|refine Yce ?_|refine Yem ?_|refine Yei ?_)
  obtain ⟨_,hc,_,hw,hbk⟩ := hS.call [false,true]
  refine Zaa _ rfl rfl rfl rfl rfl (Z5x (by have := ht.small; omega) _ _ (hT.mono hw) hc) ?_
  rintro v w ⟨X2,hX2,hS,hv⟩
  replace hS := hbk hS
  clear hbk hw hc;subst hv
  cases hf : Ziw n (Nt t) with
  | none =>
   simp only
   repeat (first|refine Yep ?_|(refine X_id ?_;first|refine Yaf ?_|refine Yag ?_|refine Yat ?_|refine Ya8 ?_|refine Ybq ?_)|refine Yek ?_|refine Yel ?_)
   exact ⟨X2,fun x hx => hX2 x (hX1 x hx),rfl,hS.took⟩
  | some i =>
   obtain ⟨hi,hnew⟩ := Zmo hf
   have hsl : s.length ≤ 64 := by have := hs.2.1; omega
   simp only
   repeat (first|refine Yer ?_|(refine X_id ?_;first|refine Yaf ?_|refine Yag ?_|refine Yat ?_|refine Ybd ?_|refine Ybg ?_)|refine Yeb ?_|refine Yab ?_)
   obtain ⟨_,hc,_,hw,hbk⟩ := hS.call [true]
   refine Zaa _ rfl rfl rfl rfl rfl (Z5l u.no u.nd a2 q2 nb u.names nc s (i : Nat) _ _ (hG.mono hw) (hnrow.sub hX2) hnok (by omega) ⟨hsl,by omega,by have := ht.small; omega⟩ (Zu5 (ht.node u hu)) hc) ?_
   rintro v w ⟨X3,hX3,(⟨h5,rfl,hS⟩ | ⟨h5,rfl,hS⟩)⟩
   ·replace hS := hbk hS
    clear hbk hw hc;rw [if_pos h5];repeat (first|refine Yer ?_|refine Yag ?_|refine Ya1 ?_|refine Ybq ?_|refine Yek ?_|refine Yel ?_)
    exact ⟨X3,fun x hx => hX3 x (hX2 x (hX1 x hx)),rfl,hS.took⟩
   ·replace hS := hbk hS
    clear hbk hw hc;rw [if_neg (by omega)];have hNt : (fun k => if k = (i : Int) then some (Tn.mk s i nd.st nd.data []).nd else if k = u.no then some (⟨u.nd.st,wrD (insN (s,(i : Int)) u.names)⟩ : Nd) else Nt t k) = Nt (updT p.dropLast (addF (.mk s i nd.st nd.data [])) t) := by
     funext x
     rw [Z6i (k := .mk s i nd.st nd.data []) ht hg rfl hnew,Z3t hk]
     rfl
    by_cases hdir : nd.st.kind = 1
    ·have hknd : (Tn.mk s i nd.st nd.data []).nd = ⟨nd.st,wrD []⟩ := by
      show (⟨nd.st,if nd.st.kind = 1 then wrD [] else nd.data⟩ : Nd) = _
      rw [if_pos hdir]
     rw [hknd] at hNt;repeat (first|refine Yer ?_|(refine X_id ?_;first|refine Yan ?_|refine Ya1 ?_|refine Ybd ?_|refine Ybi ?_|refine Yap ?_)|refine Yfq ?_|refine Yab ?_)
     refine Zaa _ rfl rfl rfl rfl rfl (Zkd none [] 0 _ (Zfq _ _ _) ⟨by decide,fun _ h => (by cases h)⟩ (hG.at_ hS)) ?_
     rintro _ w ⟨b3,q3,rfl,hq3,hS'⟩
     replace hS := hS.plus hS';clear hS';repeat (first|refine Yea ?_|refine Yaf ?_|refine Yan ?_|refine Ybg ?_|refine Yao (fun _ hS _ => ?_)|refine Yeb ?_|refine Yab ?_)
     obtain ⟨_,hc,hr,hw,hbk⟩ := hS.call [false,true]
     refine Zaa _ rfl rfl rfl rfl rfl (set_ (i : Nat) ⟨nd.st,wrD []⟩ b3 q3 _ _ (.inl (hr _ (List.mem_cons_self ..)).own_row) (by simp only [Zrf]; decide) hc) ?_
     rintro _ w ⟨rfl,X4,hX4,hS⟩
     replace hS := hbk hS
     clear hbk hw hc hr;rw [hNt] at hS;repeat (first|refine Yea ?_|refine Yag ?_|refine Ye1 ?_|refine Yec ?_)
     exact ⟨X4,fun x hx => hX4 x (hX3 x (hX2 x (hX1 x hx))),rfl,hS.took⟩
    ·have hknd : (Tn.mk s i nd.st nd.data []).nd = nd := by
      show (⟨nd.st,if nd.st.kind = 1 then wrD [] else nd.data⟩ : Nd) = _
      rw [if_neg hdir]
     rw [hknd] at hNt;repeat (first|refine Yer ?_|(refine X_id ?_;first|refine Yaf ?_|refine Yan ?_|refine Ya1 ?_|refine Ybd ?_|refine Ybh ?_|refine Yap ?_|refine Ybg ?_)|refine Yem ?_|refine Yab ?_)
     obtain ⟨_,hc,_,hw,hbk⟩ := hS.call [true]
     refine Zaa _ rfl rfl rfl rfl rfl (set_ (i : Nat) nd a q _ _ (.inl (hw _ ha)) (by omega) hc) ?_
     rintro _ w ⟨rfl,X4,hX4,hS⟩
     replace hS := hbk hS
     clear hbk hw hc;rw [hNt] at hS;repeat (first|refine Yea ?_|refine Yag ?_|refine Ye1 ?_|refine Yec ?_)
     exact ⟨X4,fun x hx => hX4 x (hX3 x (hX2 x (hX1 x hx))),rfl,hS.took⟩
end
end Cr
namespace Cr
open Go
set_option maxHeartbeats 64000000

section
variable {n : Nat} {t u k : Tn} {p : List (List UInt8)} {s : List UInt8}
/-! ### one node otherwise -/
theorem Zpm {f : Tn → Tn} (ht : TreeOk n t) (hg : goT t p = .ok u) (hf : Zjo f u) (hk : (f u).kids = u.kids) : ∃ rest,(Zck t).Perm (ent u :: rest) ∧ (Zck (updT p f t)).Perm (ent (f u) :: rest) := by
 obtain ⟨r,h1,h2⟩ := Zjp hf ht.node hg
 rw [Zfn u] at h1;rw [Zfn (f u),hk] at h2;exact ⟨Zdc u.kids ++ r,h1,h2⟩
theorem Zl9 {f : Tn → Tn} (ht : TreeOk n t) (hg : goT t p = .ok u) (hf : Zjo f u) (hk : (f u).kids = u.kids) : ((Zck (updT p f t)).map (·.1)).Nodup := by
 obtain ⟨r,h1,h2⟩ := Zpm ht hg hf hk
 have k1 := (h1.map (fun x : Int × Nd => x.1)).nodup_iff.1 ht.nodup
 refine (h2.map (fun x : Int × Nd => x.1)).nodup_iff.2 ?_
 rw [List.map_cons] at k1 ⊢;rw [show (ent (f u)).1 = (ent u).1 from hf.2]; exact k1
theorem Z3y {f : Tn → Tn} (ht : TreeOk n t) (hg : goT t p = .ok u) (hf : Zjo f u) (hk : (f u).kids = u.kids) (no : Int) : Nt (updT p f t) no = if no = u.no then some (f u).nd else Nt t no := by
 obtain ⟨r,h1,h2⟩ := Zpm ht hg hf hk
 rw [Zi5 h2 (Zl9 ht hg hf hk),Zi5 h1 ht.nodup];simp only [Zei]
 show (if no = (f u).no then some (f u).nd else getA no r) = if no = u.no then some (f u).nd else if no = u.no then some u.nd else getA no r
 rw [hf.2];by_cases h : no = u.no <;> simp [h]
theorem Zpq {f : Tn → Tn} (ht : TreeOk n t) (hg : goT t p = .ok u) (hf : Zjo f u) (hk : (f u).st.kind = u.st.kind) : (updT p f t).no = 0 ∧ (updT p f t).st.kind = 1 := by
 have hr := ht.root
 refine ⟨(Zgg hf hg).2.trans hr.1,?_⟩
 cases p with
 | nil => rw [goT] at hg; injection hg with hg; subst hg; rw [updT,hk]; exact hr.2
 | cons s p =>
  obtain ⟨x,hs,hg'⟩ := Zgm hg
  obtain ⟨_,hn,l1,l2,he,h1,h2⟩ := Zd1 (ht.node t (Zev t)) hs
  rw [Zft (p := p) (f := f) he hn h1 h2]; exact hr.2
theorem Z2i {f : Tn → Tn} (ht : TreeOk n t) (hg : goT t p = .ok u) (hf : Zjo f u) (hk : (f u).kids = u.kids) (hst : (f u).st.kind = u.st.kind) (hok : TnOk n (f u)) : TreeOk n (updT p f t) := by
 refine ⟨Zs2 hf ht.node hg fun v hv => ?_,Zl9 ht hg hf hk,Zpq ht hg hf hst,?_,ht.small⟩
 ·rw [Zd8,hk] at hv
  rcases List.mem_cons.1 hv with rfl | hv
  ·exact hok
  ·exact ht.node v (Zd6 (Zc4 hg) (by rw [Zd8]; exact List.mem_cons_of_mem _ hv))
 ·have h1 := Znf hf ht.node hg
  have h2 := Zn7 hg
  have h3 : hgtT (f u) = hgtT u := by rw [Ze2,Ze2 u,hk]
  have := ht.high
  omega
theorem Z3h {d : List UInt8} (hu : u.st.kind ≠ 1) : (datF d u).nd = ⟨u.st,d⟩ := by
 show (⟨u.st,if u.st.kind = 1 then _ else d⟩ : Nd) = _
 rw [if_neg hu]
theorem Z5r {d : List UInt8} (ht : TreeOk n t) (hg : goT t p = .ok u) (hu : u.st.kind ≠ 1) (hd : d.length ≤ 512) : TreeOk n (updT p (datF d) t) := by
 have h0 := ht.node u (Zc4 hg)
 exact Z2i ht hg (Z1i d u) rfl rfl ⟨h0.chk,h0.low,fun q => absurd q hu,h0.rise,h0.nmk,fun q => ⟨(h0.leaf hu).1,hd⟩⟩
/-! ### one less -/
theorem Zzj {l1 l2 : List Tn} (hn : k.nm = s) (h1 : ∀ x ∈ l1,x.nm ≠ s) (h2 : ∀ x ∈ l2,x.nm ≠ s) : rmT s (l1 ++ k :: l2) = l1 ++ l2 := by
 unfold rmT
 rw [List.filter_append,List.filter_cons_of_neg (by simpa using hn),List.filter_eq_self.2 fun x hx => by simpa using h1 x hx,List.filter_eq_self.2 fun x hx => by simpa using h2 x hx]
theorem Zwj (ht : TreeOk n t) (hg : goT t p = .ok u) (hs : Zcz u s = .ok k) (hk : k.kids = []) : ∃ rest,(Zck t).Perm (ent k :: ent u :: rest) ∧ (Zck (updT p (rmF s) t)).Perm (ent (rmF s u) :: rest) := by
 obtain ⟨r,h1,h2⟩ := Zjp (Ztt s u) ht.node hg
 obtain ⟨_,hn,l1,l2,he,q1,q2⟩ := Zd1 (ht.node u (Zc4 hg)) hs
 have e1 : (rmF s u).kids = l1 ++ l2 := by show rmT s u.kids = _; rw [he]; exact Zzj hn q1 q2
 rw [Zfn u,he] at h1;rw [Zfn (rmF s u),e1] at h2;refine ⟨Zdc (l1 ++ l2) ++ r,h1.trans ?_,h2⟩
 have h3 : (Zdc (l1 ++ k :: l2)).Perm (ent k :: Zdc (l1 ++ l2)) := by
  have := Zmr (List.perm_middle (a := k) (l₁ := l1) (l₂ := l2))
  rwa [Zms,Zqj hk] at this
 exact ((h3.append_right r).cons (ent u)).trans (.swap _ _ _)
theorem Ztc (ht : TreeOk n t) (hg : goT t p = .ok u) (hs : Zcz u s = .ok k) (hk : k.kids = []) : ((Zck (updT p (rmF s) t)).map (·.1)).Nodup := by
 obtain ⟨r,h1,h2⟩ := Zwj ht hg hs hk
 have k1 := (h1.map (fun x : Int × Nd => x.1)).nodup_iff.1 ht.nodup
 refine (h2.map (fun x : Int × Nd => x.1)).nodup_iff.2 ?_
 exact (List.nodup_cons.1 k1).2
theorem Z7p (ht : TreeOk n t) (hg : goT t p = .ok u) (hs : Zcz u s = .ok k) (hk : k.kids = []) (no : Int) : Nt (updT p (rmF s) t) no = if no = k.no then none else if no = u.no then some (rmF s u).nd else Nt t no := by
 obtain ⟨r,h1,h2⟩ := Zwj ht hg hs hk
 have k1 := (h1.map (fun x : Int × Nd => x.1)).nodup_iff.1 ht.nodup
 have k2 : k.no ∉ u.no :: r.map (fun x : Int × Nd => x.1) := (List.nodup_cons.1 k1).1
 rw [Zi5 h2 (Ztc ht hg hs hk),Zi5 h1 ht.nodup];simp only [Zei]
 show (if no = u.no then some (rmF s u).nd else getA no r) = if no = k.no then none else if no = u.no then some (rmF s u).nd else if no = k.no then some k.nd else if no = u.no then some u.nd else getA no r
 by_cases h : no = k.no
 ·subst h
  have h3 : ¬ k.no = u.no := fun e => k2 (by rw [e]; exact List.mem_cons_self ..)
  have h4 : getA k.no r = none := getA_none.2 fun e => k2 (List.mem_cons_of_mem _ e)
  simp [h3,h4]
 ·by_cases h2 : no = u.no
  ·rw [if_pos h2,if_neg h,if_pos h2]
  ·rw [if_neg h2,if_neg h,if_neg h2,if_neg h,if_neg h2]
theorem Z4o (hu : u.st.kind = 1) : (rmF s u).nd = ⟨u.st,wrD (rmN s u.names)⟩ := by
 unfold Tn.nd
 show (⟨u.st,if u.st.kind = 1 then wrD ((rmT s u.kids).map fun k => (k.nm,k.no)) else u.data⟩ : Nd) = _
 rw [if_pos hu,Zpr]; rfl
theorem Zjf (q : Nm → Bool) : ∀ l : List Nm,(Zaz ((l.filter q).map Zfa)).length ≤ (Zaz (l.map Zfa)).length
 | [] => by simp
 | x :: l => by
  have ih := Zjf q l
  rw [List.map_cons,Zaz,List.length_append];by_cases h : q x = true
  ·rw [List.filter_cons_of_pos h,List.map_cons,Zaz,List.length_append]; omega
  ·rw [List.filter_cons_of_neg h]; omega
theorem Z37 (s : List UInt8) (l : List Nm) : (wrD (rmN s l)).length ≤ (wrD l).length := by
 have := Zjf (fun x => decide (x.1 ≠ s)) l
 unfold wrD dirM rmN
 rw [Zbl,Zbl];simp only [List.length_cons,List.length_append,List.length_nil]
 omega
theorem Z6v (ht : TreeOk n t) (hg : goT t p = .ok u) (hu : u.st.kind = 1) (hs : Zcz u s = .ok k) (hk : k.kids = []) : TreeOk n (updT p (rmF s) t) := by
 have h0 := ht.node u (Zc4 hg)
 have hsub : (rmT s u.kids).Sublist u.kids := List.filter_sublist
 refine ⟨Zs2 (Ztt s u) ht.node hg fun v hv => ?_,Ztc ht hg hs hk,Zpq ht hg (Ztt s u) rfl,?_,ht.small⟩
 ·rw [Zd8] at hv
  rcases List.mem_cons.1 hv with rfl | hv
  ·refine ⟨h0.chk,h0.low,fun q => ⟨(h0.dir hu).1,?_⟩,h0.rise.sublist hsub,fun x hx => h0.nmk x (hsub.subset hx),fun q => absurd hu q⟩
   have h1 : (rmF s u).names = rmN s u.names := Zpr s u.kids
   rw [h1];exact Nat.le_trans (Z37 s u.names) (h0.dir hu).2
  ·obtain ⟨x,hx,hv⟩ := mem_subL.1 (show v ∈ subL (rmT s u.kids) from hv)
   exact ht.node v (Zd6 (Zc4 hg) (Zfv (hsub.subset hx) hv))
 ·have h1 := Znf (Ztt s u) ht.node hg
  have h2 := Zn7 hg
  have h3 : hgtT (rmF s u) ≤ hgtT u := by
   rw [Ze2,Ze2 u];exact hgtL_le.2 fun x hx => Zju (hsub.subset (show x ∈ rmT s u.kids from hx))
  have := ht.high
  omega
end
end Cr
namespace Cr
open Go Go.Proofs
set_option maxRecDepth 100000
set_option maxHeartbeats 64000000
attribute [local irreducible] Calls

def Zrw (t : Tn) (data : List UInt8) (p : List (List UInt8)) : Int × Tn := match goR t p with
 | .error e => (e,t)
 | .ok x => if x.2.st.kind = 1 then (17,t) else if 512 < data.length then (2,t) else (0,updT p (datF data) t)
def Zuz (t : Tn) (p : List (List UInt8)) : Int × Tn := match Zfl t p with
 | .error e => (e,t)
 | .ok x => match Zcz x.1 x.2 with
  | .error e => (e,t)
  | .ok k => if k.kids ≠ [] then (15,t) else (0,updT p.dropLast (rmF x.2) t)
section
variable {n : Nat} {t : Tn}
theorem Zzt (ht : TreeOk n t) (data : List UInt8) (p : List (List UInt8)) : TreeOk n (Zrw t data p).2 := by
 unfold Zrw
 cases hg : goR t p with
 | error e => exact ht
 | ok x =>
  obtain ⟨_,u,hu,_,rfl⟩ := Zqd ht hg
  simp only
  split
  ·exact ht
  ·rename_i hk
   split
   ·exact ht
   ·exact Z5r ht hu hk (by omega)
theorem Zzm (ht : TreeOk n t) (p : List (List UInt8)) : TreeOk n (Zuz t p).2 := by
 unfold Zuz
 cases hl : Zfl t p with
 | error e => exact ht
 | ok x =>
  obtain ⟨u,s⟩ := x
  obtain ⟨_,hg,hu,_,_⟩ := Zjs hl
  simp only
  cases hs : Zcz u s with
  | error e => exact ht
  | ok k =>
   simp only
   split
   ·exact ht
   ·rename_i hk
    exact Z6v ht hg hu hs (Decidable.not_not.1 hk)
end
section
variable {c f tp n : Nat} {b : Int} {T : Int → Option Nd} {t : Tn} {X : List RowD}
theorem Z7f (ht : TreeOk n t) (data : List UInt8) (a : Option Addr) (q : Nat) (pa : Option Addr) (p : List (List UInt8)) (pc : Nat) (W : World) (F : Nat → Prop) (hT : TreeRo W F f tp n b T) (hG : Lg W F) (ha : Ro W F (bytes a data)) (hp : Ro W F (row pa (strV p))) (hpl : p.length ≤ 1048576) (hS : St W F [chR c f b T (Nt t) X] W) :
  Calls Tryz.prog 49 #[.pointer (some ⟨c,0,none⟩),.slice a data.length q,.slice pa p.length pc] W (Ret fun v w => ∃ X',(∀ x ∈ X,x ∈ X') ∧ v = .int .i64 (Zrw t data p).1 ∧ St W F [chR c f b T (Nt (Zrw t data p).2) X'] w) := by
 unfold Zrw
 refine Zab Tryz.func49 rfl Tryz.ntmps49 rfl ?_
 repeat (first|refine Yea ?_|refine Yen ?_|refine Yeb ?_|refine Yab ?_)
 obtain ⟨_,hc,_,hw,hbk⟩ := hS.call [true]
 refine Zaa _ rfl rfl rfl rfl rfl (Z0e ht pa p pc _ _ (hT.mono hw) (hG.mono hw) (hw _ hp) hpl hc) ?_
 rintro v w ⟨X',hX',hS,hv⟩
 replace hS := hbk hS
 clear hbk hw hc;cases hg : goR t p with
 | error e =>
  rw [hg] at hv;obtain ⟨rfl,he⟩ := hv
  simp only
  repeat (first|refine Yea ?_|refine Yfg ?_|refine Yao (fun _ hS _ => ?_)|refine Yar (fun _ _ hS _ => ?_)|refine Yfb ?_|refine Yey ?_)
  exact ⟨X',hX',rfl,hS.took⟩
 | ok x =>
  obtain ⟨_,u,hu,hum,rfl⟩ := Zqd ht hg
  rw [hg] at hv;obtain ⟨a2,q2,rfl,hq2,hrow⟩ := hv
  simp only at hq2 hrow ⊢
  by_cases hk : u.nd.st.kind = 1
  ·rw [if_pos hk]
   repeat (first|refine Yea ?_|(refine X_id ?_;first|refine Yaf ?_|refine Yag ?_|refine Yan ?_|refine Yby ?_|refine Yat ?_|refine Ybi ?_|refine Ya4 ?_|refine Yap ?_|refine Yao (fun _ hS _ => ?_)|refine Yar (fun _ _ hS _ => ?_))|refine Yfc ?_|refine Yey ?_)
   exact ⟨X',hX',rfl,hS.took⟩
  ·rw [if_neg hk]
   by_cases h5 : 512 < data.length
   ·rw [if_pos h5]
    repeat (first|refine Yea ?_|(refine X_id ?_;first|refine Yaf ?_|refine Yag ?_|refine Yan ?_|refine Yby ?_|refine Yat ?_|refine Yav ?_|refine Ybh ?_|refine Ya4 ?_|refine Ybx ?_|refine Yap ?_|refine Yao (fun _ hS _ => ?_)|refine Yar (fun _ _ hS _ => ?_))|refine Yfc ?_|refine Yey ?_)
    exact ⟨X',hX',rfl,hS.took⟩
   ·rw [if_neg h5]
    have hNt : (fun k => if k = u.no then some (⟨u.nd.st,data⟩ : Nd) else Nt t k) = Nt (updT p (datF data) t) := by
     funext y
     rw [Z3y ht hu (Z1i data u) rfl,Z3h hk]; rfl
    repeat (first|refine Yea ?_|(refine X_id ?_;first|refine Yaf ?_|refine Yag ?_|refine Yan ?_|refine Yby ?_|refine Yat ?_|refine Yav ?_|refine Ybh ?_|refine Ya4 ?_|refine Ybs ?_|refine Ybl ?_|refine Yap ?_|refine Ybg ?_|refine Yao (fun _ hS _ => ?_)|refine Yar (fun _ _ hS _ => ?_))|refine Ye4 ?_|refine Yei ?_)
    obtain ⟨_,hc,_,hw,hbk⟩ := hS.call [false,true]
    refine Zaa _ rfl rfl rfl rfl rfl (set_ u.no ⟨u.nd.st,data⟩ a q _ _ (.inl (hw _ ha)) (by simp only; omega) hc) ?_
    rintro _ w ⟨rfl,X4,hX4,hS⟩
    replace hS := hbk hS
    clear hbk hw hc;rw [hNt] at hS;repeat (first|refine Yea ?_|refine Yag ?_|refine Ye1 ?_|refine Yec ?_)
    exact ⟨X4,fun x hx => hX4 x (hX' x hx),rfl,hS.took⟩
theorem Z7e (ht : TreeOk n t) (pa : Option Addr) (p : List (List UInt8)) (pc : Nat) (W : World) (F : Nat → Prop) (hT : TreeRo W F f tp n b T) (hG : Lg W F) (hp : Ro W F (row pa (strV p))) (hpc : p.length ≤ pc) (hpl : p.length ≤ 1048576) (hS : St W F [chR c f b T (Nt t) X] W) :
  Calls Tryz.prog 55 #[.pointer (some ⟨c,0,none⟩),.slice pa p.length pc] W (Ret fun v w => ∃ X',(∀ x ∈ X,x ∈ X') ∧ v = .int .i64 (Zuz t p).1 ∧ St W F [chR c f b T (Nt (Zuz t p).2) X'] w) := by
 unfold Zuz
 refine Zab Tryz.func55 rfl Tryz.ntmps55 rfl ?_
 repeat (first|refine Yea ?_|refine Yen ?_|refine Yeb ?_|refine Yab ?_)
 obtain ⟨_,hc,_,hw,hbk⟩ := hS.call [true]
 refine Zaa _ rfl rfl rfl rfl rfl (Z46 ht pa p pc _ _ (hT.mono hw) (hG.mono hw) (hw _ hp) hpc hpl hc) ?_
 rintro v w ⟨X1,hX1,hS,hv⟩
 replace hS := hbk hS
 clear hbk hw hc;cases hl : Zfl t p with
 | error e =>
  rw [hl] at hv;obtain ⟨he0,no',nd',a',q',b',m',k',s',rfl⟩ := hv
  simp only
  repeat (first|refine Yea ?_|refine Yfg ?_|refine Yao (fun _ hS _ => ?_)|refine Yar (fun _ _ hS _ => ?_)|refine Yek ?_|refine Yel ?_)
  exact ⟨X1,hX1,rfl,hS.took⟩
 | ok x =>
  obtain ⟨u,s⟩ := x
  rw [hl] at hv;obtain ⟨a2,q2,nb,nc,rfl,hq2,hrow,hnrow⟩ := hv
  obtain ⟨_,hg,hk,hpd,hs⟩ := Zjs hl
  have hu := Zc4 hg
  have hnok := (ht.rd hu hk).1
  simp only at hq2 hrow hnrow ⊢
  repeat (first|refine Yea ?_|refine Yfp ?_|refine Yao (fun _ hS _ => ?_)|refine Yar (fun _ _ hS _ => ?_)|refine Yem ?_|refine Yab ?_)
  obtain ⟨_,hc,_,hw,hbk⟩ := hS.call [false,true]
  have hin := ht.into hu s
  refine Zaa _ rfl rfl rfl rfl rfl (Z49 u.no u.nd a2 q2 s _ _ (hT.mono hw) (hG.mono hw) hrow hq2 (ht.len hu) (by rw [hin]; cases hg : Zcz u s with | ok k => simp | error e => rcases Zqc hg with rfl | rfl <;> simp) hc) ?_
  rintro v w ⟨X2,hX2,hS,hv⟩
  replace hS := hbk hS
  clear hbk hw hc;rw [hin] at hv;cases hgs : Zcz u s with
  | error e =>
   rw [hgs] at hv;obtain ⟨rfl,he⟩ := hv
   simp only
   repeat (first|refine Yea ?_|refine Yfg ?_|refine Yao (fun _ hS _ => ?_)|refine Yar (fun _ _ hS _ => ?_)|refine Yek ?_|refine Yel ?_)
   exact ⟨X2,fun x hx => hX2 x (hX1 x hx),rfl,hS.took⟩
  | ok k =>
   rw [hgs] at hv;obtain ⟨a3,q3,rfl,hq3,hrow3⟩ := hv
   obtain ⟨_,hkk,hkn⟩ := Zjw hgs
   have hkm : k ∈ subT t := Zd6 hu (Zr2 hkk)
   simp only at hq3 hrow3 ⊢
   repeat (first|refine Yea ?_|refine Yfp ?_|refine Yao (fun _ hS _ => ?_)|refine Yar (fun _ _ hS _ => ?_)|refine Yem ?_|refine Yab ?_)
   refine Zaa _ rfl rfl rfl rfl rfl (Ztl k.no k.nd a3 q3 _ (hrow3.rd (hS.rd (r := chR c f b T (Nt t) X2) (by simp)).ch) hq3 (ht.len hkm) (hG.at_ hS)) ?_
   have hfin : ∀ (hk0 : k.kids = []),(fun x => if x = k.no then none else if x = u.no then some (⟨u.nd.st,wrD (rmN s u.names)⟩ : Nd) else Nt t x) = Nt (updT p.dropLast (rmF s) t) := fun hk0 => by
    funext x
    rw [Z7p ht hg hgs hk0,Z4o hk]; rfl
   rintro _ w (⟨hkd,nb3,nc3,rfl,hS'⟩ | ⟨hkd,rfl,hS'⟩)
   case inl =>
    replace hS := hS.plus hS';clear hS';have hkd' : k.st.kind = 1 := hkd
    rw [(ht.rd hkm hkd').2] at hS ⊢;by_cases h0 : k.kids = []
    ·have hnm0 : k.names.length = 0 := by unfold Tn.names; rw [h0]; rfl
     rw [hnm0,if_neg (by simp [h0])]
     repeat (first|refine Yer ?_|(refine X_id ?_;first|refine Yaf ?_|refine Yag ?_|refine Yat ?_|refine Ya8 ?_|refine Yav ?_|refine Ybi ?_|refine Ybs ?_|refine Ybg ?_)|refine Yem ?_|refine Yab ?_)
     obtain ⟨_,hc,_,hw,hbk⟩ := hS.call [false,false,true]
     refine Zaa _ rfl rfl rfl rfl rfl (Z1g u.no u.nd a2 q2 nb u.names nc s _ _ (hG.mono hw) (hnrow.sub hX2) hnok hc) ?_
     rintro _ w ⟨rfl,X3,hX3,hS⟩
     replace hS := hbk hS
     clear hbk hw hc;repeat (first|refine Yea ?_|refine Yaf ?_|refine Yan ?_|refine Yap ?_|refine Yeb ?_|refine Yab ?_)
     obtain ⟨_,hc,_,hw,hbk⟩ := hS.call [true]
     refine Zaa _ rfl rfl rfl rfl rfl (Z5d k.no _ _ hc) ?_
     rintro _ w ⟨rfl,hS⟩
     replace hS := hbk hS
     clear hbk hw hc;rw [hfin h0] at hS;repeat (first|refine Yea ?_|refine Yag ?_|refine Ye1 ?_|refine Yec ?_)
     exact ⟨X3,fun x hx => hX3 x (hX2 x (hX1 x hx)),rfl,hS.took⟩
    ·have hnm0 : 0 < k.names.length := by unfold Tn.names; rw [List.length_map]; exact List.length_pos_iff.2 h0
     rw [if_pos h0];repeat (first|refine Yer ?_|(refine X_id ?_;first|refine Yaf ?_|refine Yag ?_|refine Yat ?_|refine Ya8 ?_|refine Yav ?_|refine Ybi ?_|refine Ybx ?_)|refine Yek ?_|refine Yel ?_)
     exact ⟨X2,fun x hx => hX2 x (hX1 x hx),rfl,hS.took⟩
   case inr =>
    replace hS := hS.plus hS';clear hS';have h0 : k.kids = [] := ((ht.node k hkm).leaf hkd).1
    rw [if_neg (by simp [h0])]
    repeat (first|refine Yep ?_|(refine X_id ?_;first|refine Yaf ?_|refine Yag ?_|refine Yat ?_|refine Ya1 ?_|refine Ybh ?_|refine Ybg ?_)|refine Yem ?_|refine Yab ?_)
    obtain ⟨_,hc,_,hw,hbk⟩ := hS.call [false,true]
    refine Zaa _ rfl rfl rfl rfl rfl (Z1g u.no u.nd a2 q2 nb u.names nc s _ _ (hG.mono hw) (hnrow.sub hX2) hnok hc) ?_
    rintro _ w ⟨rfl,X3,hX3,hS⟩
    replace hS := hbk hS
    clear hbk hw hc;repeat (first|refine Yea ?_|refine Yaf ?_|refine Yan ?_|refine Yap ?_|refine Yeb ?_|refine Yab ?_)
    obtain ⟨_,hc,_,hw,hbk⟩ := hS.call [true]
    refine Zaa _ rfl rfl rfl rfl rfl (Z5d k.no _ _ hc) ?_
    rintro _ w ⟨rfl,hS⟩
    replace hS := hbk hS
    clear hbk hw hc;rw [hfin h0] at hS;repeat (first|refine Yea ?_|refine Yag ?_|refine Ye1 ?_|refine Yec ?_)
    exact ⟨X3,fun x hx => hX3 x (hX2 x (hX1 x hx)),rfl,hS.took⟩
end
def dbN : List UInt8 := [100,98]
def Zb5 (t : Tn) (p : List (List UInt8)) : Int := match getR t p with
 | .error _ => -1
 | .ok nd => nd.st.kind
def Zuq (t : Tn) (name key : List UInt8) : Except Int Mv :=
 if nameOk key then match getR t [dbN,name,key] with
  | .error _ => .error 7
  | .ok nd => if nd.st.kind = 0 then match decM nd.data with
   | some v => .ok v
   | none => .error 3
   else .error 3
 else .error 10
abbrev zMv : List Value := [.int .i64 0,.int .i64 0,.slice none 0 0,.slice none 0 0]
def Z3x (X : List RowD) (r : Except Int Mv) (v : Value) : Prop := match r with
 | .error e => e ≠ 0 ∧ v = .tuple #[.agg (List.toArray zMv),.int .i64 e]
 | .ok x => ∃ cs,v = .tuple #[.agg (List.toArray cs),.int .i64 0] ∧ Mrd (RX X) x cs
theorem Z0h {n : Nat} {t : Tn} (ht : TreeOk n t) {p : List (List UInt8)} {x : Nd} (h : getR t p = .ok x) : x.data.length ≤ 512 := by
 unfold getR at h
 cases hg : goR t p with
 | error e => rw [hg] at h; cases h
 | ok y =>
  rw [hg] at h;simp only [Except.ok.injEq] at h
  obtain ⟨_,u,_,hu,rfl⟩ := Zqd ht hg
  subst h
  have := ht.len hu
  show (if u.nd.st.kind = 1 then [] else u.nd.data).length ≤ 512
  split
  ·simp
  ·exact this
section
variable {c f tp n : Nat} {b : Int} {T : Int → Option Nd} {t : Tn} {X : List RowD}
theorem Zpi (ht : TreeOk n t) (pa : Option Addr) (p : List (List UInt8)) (pc : Nat) (W : World) (F : Nat → Prop) (hT : TreeRo W F f tp n b T) (hG : Lg W F) (hp : Ro W F (row pa (strV p))) (hpl : p.length ≤ 1048576) (hS : St W F [chR c f b T (Nt t) X] W) :
  Calls Tryz.prog 48 #[.pointer (some ⟨c,0,none⟩),.slice pa p.length pc] W (Ret fun v w => v = .int .i64 (Zb5 t p) ∧ ∃ X',(∀ x ∈ X,x ∈ X') ∧ St W F [chR c f b T (Nt t) X'] w) := by
 unfold Zb5
 refine Zab Tryz.func48 rfl Tryz.ntmps48 rfl ?_
 repeat (first|refine Yea ?_|refine Yen ?_|refine Yeb ?_|refine Yab ?_)
 obtain ⟨_,hc,_,hw,hbk⟩ := hS.call [true]
 refine Zaa _ rfl rfl rfl rfl rfl (get_ ht pa p pc _ _ (hT.mono hw) (hG.mono hw) (hw _ hp) hpl hc) ?_
 rintro v w ⟨X',hX',hS,hv⟩
 replace hS := hbk hS
 clear hbk hw hc;cases hg : getR t p with
 | error e =>
  rw [hg] at hv;obtain ⟨rfl,he⟩ := hv
  repeat (first|refine Yea ?_|refine Yfg ?_|refine Yao (fun _ hS _ => ?_)|refine Yar (fun _ _ hS _ => ?_)|refine Yek ?_|refine Yel ?_)
  exact ⟨rfl,X',hX',hS.took⟩
 | ok x =>
  rw [hg] at hv;obtain ⟨a',q',rfl,hq',hrow⟩ := hv
  repeat (first|refine Yea ?_|(refine X_id ?_;first|refine Yaf ?_|refine Yag ?_|refine Yan ?_|refine Yat ?_|refine Ya4 ?_|refine Yap ?_|refine Yao (fun _ hS _ => ?_)|refine Yar (fun _ _ hS _ => ?_))|refine Yfa ?_|refine Yec ?_)
  exact ⟨rfl,X',hX',hS.took⟩
theorem Z4c (ht : TreeOk n t) (tb : Nat) (name key : List UInt8) (W : World) (F : Nat → Prop) (hT : TreeRo W F f tp n b T) (hG : Lg W F) (htb : Ro W F (pts tb (.cells (List.toArray [.pointer (some ⟨c,0,none⟩),.string (str name)]) 107 (0,0)))) (hS : St W F [chR c f b T (Nt t) X] W) :
  Calls Tryz.prog 14 #[.pointer (some ⟨tb,0,none⟩),.string (str key)] W (Ret fun v w => ∃ X',(∀ x ∈ X,x ∈ X') ∧ St W F [chR c f b T (Nt t) X'] w ∧ Z3x X' (Zuq t name key) v) := by
 have hN := fun W => Zwy key W
 unfold Zuq
 have hc := htb
 by_cases hk : nameOk key
 case neg =>
  rw [if_neg hk];simp only [decide_eq_false hk] at hN
  refine Zab Tryz.func14 rfl Tryz.ntmps14 rfl ?_
  repeat (first|refine Yea ?_|(refine X_id ?_;first|(refine Zad 42 rfl rfl rfl rfl rfl hS (hN _) ?_;rintro _ _ rfl hS)|refine Yaf ?_|refine Yag ?_|refine Ybq ?_|refine Ybl ?_|refine Ybu ?_|refine Yao (fun _ hS _ => ?_)|refine Yar (fun _ _ hS _ => ?_))|refine Yfc ?_|refine Yfn ?_)
  exact ⟨X,fun _ h => h,hS.took,by decide,rfl⟩
 rw [if_pos hk];simp only [decide_eq_true hk] at hN
 clear hk;refine Zab Tryz.func14 rfl Tryz.ntmps14 rfl ?_
 repeat (first|refine Yea ?_|(refine X_id ?_;first|(refine Zad 42 rfl rfl rfl rfl rfl hS (hN _) ?_;rintro _ _ rfl hS)|refine Yaf ?_|refine Yag ?_|refine Ybd ?_|refine Ybu ?_|refine Yar (fun _ _ hS _ => ?_))|refine Ye4 ?_|refine Yei ?_)
 rename_i b4 _ _ _ _;refine Zre (α := Nat × Nd × Option Addr × Nat × Int) (fun z => [(4,.pointer (some ⟨b4,0,none⟩)),(6,.pointer (some ⟨z.1,0,none⟩)),(7,.int .i64 z.2.2.2.2)])
  (fun z w => ∃ X',(∀ x ∈ X,x ∈ X') ∧ St W F [chR c f b T (Nt t) X',pts z.1 (.cells (List.toArray [.int .i64 z.2.1.st.kind,.int .i64 z.2.1.st.mode,.int .i64 z.2.1.st.owner,.int .i64 z.2.1.st.group,.slice z.2.2.1 z.2.1.data.length z.2.2.2.1]) 123 (0,0)),pts b4 (.cells (List.toArray zMv) 38 (0,0))] w ∧
   match getR t [dbN,name,key] with
   | .error e => z.2.2.2.2 = e ∧ e ≠ 0
   | .ok x => z.2.2.2.2 = 0 ∧ z.2.1 = x ∧ x.data.length ≤ z.2.2.2.1 ∧ RX X' z.2.2.1 (bv x.data)) ?_ ?_
 ·skip
  refine Zam (.s 0 (.s 1 (.s 2 (.s 3 (.s 4 (.s 5 (.s 6 (.s 7 (.s 8 (.h 9 (.h 10 (.s 11 (.s 12 (.s 13 (.h 14 (.h 15 (.s 16 .nil) .no) .no)))) (.h 14 (.h 10 (.s 11 (.s 12 (.s 13 (.h 15 (.s 16 .nil) .no)))) .no) .no)) (.h 14 (.h 9 (.h 10 (.s 11 (.s 12 (.s 13 (.h 15 (.s 16 .nil) .no)))) .no) .no) .no))))))))))) mixed (by kernel_rfl) rfl ?_
  have hS := hS.drew
  repeat' (first|refine Zfg ?_ ?_|refine Yar (fun _ _ hS _ => ?_)|refine Ybn (fun _ _ hS _ => ?_)|(refine Zae ?_;first|refine Ya3 ?_|refine Ybr ?_|refine Ybe ?_|refine Yas ?_|refine Ycy ?_)|(refine Zac ?_;first|refine Yaz ?_))
  ·obtain ⟨_,hcc,hr1,hw,hbk⟩ := hS.call [false,false,true]
   refine Zaa _ rfl rfl rfl rfl rfl (get_ ht _ [dbN,name,key] _ _ _ (hT.mono hw) (hG.mono hw) (hr1 _ (List.mem_cons_self ..)).own_row (by simp) hcc) ?_
   rintro v w ⟨X',hX',hS,hv⟩
   replace hS := hbk hS
   clear hbk hw hcc hr1;cases hg : getR t [dbN,name,key] with
   | error e =>
    rw [hg] at hv;obtain ⟨rfl,he⟩ := hv
    repeat (first|refine Yao (fun _ hS _ => ?_)|refine Yar (fun _ _ hS _ => ?_)|(refine Zae ?_;first|refine Yay ?_|refine Ya3 ?_|refine Ybm ?_|refine Ycq ?_|refine Yas ?_)|(refine Zac ?_;first|refine Yaz ?_))
    exact Zbp ⟨_,⟨⟨0,0,0,0⟩,[]⟩,none,0,e⟩ ⟨rfl,rfl,rfl,trivial⟩ ⟨X',hX',hS.took,⟨rfl,he⟩⟩
   | ok x =>
    rw [hg] at hv;obtain ⟨a',q',rfl,hq',hrow⟩ := hv
    repeat (first|refine Yao (fun _ hS _ => ?_)|refine Yar (fun _ _ hS _ => ?_)|(refine Zae ?_;first|refine Yay ?_|refine Ya3 ?_|refine Ybm ?_|refine Ycq ?_|refine Yas ?_)|(refine Zac ?_;first|refine Yaz ?_))
    exact Zbp ⟨_,x,a',q',0⟩ ⟨rfl,rfl,rfl,trivial⟩ ⟨X',hX',hS.took,⟨rfl,rfl,hq',hrow⟩⟩
  ·obtain ⟨_,hcc,hr1,hw,hbk⟩ := hS.call [false,false,false,true]
   refine Zaa _ rfl rfl rfl rfl rfl (get_ ht _ [dbN,name,key] _ _ _ (hT.mono hw) (hG.mono hw) (hr1 _ (List.mem_cons_of_mem _ (List.mem_cons_self ..))).own_row (by simp) hcc) ?_
   rintro v w ⟨X',hX',hS,hv⟩
   replace hS := hbk hS
   clear hbk hw hcc hr1;cases hg : getR t [dbN,name,key] with
   | error e =>
    rw [hg] at hv;obtain ⟨rfl,he⟩ := hv
    repeat (first|refine Yao (fun _ hS _ => ?_)|(refine Zae ?_;first|refine Yay ?_|refine Ya3 ?_|refine Ybm ?_|refine Ycq ?_|refine Yas ?_)|(refine Zac ?_;first|refine Yaz ?_))
    exact Zbp ⟨_,⟨⟨0,0,0,0⟩,[]⟩,none,0,e⟩ ⟨rfl,rfl,rfl,trivial⟩ ⟨X',hX',hS.took,⟨rfl,he⟩⟩
   | ok x =>
    rw [hg] at hv;obtain ⟨a',q',rfl,hq',hrow⟩ := hv
    repeat (first|refine Yao (fun _ hS _ => ?_)|(refine Zae ?_;first|refine Yay ?_|refine Ya3 ?_|refine Ybm ?_|refine Ycq ?_|refine Yas ?_)|(refine Zac ?_;first|refine Yaz ?_))
    exact Zbp ⟨_,x,a',q',0⟩ ⟨rfl,rfl,rfl,trivial⟩ ⟨X',hX',hS.took,⟨rfl,rfl,hq',hrow⟩⟩
  ·obtain ⟨_,hcc,hr1,hw,hbk⟩ := hS.call [false,false,false,true]
   refine Zaa _ rfl rfl rfl rfl rfl (get_ ht _ [dbN,name,key] _ _ _ (hT.mono hw) (hG.mono hw) (hr1 _ (List.mem_cons_self ..)).own_row (by simp) hcc) ?_
   rintro v w ⟨X',hX',hS,hv⟩
   replace hS := hbk hS
   clear hbk hw hcc hr1;cases hg : getR t [dbN,name,key] with
   | error e =>
    rw [hg] at hv;obtain ⟨rfl,he⟩ := hv
    repeat (first|refine Yao (fun _ hS _ => ?_)|(refine Zae ?_;first|refine Yay ?_|refine Ya3 ?_|refine Ybm ?_|refine Ycq ?_|refine Yas ?_)|(refine Zac ?_;first|refine Yaz ?_))
    exact Zbp ⟨_,⟨⟨0,0,0,0⟩,[]⟩,none,0,e⟩ ⟨rfl,rfl,rfl,trivial⟩ ⟨X',hX',hS.took,⟨rfl,he⟩⟩
   | ok x =>
    rw [hg] at hv;obtain ⟨a',q',rfl,hq',hrow⟩ := hv
    repeat (first|refine Yao (fun _ hS _ => ?_)|(refine Zae ?_;first|refine Yay ?_|refine Ya3 ?_|refine Ybm ?_|refine Ycq ?_|refine Yas ?_)|(refine Zac ?_;first|refine Yaz ?_))
    exact Zbp ⟨_,x,a',q',0⟩ ⟨rfl,rfl,rfl,trivial⟩ ⟨X',hX',hS.took,⟨rfl,rfl,hq',hrow⟩⟩
 ·rintro ⟨b6,nd,na,nq,e⟩ w ⟨X',hX',hS,hr⟩
  simp only at hS hr
  cases hg : getR t [dbN,name,key] with
  | error e' =>
   rw [hg] at hr;obtain ⟨rfl,he⟩ := hr
   simp only
   repeat (first|refine Yea ?_|(refine X_id ?_;first|refine Yaf ?_|refine Yag ?_|refine Ybj ?_|refine Ybl ?_|refine Yao (fun _ hS _ => ?_))|refine Yfb ?_|refine Yfn ?_)
   exact ⟨X',hX',hS.took,by decide,rfl⟩
  | ok x =>
   rw [hg] at hr;obtain ⟨rfl,rfl,hq,hrow⟩ := hr
   have hlen := Z0h ht hg
   simp only
   by_cases hk : nd.st.kind = 0
   ·rw [if_pos hk]
    have hD := fun W h1 h2 => Zj0 na nd.data nq hq (by omega) W h1 h2
    repeat (first|refine Yea ?_|(refine X_id ?_;first|refine Yaf ?_|refine Yag ?_|refine Yan ?_|refine Ya4 ?_|refine Yap ?_)|refine Ye4 ?_|refine Yei ?_)
    refine Zaa _ rfl rfl rfl rfl rfl (hD _ (hG.at_ hS) (hrow.rd (hS.rd (r := chR c f b T (Nt t) X') (by simp)).ch).ro) ?_
    rintro v w hV
    cases hd : decM nd.data with
    | none =>
     rw [hd] at hV;obtain ⟨e,rfl,he,hS'⟩ := hV
     replace hS := hS.plus hS';clear hS';repeat (first|refine Yea ?_|refine Yfo ?_|refine Yao (fun _ hS _ => ?_)|refine Yar (fun _ _ hS _ => ?_)|refine Yek ?_|refine Yab ?_|refine Yaq ?_|refine Ybv ?_)
     exact ⟨X',hX',hS.took,by decide,rfl⟩
    | some x =>
     rw [hd] at hV;obtain ⟨cs,Y,rfl,hM,hS'⟩ := hV
     replace hS := hS.plus hS';clear hS';obtain ⟨a1,c1,a2,c2,rows2,rfl,_⟩ := hM.lit
     repeat (first|refine Yea ?_|refine Yfp ?_|refine Yao (fun _ hS _ => ?_)|refine Yar (fun _ _ hS _ => ?_)|refine Yfa ?_|refine Yab ?_|refine Ybv ?_)
     have hS : St W F [bag Y,chR c f b T (Nt t) X'] _ := hS.took
     exact ⟨_,fun y hy => List.mem_append_right _ (hX' y hy),hS.chAdd,_,rfl,hM.mono fun _ _ h => h.left⟩
   ·rw [if_neg hk]
    repeat (first|refine Yea ?_|(refine X_id ?_;first|refine Yaf ?_|refine Yag ?_|refine Yan ?_|refine Ybj ?_|refine Ya4 ?_|refine Ybl ?_|refine Yap ?_|refine Yao (fun _ hS _ => ?_))|refine Yfc ?_|refine Yfn ?_)
    exact ⟨X',hX',hS.took,by decide,rfl⟩
end
def PathsRd (Y : List RowD) (l : List (List (List UInt8))) (vs : List Value) : Prop :=
 vs.length = l.length ∧ ∀ (i : Nat) (p : List (List UInt8)),l[i]? = some p → ∃ a c,vs[i]? = some (.slice a p.length c) ∧ p.length ≤ c ∧ RX Y a (strV p)
theorem PathsRd.nil {Y : List RowD} : PathsRd Y [] [] := ⟨rfl,fun i p h => by simp at h⟩
theorem PathsRd.snoc {Y : List RowD} {l : List (List (List UInt8))} {vs : List Value} (h : PathsRd Y l vs) {p : List (List UInt8)} {a : Option Addr} {c : Nat} (hc : p.length ≤ c) (hr : RX Y a (strV p)) : PathsRd Y (l ++ [p]) (vs ++ [.slice a p.length c]) := by
 refine ⟨by simp [h.1],fun i q hq => ?_⟩
 by_cases hi : i < l.length
 ·rw [List.getElem?_append_left hi] at hq
  obtain ⟨a',c',h1,h2⟩ := h.2 i q hq
  exact ⟨a',c',by rw [List.getElem?_append_left (by rw [h.1]; exact hi)]; exact h1,h2⟩
 ·rw [List.getElem?_append_right (by omega)] at hq
  cases hk : i - l.length with
  | zero =>
   rw [hk] at hq;obtain rfl : p = q := by simpa using hq
   exact ⟨a,c,by rw [List.getElem?_append_right (by rw [h.1]; omega),h.1,hk]; rfl,hc,hr⟩
  | succ k => rw [hk] at hq; simp at hq
theorem PathsRd.sub {Y Z : List RowD} {l : List (List (List UInt8))} {vs : List Value} (h : PathsRd Y l vs) (hs : ∀ x ∈ Y,x ∈ Z) : PathsRd Z l vs :=
 ⟨h.1,fun i p hp => (h.2 i p hp).imp fun _ ⟨c,h1,h2,h3⟩ => ⟨c,h1,h2,h3.sub hs⟩⟩
def wayL (name : List UInt8) : List (List (List UInt8)) := [[dbN],[dbN,name]]
def Zd3 (t : Tn) : List (List (List UInt8)) → Option (List (List (List UInt8)))
 | [] => some []
 | p :: l => if Zb5 t p = 1 then Zd3 t l else if Zb5 t p = -1 then (Zd3 t l).map (p :: ·) else none
section
variable {c f tp n : Nat} {b : Int} {T : Int → Option Nd} {t : Tn} {X : List RowD}
theorem Z6n (ht : TreeOk n t) (tb : Nat) (name : List UInt8) (W : World) (F : Nat → Prop) (hT : TreeRo W F f tp n b T) (hG : Lg W F) (htb : Ro W F (pts tb (.cells (List.toArray [.pointer (some ⟨c,0,none⟩),.string (str name)]) 107 (0,0)))) (hS : St W F [chR c f b T (Nt t) X] W) :
  Calls Tryz.prog 47 #[.pointer (some ⟨tb,0,none⟩)] W (Ret fun v w => ∃ X',(∀ x ∈ X,x ∈ X') ∧ match Zd3 t (wayL name) with
   | none => v = .tuple #[.slice none 0 0,.int .i64 17] ∧ St W F [chR c f b T (Nt t) X'] w
   | some l => ∃ a q vs Y,v = .tuple #[.slice a l.length q,.int .i64 0] ∧ RX Y a vs ∧ PathsRd Y l vs ∧ St W F [bag Y,chR c f b T (Nt t) X'] w) := by
 have hc := htb
 refine Zab Tryz.func47 rfl Tryz.ntmps47 rfl ?_
 repeat (first|refine Yea ?_|(refine X_id ?_;first|refine Yaf ?_|refine Yag ?_|refine Yau ?_|refine Yan ?_|refine Yav ?_|refine Ybn (fun _ _ hS _ => ?_)|refine Yca ?_)|refine Yed ?_|refine Yab ?_)
 rename_i b7 _ _ _ b12 _ _ _ b13 _ _;have hS := hS.toBag (a := some ⟨b13,0,none⟩) (cs := [.slice (some ⟨b7,0,none⟩) 1 1,.slice (some ⟨b12,0,none⟩) 2 2]) fun _ h => h.row
 have hS := hS.swap1.bagAdd (a := some ⟨b12,0,none⟩) (cs := strV [dbN,name]) fun _ h => h.row
 have hS := hS.swap1.bagAdd (a := some ⟨b7,0,none⟩) (cs := strV [dbN]) fun _ h => h.row
 generalize hY : ((some (⟨b7,0,none⟩ : Addr),strV [dbN]) :: [(some (⟨b12,0,none⟩ : Addr),strV [dbN,name]),(some (⟨b13,0,none⟩ : Addr),[Value.slice (some ⟨b7,0,none⟩) 1 1,Value.slice (some ⟨b12,0,none⟩) 2 2])] : List RowD) = Y at hS;have hW : PathsRd Y (wayL name) [.slice (some ⟨b7,0,none⟩) 1 1,.slice (some ⟨b12,0,none⟩) 2 2] := by
  have h1 : PathsRd Y [[dbN]] [.slice (some ⟨b7,0,none⟩) 1 1] := PathsRd.nil.snoc (p := [dbN]) (Nat.le_refl _) (.mem (by rw [← hY]; simp))
  exact h1.snoc (p := [dbN,name]) (Nat.le_refl _) (.mem (by rw [← hY]; simp))
 have hR : (some (⟨b13,0,none⟩ : Addr),[Value.slice (some ⟨b7,0,none⟩) 1 1,Value.slice (some ⟨b12,0,none⟩) 2 2]) ∈ Y := by rw [← hY]; simp
 have hl2 : (wayL name).length = 2 := rfl
 clear hY;generalize [Value.slice (some ⟨b7,0,none⟩) 1 1,Value.slice (some ⟨b12,0,none⟩) 2 2] = vs13 at hW hR;refine Zal (α := Nat × Option Addr × Nat × Nat) (fun z => [(0,.pointer (some ⟨tb,0,none⟩)),(4,.slice z.2.1 z.2.2.1 z.2.2.2),(13,.slice (some ⟨b13,0,none⟩) 2 2),(14,.int .i64 (2 : Nat)),(15,.int .i64 (z.1 : Nat))])
  (fun z w => z.1 ≤ 2 ∧ ∃ acc vs X',(∀ x ∈ X,x ∈ X') ∧ PathsRd Y acc vs ∧ z.2.2.1 = acc.length ∧ z.2.2.1 ≤ z.2.2.2 ∧ acc.length ≤ z.1 ∧ Zd3 t (wayL name) = (Zd3 t ((wayL name).drop z.1)).map (acc ++ ·) ∧ St W F [own 40 1 z.2.1 z.2.2.2 vs,bag Y,chR c f b T (Nt t) X'] w)
  (fun z => 2 - z.1) (0,none,0,0) ⟨rfl,rfl,rfl,rfl,rfl,trivial⟩ ⟨by decide,[],[],X,fun _ h => h,.nil,rfl,Nat.le_refl _,Nat.le_refl _,by rw [List.drop_zero]; cases Zd3 t (wayL name) <;> simp,hS.own_none _ _ _⟩ ?_
 clear hS;rintro ⟨i,oa,on,oc⟩ w ⟨hi,acc,vs,X',hX',hP,hon,hoc,hai,hwf,hS⟩
 simp only at hi hon hoc hai hwf hS
 by_cases hlt : i < 2
 ·have hp0 : (wayL name)[i]? = some (wayL name)[i] := List.getElem?_eq_getElem (by omega)
  have hdr := List.drop_eq_getElem_cons (l := wayL name) (i := i) (by omega)
  have hpl : (wayL name)[i].length ≤ 1048576 := by
   have : ∀ p ∈ wayL name,p.length ≤ 1048576 := by simp [wayL]
   exact this _ (List.getElem_mem _)
  generalize (wayL name)[i] = p at hp0 hdr hpl;obtain ⟨pa,pc,hx,hpc,hpr⟩ := hW.2 i p hp0
  rw [hdr] at hwf;have hr := (hS.rd (r := bag Y) (by simp)).bag hR
  repeat (first|refine Yea ?_|(refine X_id ?_;first|refine Yaf ?_|refine Yag ?_|refine Yau ?_|refine Yan ?_|refine Ya2 ?_|refine Ybc ?_|refine Yb2 ?_|refine Yca ?_)|refine Yee ?_|refine Yab ?_)
  obtain ⟨_,hcc,hr1,hw,hbk⟩ := hS.call [false,false,true]
  refine Zaa _ rfl rfl rfl rfl rfl (Zpi ht pa p pc _ _ (hT.mono hw) (hG.mono hw) (hpr.ro (hr1 _ (List.mem_cons_of_mem _ (List.mem_cons_self ..)))) hpl hcc) ?_
  rintro _ w ⟨rfl,X2,hX2,hS⟩
  replace hS := hbk hS
  clear hbk hw hcc hr1 hr;rw [Zd3] at hwf;obtain ⟨k,hk⟩ : ∃ k,k = Zb5 t p := ⟨_,rfl⟩
  rw [← hk] at hwf ⊢;by_cases h1 : k = 1
  ·rw [if_pos h1] at hwf
   repeat (first|refine Yea ?_|refine Yaf ?_|refine Yag ?_|refine Ybi ?_|refine Ya0 ?_|refine Yee ?_|refine Yei ?_)
   refine Zaf (z := (i,oa,on,oc)) (i + 1,oa,on,oc) ⟨rfl,rfl,rfl,rfl,rfl,trivial⟩ ⟨by dsimp only; omega,acc,vs,X2,fun x hx => hX2 x (hX' x hx),hP,hon,hoc,by dsimp only; omega,hwf,hS.took⟩ (by dsimp only; omega)
  ·rw [if_neg h1] at hwf
   by_cases h2 : k = -1
   ·rw [if_pos h2] at hwf
    repeat (first|refine Yea ?_|(refine X_id ?_;first|refine Yaf ?_|refine Yag ?_|refine Ybi ?_|refine Ybh ?_|refine Ybn (fun _ _ hS _ => ?_))|refine Ye8 ?_|refine Yab ?_)
    have hnw := (hS.rd (List.mem_cons_self ..)).own_row
    refine Zar rfl rfl rfl rfl rfl hS (by rw [hP.1]; dsimp only; omega) hoc hnw rfl (by simp [Value.oneCell']) (by dsimp only; omega) (by simp only [maxLen]; omega) (fun b' q' w hS hq' _ => ?_)
    repeat (first|refine Yea ?_|refine Yes ?_|refine Yad ?_|refine Yei ?_)
    refine Zaf (z := (i,oa,on,oc)) (i + 1,b',on + 1,q') ⟨rfl,rfl,rfl,rfl,rfl,trivial⟩ ⟨by dsimp only; omega,acc ++ [p],vs ++ [.slice pa p.length pc],X2,fun x hx => hX2 x (hX' x hx),hP.snoc hpc hpr,by rw [List.length_append,← hon]; rfl,hq',by rw [List.length_append]; simp; omega,?_,hS.took⟩ (by dsimp only; omega)
    rw [hwf];cases Zd3 t ((wayL name).drop (i + 1)) <;> simp
   ·rw [if_neg h2] at hwf
    rw [hwf];repeat (first|refine Yea ?_|refine Yag ?_|refine Ybh ?_|refine Yae ?_|refine Yad ?_|refine Yal ?_|refine Yah ?_|refine Yai ?_|refine Yfh ?_)
    exact ⟨X2,fun x hx => hX2 x (hX' x hx),rfl,hS.took⟩
 ·obtain rfl : i = 2 := by omega
  rw [show (wayL name).drop 2 = [] from rfl,Zd3] at hwf
  rw [hwf];subst hon
  repeat (first|refine Yea ?_|refine Yfi ?_|refine Yej ?_|refine Yfm ?_)
  have hS := hS.bagAdd (a := oa) (cs := vs) fun _ h => h.row
  refine ⟨X',hX',oa,oc,vs,_,?_,.mem (List.mem_cons_self ..),by simpa using hP.sub fun x hx => List.mem_cons_of_mem _ hx,hS⟩
  simp
end
def Zcc (n : Nat) (z : Int × Tn × List (List (List UInt8))) (nd : Nd) (p : List (List UInt8)) : Int × Tn × List (List (List UInt8)) :=
 if z.1 = 0 then if (Zdx n z.2.1 nd p).1 = 0 then (0,(Zdx n z.2.1 nd p).2,z.2.2 ++ [p]) else ((Zdx n z.2.1 nd p).1,(Zdx n z.2.1 nd p).2,z.2.2) else z
def Zpe (t : Tn) : List (List (List UInt8)) → Tn
 | [] => t
 | p :: l => (Zuz (Zpe t l) p).2
theorem Zng {n : Nat} {t : Tn} (ht : TreeOk n t) : ∀ l,TreeOk n (Zpe t l)
 | [] => ht
 | p :: l => Zzm (Zng ht l) p
theorem Zla {n : Nat} {z : Int × Tn × List (List (List UInt8))} (ht : TreeOk n z.2.1) (nd : Nd) (p : List (List UInt8)) : TreeOk n (Zcc n z nd p).2.1 := by
 unfold Zcc
 split
 ·split
  ·exact Ztp ht nd p
  ·exact Ztp ht nd p
 ·exact ht
section
variable {c f tp n : Nat} {b : Int} {T : Int → Option Nd} {t : Tn} {X Y : List RowD}
theorem Z4r (ht : TreeOk n t) (tb be b3 bd : Nat) (name : List UInt8) (e : Int) (nd : Nd) (a : Option Addr) (q : Nat) (pa : Option Addr) (p : List (List UInt8)) (pc : Nat) (da : Option Addr) (dc : Nat) (done : List (List (List UInt8))) (vs : List Value) (W : World) (F : Nat → Prop) (hT : TreeRo W F f tp n b T) (hG : Lg W F)
  (htb : Ro W F (pts tb (.cells (List.toArray [.pointer (some ⟨c,0,none⟩),.string (str name)]) 107 (0,0)))) (hb3 : Ro W F (pts b3 (.cells (List.toArray [.pointer (some ⟨tb,0,none⟩)]) 30 (0,0)))) (hY : Ro W F (bag Y)) (hp : RX Y pa (strV p)) (hpc : p.length ≤ pc) (hpl : p.length ≤ 1048576) (ha : Ro W F (bytes a nd.data)) (hP : PathsRd Y done vs) (hdc : done.length ≤ dc) (hdl : done.length ≤ 1048576)
  (hS : St W F [chR c f b T (Nt t) X,own 40 1 da dc vs,pts bd (.cells (List.toArray [.slice da done.length dc]) 115 (0,0)),pts be (.cells (List.toArray [.int .i64 e]) 31 (0,0))] W) :
  Calls Tryz.prog 50 #[.agg (List.toArray [.int .i64 nd.st.kind,.int .i64 nd.st.mode,.int .i64 nd.st.owner,.int .i64 nd.st.group,.slice a nd.data.length q]),.slice pa p.length pc,.pointer (some ⟨be,0,none⟩),.pointer (some ⟨b3,0,none⟩),.pointer (some ⟨bd,0,none⟩)] W (Ret fun v w => v = .tuple #[] ∧ ∃ X' da' dc' vs',(∀ x ∈ X,x ∈ X') ∧ PathsRd Y (Zcc n (e,t,done) nd p).2.2 vs' ∧ (Zcc n (e,t,done) nd p).2.2.length ≤ dc' ∧
   St W F [chR c f b T (Nt (Zcc n (e,t,done) nd p).2.1) X',own 40 1 da' dc' vs',pts bd (.cells (List.toArray [.slice da' (Zcc n (e,t,done) nd p).2.2.length dc']) 115 (0,0)),pts be (.cells (List.toArray [.int .i64 (Zcc n (e,t,done) nd p).1]) 31 (0,0))] w) := by
 have hb3w := hb3
 unfold Zcc
 simp only
 by_cases h0 : e = 0
 case neg =>
  rw [if_neg h0];refine Zab Tryz.func50 rfl Tryz.ntmps50 rfl ?_
  repeat (first|refine Yea ?_|refine Ybh ?_|refine Yap ?_|refine Ya5 (fun _ _ hS _ => ?_)|refine Yem ?_|refine Yab ?_|refine Ybt ?_)
  exact ⟨rfl,X,da,dc,vs,fun _ h => h,hP,hdc,hS.took⟩
 subst h0
 rw [if_pos rfl];have hc := hb3
 refine Zab Tryz.func50 rfl Tryz.ntmps50 rfl ?_
 repeat (first|refine Yea ?_|refine Ybi ?_|refine Yap ?_|refine Ya5 (fun _ _ hS _ => ?_)|refine Yev ?_|refine Yab ?_)
 refine Zam (.s 0 (.s 1 (.s 2 (.s 3 (.s 4 (.s 5 (.h 6 (.h 7 .nil .no) .no))))))) mixed (by kernel_rfl) rfl ?_
 have hS := hS.drew
 have htbp := (htb.rd hS).pts
 repeat (first|(refine Zae ?_;first|refine Ya3 ?_|refine Ybr ?_|refine Ybe ?_|refine Yc1 ?_|refine Yb1 ?_|refine Yas ?_|refine Ycy ?_))
 obtain ⟨_,hcc,_,hw,hbk⟩ := hS.call [false,true]
 refine Zaa _ rfl rfl rfl rfl rfl (Z5t ht nd a q pa p pc _ _ (hT.mono hw) (hG.mono hw) (hw _ ha) (hw _ (hp.ro hY)) hpc hpl hcc) ?_
 rintro _ w ⟨X1,hX1,rfl,hS⟩
 replace hS := hbk hS
 clear hbk hw hcc htbp;obtain ⟨e,he⟩ : ∃ e,e = (Zdx n t nd p).1 := ⟨_,rfl⟩
 rw [← he];generalize (Zdx n t nd p).2 = t' at hS ⊢;by_cases h0 : e = 0
 ·subst h0
  rw [if_pos rfl];repeat (first|refine Yea ?_|(refine X_id ?_;first|refine Yaf ?_|refine Ybi ?_|refine Yap ?_|refine Yao (fun _ hS _ => ?_)|refine Ybn (fun _ _ hS _ => ?_))|refine Yev ?_|refine Yab ?_|(refine Zae ?_;first|refine Yfl ?_)|(refine Zac ?_;first|refine Ycu ?_))
  have hnw := (hS.rd (List.mem_cons_self ..)).own_row
  refine Zar rfl rfl rfl rfl rfl hS (by rw [hP.1,Nat.mul_one]) hdc hnw rfl (by simp [Value.oneCell']) (by omega) (by simp only [maxLen]; omega) (fun b' q' w hS hq' _ => ?_)
  repeat (first|refine Yea ?_|refine Yao (fun _ hS _ => ?_)|refine Ybt ?_)
  refine ⟨rfl,X1,b',q',vs ++ [.slice pa p.length pc],hX1,hP.snoc hpc hp,by simpa using hq',?_⟩
  rw [show (done ++ [p]).length = done.length + 1 by simp]
  exact hS.took
 ·rw [if_neg h0]
  repeat (first|refine Yea ?_|refine Ybh ?_|refine Yap ?_|refine Yao (fun _ hS _ => ?_)|refine Yem ?_|refine Yab ?_|refine Ybt ?_|(refine Zae ?_;first|refine Yfl ?_)|(refine Zac ?_;first|refine Ycu ?_))
  exact ⟨rfl,X1,da,dc,vs,hX1,hP,hdc,hS.took⟩
end
theorem Zlr (l bx n c : Nat) (a : Option Addr) (cs : List Value) (w : World) (T : TypeId) (hn : n ≤ 4611686018427387904) (hcs : cs.length = n) (Inv : Nat → World → Prop)
  (hbx : ∀ k w,Inv k w → w.heap[bx]? = some (.cells #[.slice a n c] T)) (hrow : ∀ k w,Inv k w → Rd w (row a cs)) (hl : ∀ k w,Inv k w → ∃ r : Loop,r.params.size = 2 ∧ w.heap[l]? = some (.loop r) ∧ (k ≠ 0 → ∀ v,cs[k - 1]? = some v →
   RoundIn Fence.wide 0 Tryz.prog l r.fn ((r.params.zip #[.int .i64 ((k - 1 : Nat) : Int),v]).foldl (fun tmps (t,a) => tmps.setIfInBounds t a) r.tmps) r.assign r.body w
    (Ret fun v w' => v = .bool true ∧ Inv (k - 1) w'))) (h0 : Inv n w) :
  CallsIn Fence.wide 0 Tryz.prog 171 #[.func (.yield l) #[] #[],.pointer (some ⟨bx,0,none⟩)] w (Ret fun _ w' => Inv 0 w') := by
 refine callsIn_wide.2 ?_
 have hb := hbx _ _ h0
 refine Zab Tryz.func171 rfl Tryz.ntmps171 rfl ?_
 repeat (first|refine Yea ?_|refine Yag ?_|refine Yav ?_|refine Ybz ?_|refine Yb5 ?_|refine Yed ?_|refine Yab ?_)
 refine Zal (α := Nat) (fun k => [(0,.func (.yield l) #[] #[]),(1,.pointer (some ⟨bx,0,none⟩)),(3,.int .i64 ((k : Int) - 1))]) (fun k w => k ≤ n ∧ Inv k w) (fun k => k) n ⟨rfl,rfl,rfl,trivial⟩ ⟨Nat.le_refl _,h0⟩ ?_
 clear hb h0;rintro k w ⟨hk,hi⟩
 have hb := hbx _ _ hi
 by_cases h0 : k = 0
 ·subst h0
  repeat (first|refine Yea ?_|refine Yaf ?_|refine Yce ?_|refine Yeq ?_|refine Yab ?_|refine Yba ?_|refine Ybb ?_|refine Ybt ?_)
  exact hi
 ·obtain ⟨r,hp,hlr,hr⟩ := hl _ _ hi
  have hv : cs[k - 1]? = some cs[k - 1] := List.getElem?_eq_getElem (by omega)
  generalize cs[k - 1] = v at hv;have hr := hr h0 v hv
  have hcs0 : cs ≠ [] := by intro e; rw [e] at hcs; simp at hcs; omega
  obtain ⟨xb,xo,rfl⟩ := (hrow _ _ hi).base hcs0
  have hcell := (hrow _ _ hi).cells (k - 1) v hv
  have e1 : ((k : Int) - 1).toNat = k - 1 := by omega
  have e2 : ((k - 1 : Nat) : Int) = (k : Int) - 1 := by omega
  rw [e2] at hr;repeat (first|refine Yea ?_|refine Yaf ?_|refine Yb9 ?_|refine Ybc ?_|refine Yb5 ?_|refine Yee ?_|refine Yab ?_)
  rw [e1,Nat.mul_one];refine X_yl (Zas rfl rfl hcell) rfl rfl ?_
  refine Zss rfl rfl rfl rfl rfl rfl hlr (by rw [hp]; rfl) hr ?_
  rintro v w' ⟨rfl,hi'⟩
  repeat (first|refine Yea ?_|refine Yaf ?_|refine Yag ?_|refine Ybd ?_|refine Ybz ?_|refine Yet ?_|refine Yei ?_)
  refine Zaf (k - 1) ⟨rfl,rfl,?_,trivial⟩ ⟨by omega,hi'⟩ (by omega)
  rw [e2]; rfl
theorem Zxy (a : Option Addr) (n c : Nat) (W : World) : Calls Tryz.prog 103 #[.slice a n c] W
  (Ret fun v w => ∃ bx,v = .func (.func 171) #[] #[.pointer (some ⟨bx,0,none⟩)] ∧ St W noF [pts bx (.cells #[.slice a n c] 115)] w) := by
 have hS := St.start W
 refine Zab Tryz.func103 rfl Tryz.ntmps103 rfl ?_
 repeat (first|refine Yea ?_|refine Yag ?_|refine Ycg ?_|refine Ya5 (fun _ _ hS _ => ?_)|refine Ye1 ?_|refine Yec ?_)
 exact ⟨_,rfl,hS⟩
section
variable {c f tp n : Nat} {b : Int} {T : Int → Option Nd} {t : Tn} {X Y : List RowD}
theorem Z6p (ht : TreeOk n t) (tb : Nat) (name : List UInt8) (a : Option Addr) (L : List (List (List UInt8))) (q : Nat) (vs : List Value) (W : World) (F : Nat → Prop) (hT : TreeRo W F f tp n b T) (hG : Lg W F)
  (htb : Ro W F (pts tb (.cells (List.toArray [.pointer (some ⟨c,0,none⟩),.string (str name)]) 107 (0,0)))) (hY : Ro W F (bag Y)) (hP : PathsRd Y L vs) (hr : Ro W F (row a vs)) (hll : L.length ≤ 1048576) (hlp : ∀ p ∈ L,p.length ≤ 1048576)
  (hS : St W F [chR c f b T (Nt t) X] W) :
  Calls Tryz.prog 52 #[.pointer (some ⟨tb,0,none⟩),.slice a L.length q] W (Ret fun v w => v = .tuple #[] ∧ ∃ X',(∀ x ∈ X,x ∈ X') ∧ St W F [chR c f b T (Nt (Zpe t L)) X'] w) := by
 have hro := hr
 clear hr;refine Zab Tryz.func52 rfl Tryz.ntmps52 rfl ?_
 repeat (first|refine Yea ?_|refine Yaf ?_|refine Ya5 (fun _ _ hS _ => ?_)|refine Yeb ?_|refine Yab ?_)
 obtain ⟨_,hcc,hr,hw,hbk⟩ := hS.call []
 refine Zaa _ rfl rfl rfl rfl rfl (Zxy _ _ _ _) ?_
 rintro _ w ⟨bx,rfl,hS⟩
 replace hS := hbk hS.more
 clear hcc hr hw hbk;repeat (first|refine Yac ?_|refine Yal ?_|refine Yab ?_)
 rename_i b2 _ _ _ _;refine Zhg (first := []) (captured := [.pointer (some ⟨bx,0,none⟩)])
  (fun lp r j w => j = none ∧ ∃ X' lo,(∀ x ∈ X,x ∈ X') ∧ St W F [pts lp lo,pts r (.deferred (some [])),chR c f b T (Nt (Zpe t L)) X'] w) rfl rfl hS ?_ ?_ ?_
 ·intro A B hA hB fn tm lp r w1 htm hlook hS
  refine Zga (Zlr lp bx L.length q a vs w1 115 (by omega) hP.1
   (fun k w => k ≤ L.length ∧ ∃ X',(∀ x ∈ X,x ∈ X') ∧ St W F [pts lp (.loop (recd fn tm #[8,9] A B r .ready none)),pts r (.deferred (some [])),pts bx (.cells #[.slice a L.length q] 115),pts b2 (.cells (List.toArray [.pointer (some ⟨tb,0,none⟩)]) 30 (0,0)),chR c f b T (Nt (Zpe t (L.drop k))) X'] w)
   (fun k w h => (h.2.choose_spec.2).has) (fun k w h => hro.rd h.2.choose_spec.2) ?_ ⟨Nat.le_refl _,X,fun _ h => h,by rw [List.drop_length]; exact hS⟩) ?_
  ·rintro k w ⟨hkl,X',hX',hS⟩
   refine ⟨_,rfl,hS.has,fun hk v hv => ?_⟩
   have hkl' : k - 1 < L.length := by omega
   have hp : L[k - 1]? = some L[k - 1] := List.getElem?_eq_getElem hkl'
   have hdr : L.drop (k - 1) = L[k - 1] :: L.drop k := by
    have := List.drop_eq_getElem_cons hkl'
    rwa [show k - 1 + 1 = k by omega] at this
   generalize L[k - 1] = p at hp hdr;have hpl := hlp p (List.mem_of_getElem? hp)
   obtain ⟨pa,pc,hv2,hpc,hpr⟩ := hP.2 (k - 1) p hp
   rw [hv] at hv2;cases hv2
   show RoundIn Fence.wide 0 Tryz.prog lp fn ((#[8,9].zip _).foldl _ tm) A B w _
   refine Zrs (Fr.round2 htm hlook lp (.int .i64 ((k - 1 : Nat) : Int)) (.slice pa p.length pc) (by decide) (by decide)) ?_
   refine C_eq hA ?_
   repeat (first|refine Yea ?_|refine Yag ?_|refine Yad ?_)
   refine Zo3 hS.has (fun w hset => ?_)
   replace hS := hS.upd hset
   refine C_eq hB ?_
   have hc := htb
   repeat (first|refine Yaa ?_|(refine X_id ?_;first|refine Yaf ?_|refine Yau ?_|refine Yan ?_|refine Yap ?_|refine Yca ?_)|refine Yad ?_|refine Yal ?_)
   obtain ⟨_,hcc,_,hw,hbk⟩ := hS.call [false,false,false,false,true]
   refine Zaa _ rfl rfl rfl rfl rfl (Z7e (Zng ht _) pa p pc _ _ (hT.mono hw) (hG.mono hw) (hw _ (hpr.ro hY)) hpc hpl hcc) ?_
   rintro _ w ⟨X2,hX2,rfl,hS⟩
   replace hS := hbk hS
   clear hbk hw hcc;repeat (first|refine Yac ?_|refine Yaw ?_)
   refine Zln hS.has (fun w hset => ⟨_,rfl,rfl,by omega,X2,fun x hx => hX2 x (hX' x hx),?_⟩)
   rw [hdr,Zpe];exact (hS.upd hset).took
  ·rintro _ w3 ⟨_,X',hX',hS⟩
   rw [List.drop_zero] at hS;exact ⟨_,_,by simp,hS.has,fun w4 hset => ⟨rfl,X',_,hX',(hS.upd hset).pick [0,0,2]⟩⟩
 ·rintro lp r w4 ⟨_,X',lo,hX',hS⟩
  refine Zsw ?_
  refine Zum (.inr rfl) hS.has (fun w hset => ?_)
  replace hS := hS.upd hset
  repeat (first|refine Ybt ?_)
  exact ⟨rfl,X',hX',hS.took⟩
 ·rintro lp r cc w4 ⟨h,_⟩
  cases h
end
def Zqp : Nd := ⟨⟨1,448,0,0⟩,[]⟩
def Zc7 (b : List UInt8) : Nd := ⟨⟨0,384,0,0⟩,b⟩
def Zci (n : Nat) (t : Tn) (l : List (List (List UInt8))) : Int × Tn × List (List (List UInt8)) := l.foldl (fun z p => Zcc n z Zqp p) (0,t,[])
def Znj (n : Nat) (t : Tn) (name key : List UInt8) (v : Mv) : Int × Tn :=
 if ¬ nameOk key then (10,t) else if chkM 8 v ≠ 0 then (chkM 8 v,t) else if 512 < (encM v).length then (2,t) else
 match Zd3 t (wayL name) with
 | none => (17,t)
 | some ms => if Zb5 t [dbN,name,key] = 0 then Zrw t (encM v) [dbN,name,key] else if Zb5 t [dbN,name,key] = 1 ∨ Zb5 t [dbN,name,key] = 2 then (17,t) else
  if (Zcc n (Zci n t ms) (Zc7 (encM v)) [dbN,name,key]).1 = 0 then (0,(Zcc n (Zci n t ms) (Zc7 (encM v)) [dbN,name,key]).2.1) else ((Zcc n (Zci n t ms) (Zc7 (encM v)) [dbN,name,key]).1,Zpe (Zcc n (Zci n t ms) (Zc7 (encM v)) [dbN,name,key]).2.1 (Zcc n (Zci n t ms) (Zc7 (encM v)) [dbN,name,key]).2.2)
theorem Zhc {n : Nat} {z : Int × Tn × List (List (List UInt8))} {nd : Nd} {p : List (List UInt8)} : (Zcc n z nd p).2.2 = z.2.2 ∨ (Zcc n z nd p).2.2 = z.2.2 ++ [p] := by
 unfold Zcc
 split
 ·split
  ·exact .inr rfl
  ·exact .inl rfl
 ·exact .inl rfl
theorem Zlb (n : Nat) (t : Tn) (l : List (List (List UInt8))) (p : List (List UInt8)) : Zci n t (l ++ [p]) = Zcc n (Zci n t l) Zqp p := by
 unfold Zci; rw [List.foldl_append]; rfl
theorem Zlc {n : Nat} {t : Tn} (ht : TreeOk n t) : ∀ (k : Nat) (l : List (List (List UInt8))),l.length = k → TreeOk n (Zci n t l).2.1 ∧ (Zci n t l).2.2.length ≤ l.length ∧ ∀ p ∈ (Zci n t l).2.2,p ∈ l
 | 0,l,hl => by
  obtain rfl := List.eq_nil_of_length_eq_zero hl
  exact ⟨ht,Nat.le_refl _,fun p hp => (by cases hp)⟩
 | k + 1,l,hl => by
  rcases List.eq_nil_or_concat l with rfl | ⟨l,p,rfl⟩
  ·cases hl
  rw [List.concat_eq_append] at hl ⊢;rw [List.length_append,List.length_singleton] at hl;obtain ⟨h1,h2,h3⟩ := Zlc ht k l (by omega)
  rw [Zlb];refine ⟨Zla h1 _ _,?_,?_⟩
  ·rcases Zhc (n := n) (z := Zci n t l) (nd := Zqp) (p := p) with h | h
   ·rw [h,List.length_append]; omega
   ·rw [h,List.length_append,List.length_append]; simp; omega
  ·intro q hq
   rcases Zhc (n := n) (z := Zci n t l) (nd := Zqp) (p := p) with h | h
   ·rw [h] at hq; exact List.mem_append_left _ (h3 q hq)
   ·rw [h] at hq
    rcases List.mem_append.1 hq with hq | hq
    ·exact List.mem_append_left _ (h3 q hq)
    ·exact List.mem_append_right _ hq
theorem Zkc {t : Tn} : ∀ {l ms : List (List (List UInt8))},Zd3 t l = some ms → (∀ p ∈ ms,p ∈ l) ∧ ms.length ≤ l.length
 | [],ms,h => by rw [Zd3] at h; injection h with h; subst h; exact ⟨fun p hp => (by cases hp),Nat.le_refl _⟩
 | p :: l,ms,h => by
  rw [Zd3] at h
  split at h
  ·obtain ⟨h1,h2⟩ := Zkc h
   exact ⟨fun q hq => List.mem_cons_of_mem _ (h1 q hq),by simp only [List.length_cons]; omega⟩
  ·split at h
   ·cases hw : Zd3 t l with
    | none => rw [hw] at h; cases h
    | some r =>
     rw [hw] at h;simp only [Option.map_some,Option.some.injEq] at h
     subst h
     obtain ⟨h1,h2⟩ := Zkc hw
     refine ⟨fun q hq => ?_,by simp only [List.length_cons]; omega⟩
     rcases List.mem_cons.1 hq with rfl | hq
     ·exact List.mem_cons_self ..
     ·exact List.mem_cons_of_mem _ (h1 q hq)
   ·cases h
theorem Zs3 {n : Nat} {t : Tn} (ht : TreeOk n t) (name key : List UInt8) (v : Mv) : TreeOk n (Znj n t name key v).2 := by
 unfold Znj
 split
 ·exact ht
 ·split
  ·exact ht
  ·split
   ·exact ht
   ·split
    ·exact ht
    ·rename_i ms _
     split
     ·exact Zzt ht _ _
     ·split
      ·exact ht
      ·have h1 := Zla (n := n) (Zlc ht _ ms rfl).1 (Zc7 (encM v)) [dbN,name,key]
       split
       ·exact h1
       ·exact Zng h1 _
section
variable {c f tp n : Nat} {b : Int} {T : Int → Option Nd} {t : Tn} {X : List RowD}
theorem Z4a (ht : TreeOk n t) (tb : Nat) (name key : List UInt8) (v : Mv) (cs : List Value) (W : World) (F : Nat → Prop) (hT : TreeRo W F f tp n b T) (hG : Lg W F) (htb : Ro W F (pts tb (.cells (List.toArray [.pointer (some ⟨c,0,none⟩),.string (str name)]) 107 (0,0)))) (hv : Mrd (RoR W F) v cs) (hwv : wM v ≤ 1048576) (hfit : fitM v) (hlv : (encM v).length ≤ 131072) (hS : St W F [chR c f b T (Nt t) X] W) :
  Calls Tryz.prog 12 #[.pointer (some ⟨tb,0,none⟩),.string (str key),.agg (List.toArray cs)] W (Ret fun u w => u = .int .i64 (Znj n t name key v).1 ∧ ∃ X',(∀ x ∈ X,x ∈ X') ∧ St W F [chR c f b T (Nt (Znj n t name key v).2) X'] w) := by
 have hN := fun W => Zwy key W
 have hc := htb
 obtain ⟨a1,c1,a2,c2,rows,rfl,_⟩ := hv.lit
 unfold Znj
 by_cases hk : nameOk key
 case neg =>
  rw [if_pos hk];simp only [decide_eq_false hk] at hN
  refine Zab Tryz.func12 rfl Tryz.ntmps12 rfl ?_
  repeat (first|refine Yea ?_|(refine X_id ?_;first|(refine Zad 42 rfl rfl rfl rfl rfl hS (hN _) ?_;rintro _ _ rfl hS)|refine Yaf ?_|refine Yag ?_|refine Ybq ?_|refine Ybu ?_|refine Yap ?_|refine Ya5 (fun _ _ hS _ => ?_))|refine Yfc ?_|refine Yey ?_)
  exact ⟨rfl,X,fun _ h => h,hS.took⟩
 rw [if_neg (by simpa using hk)];simp only [decide_eq_true hk] at hN
 clear hk;refine Zab Tryz.func12 rfl Tryz.ntmps12 rfl ?_
 repeat (first|refine Yea ?_|(refine X_id ?_;first|(refine Zad 42 rfl rfl rfl rfl rfl hS (hN _) ?_;rintro _ _ rfl hS)|refine Yaf ?_|refine Yag ?_|refine Ybd ?_|refine Ybu ?_|refine Yap ?_|refine Ybg ?_|refine Ya5 (fun _ _ hS _ => ?_))|refine Ye4 ?_|refine Yei ?_)
 refine Zaa _ rfl rfl rfl rfl rfl (Zoe v _ _ (hv.mono fun _ _ h => (h.rd hS).ro) hwv hfit hlv (hG.at_ hS)) ?_
 rintro _ w (⟨he,rfl,hS'⟩ | ⟨he,eb,eq,rfl,heq,hS'⟩)
 case inl =>
  replace hS := hS.plus hS';clear hS';rw [if_pos he];generalize chkM 8 v = e at he ⊢;repeat (first|refine Yea ?_|(refine X_id ?_;first|refine Yaf ?_|refine Yag ?_|refine Yat ?_|refine Ybj ?_|refine Yap ?_|refine Yao (fun _ hS _ => ?_)|refine Yar (fun _ _ hS _ => ?_))|refine Yek ?_|refine Yel ?_)
  exact ⟨rfl,X,fun _ h => h,hS.took⟩
 replace hS := hS.plus hS';clear hS';rw [if_neg (by simpa using he)];generalize encM v = bs at hS heq hlv ⊢;by_cases h5 : 512 < bs.length
 ·rw [if_pos h5]
  repeat (first|refine Yea ?_|(refine X_id ?_;first|refine Yaf ?_|refine Yag ?_|refine Yat ?_|refine Yav ?_|refine Ya4 ?_|refine Ybx ?_|refine Yap ?_|refine Yao (fun _ hS _ => ?_)|refine Yar (fun _ _ hS _ => ?_))|refine Yez ?_|refine Yel ?_)
  exact ⟨rfl,X,fun _ h => h,hS.took⟩
 rw [if_neg h5];repeat (first|refine Yea ?_|(refine X_id ?_;first|refine Yaf ?_|refine Yag ?_|refine Yat ?_|refine Yav ?_|refine Ya4 ?_|refine Ybs ?_|refine Yap ?_|refine Yao (fun _ hS _ => ?_)|refine Yar (fun _ _ hS _ => ?_))|refine Yem ?_|refine Yab ?_)
 rename_i b3 _ _ _ b5 _ _ _ _ _ be _ _ _ _ _;obtain ⟨_,hcc,_,hw,hbk⟩ := hS.call [false,false,false,false,true]
 refine Zaa _ rfl rfl rfl rfl rfl (Z6n ht tb name _ _ (hT.mono hw) (hG.mono hw) (hw _ htb) hcc) ?_
 rintro u w ⟨X1,hX1,hw1⟩
 cases hms : Zd3 t (wayL name) with
 | none =>
  rw [hms] at hw1;obtain ⟨rfl,hS⟩ := hw1
  replace hS := hbk hS
  clear hbk hw hcc;repeat (first|refine Yea ?_|(refine X_id ?_;first|refine Yaf ?_|refine Yag ?_|refine Yat ?_|refine Ybj ?_|refine Yap ?_|refine Yao (fun _ hS _ => ?_))|refine Yek ?_|refine Yel ?_)
  exact ⟨rfl,X1,hX1,hS.took⟩
 | some ms =>
  rw [hms] at hw1;obtain ⟨ma,mq,mvs,Y,rfl,hma,hmP,hS⟩ := hw1
  replace hS := hbk hS
  clear hbk hw hcc;obtain ⟨hmsub,hmlen⟩ := Zkc hms
  simp only
  repeat (first|refine Yea ?_|(refine X_id ?_;first|refine Yaf ?_|refine Yag ?_|refine Yat ?_|refine Ya4 ?_|refine Yap ?_|refine Yao (fun _ hS _ => ?_))|refine Yem ?_|refine Yab ?_)
  refine Zam (.s 0 (.s 1 (.s 2 (.s 3 (.s 4 (.s 5 (.s 6 (.s 7 (.s 8 (.h 9 (.h 10 .nil .no) .no)))))))))) mixed (by kernel_rfl) rfl ?_
  have hS := hS.drew
  have htbp := (htb.rd hS).pts
  repeat (first|refine Ybn (fun _ _ hS _ => ?_)|(refine Zae ?_;first|refine Ya3 ?_|refine Ybr ?_|refine Ybe ?_|refine Ybk ?_|refine Yc1 ?_|refine Yas ?_)|(refine Zac ?_;first|refine Ycu ?_))
  obtain ⟨_,hcc,hr1,hw,hbk⟩ := hS.call [false,false,true]
  refine Zaa _ rfl rfl rfl rfl rfl (Zpi ht _ [dbN,name,key] _ _ _ (hT.mono hw) (hG.mono hw) (hr1 _ (List.mem_cons_self ..)).own_row (by simp) hcc) ?_
  rintro _ w ⟨rfl,X2,hX2,hS⟩
  replace hS := hbk hS
  clear hbk hw hcc hr1 htbp;have hX12 : ∀ x ∈ X,x ∈ X2 := fun x hx => hX2 x (hX1 x hx)
  generalize Zb5 t [dbN,name,key] = kk;by_cases hk0 : kk = 0
  ·rw [if_pos hk0]
   repeat (first|refine Yea ?_|refine Yag ?_|refine Ybi ?_|refine Ye9 ?_|refine Yab ?_|(refine Zae ?_;first|refine Yay ?_)|(refine Zac ?_;first|refine Ycu ?_))
   refine Zam (.s 0 (.s 1 (.s 2 (.s 3 (.s 4 (.s 5 (.s 6 (.s 7 (.s 8 (.s 9 (.h 10 (.h 11 (.s 12 .nil) .no) .no))))))))))) mixed (by kernel_rfl) rfl ?_
   have hS := hS.drew
   have htbp := (htb.rd hS).pts
   repeat (first|refine Ybn (fun _ _ hS _ => ?_)|(refine Zae ?_;first|refine Ya3 ?_|refine Ybr ?_|refine Ybe ?_|refine Ybk ?_|refine Yc1 ?_|refine Yas ?_)|(refine Zac ?_;first|refine Ycu ?_))
   obtain ⟨_,hcc,hr1,hw,hbk⟩ := hS.call [false,true]
   refine Zaa _ rfl rfl rfl rfl rfl (Z7f ht bs eb eq _ [dbN,name,key] _ _ _ (hT.mono hw) (hG.mono hw) (hr1 (own 5 1 eb eq (bv bs)) (by simp)).own_row (hr1 _ (List.mem_cons_self ..)).own_row (by simp) hcc) ?_
   rintro _ w ⟨X3,hX3,rfl,hS⟩
   replace hS := hbk hS
   clear hbk hw hcc hr1 htbp;repeat (first|refine Yah ?_|refine Yey ?_|(refine Zae ?_;first|refine Ye6 ?_)|(refine Zac ?_;first|refine Ycu ?_))
   exact ⟨rfl,X3,fun x hx => hX3 x (hX12 x hx),hS.took⟩
  rw [if_neg hk0];by_cases hk12 : kk = 1 ∨ kk = 2
  ·rw [if_pos hk12]
   by_cases hk1 : kk = 1
   case' neg => have hk2 : kk = 2 := hk12.resolve_left hk1
   all_goals
    repeat (first|refine Yea ?_|refine Yag ?_|refine Ybi ?_|refine Ybh ?_|refine Ye3 ?_|refine Yey ?_|(refine Zae ?_;first|refine Yay ?_)|(refine Zac ?_;first|refine Ycu ?_))
    exact ⟨rfl,X2,hX12,hS.took⟩
  rw [if_neg hk12];have hk1 : ¬ kk = 1 := fun h => hk12 (.inl h)
  have hk2 : ¬ kk = 2 := fun h => hk12 (.inr h)
  repeat (first|refine Yea ?_|(refine X_id ?_;first|refine Yaf ?_|refine Yag ?_|refine Yav ?_|refine Ycg ?_|refine Ybh ?_|refine Yar (fun _ _ hS _ => ?_))|refine Ye4 ?_|refine Yei ?_|(refine Zae ?_;first|refine Yay ?_)|(refine Zac ?_;first|refine Ycu ?_))
  rename_i bd _ _;replace hS := hS.own_none 40 1 none
  have hml : ms.length ≤ 2 := hmlen
  have hS : St W F [chR c f b T (Nt t) X2,own 40 1 none 0 [],pts bd (.cells (List.toArray [.slice none 0 0]) 115 (0,0)),pts be (.cells (List.toArray [.int .i64 0]) 31 (0,0)),bag Y,own 5 1 eb eq (bv bs),pts b3 (.cells (List.toArray [.pointer (some ⟨tb,0,none⟩)]) 30 (0,0))] _ := hS.took
  have hpl2 : ∀ p ∈ wayL name,p.length ≤ 1048576 := by simp [wayL]
  refine Zal (α := Nat) (fun i => [(1,.string (str key)),(3,.pointer (some ⟨b3,0,none⟩)),(7,.slice eb bs.length eq),(8,.pointer (some ⟨be,0,none⟩)),(10,.pointer (some ⟨bd,0,none⟩)),(11,.func (.func 50) #[] #[.pointer (some ⟨be,0,none⟩),.pointer (some ⟨b3,0,none⟩),.pointer (some ⟨bd,0,none⟩)]),(69,.slice ma ms.length mq),(70,.int .i64 (ms.length : Nat)),(71,.int .i64 (i : Nat))])
   (fun i w => i ≤ ms.length ∧ ∃ X' da dc dvs,(∀ x ∈ X,x ∈ X') ∧ PathsRd Y (Zci n t (ms.take i)).2.2 dvs ∧ (Zci n t (ms.take i)).2.2.length ≤ dc ∧
    St W F [chR c f b T (Nt (Zci n t (ms.take i)).2.1) X',own 40 1 da dc dvs,pts bd (.cells (List.toArray [.slice da (Zci n t (ms.take i)).2.2.length dc]) 115 (0,0)),pts be (.cells (List.toArray [.int .i64 (Zci n t (ms.take i)).1]) 31 (0,0)),bag Y,own 5 1 eb eq (bv bs),pts b3 (.cells (List.toArray [.pointer (some ⟨tb,0,none⟩)]) 30 (0,0))] w)
   (fun i => ms.length - i) 0 ⟨rfl,rfl,rfl,rfl,rfl,rfl,rfl,rfl,rfl,trivial⟩ ⟨Nat.zero_le _,X2,none,0,[],hX12,.nil,Nat.le_refl _,hS⟩ ?_
  clear hS;rintro i w ⟨hi,X3,da,dc,dvs,hX3,hdP,hdc,hS⟩
  obtain ⟨hzt,hzl,hzm⟩ := Zlc ht _ (ms.take i) rfl
  rw [List.length_take] at hzl;by_cases hlt : i < ms.length
  ·have hp0 : ms[i]? = some ms[i] := List.getElem?_eq_getElem hlt
   have htk : ms.take (i + 1) = ms.take i ++ [ms[i]] := List.take_succ_eq_append_getElem hlt
   generalize ms[i] = p at hp0 htk;have hpl := hpl2 p (hmsub p (List.mem_of_getElem? hp0))
   obtain ⟨pa,pc,hx,hpc,hpr⟩ := hmP.2 i p hp0
   have hr := hma.rd (hS.rd (r := bag Y) (by simp))
   obtain ⟨xb,xo,hmb⟩ := hr.base (by intro e; rw [e] at hx; simp at hx)
   subst hmb
   repeat (first|refine Yea ?_|(refine X_id ?_;first|refine Yaf ?_|refine Yag ?_|refine Ya2 ?_|refine Ybl ?_|refine Ybc ?_|refine Yb2 ?_)|refine Yee ?_|refine Yab ?_)
   clear hr;obtain ⟨_,hcc,hr1,hw,hbk⟩ := hS.call [true,true,true,true]
   refine Zb4 (first := []) (captured := [.pointer (some ⟨be,0,none⟩),.pointer (some ⟨b3,0,none⟩),.pointer (some ⟨bd,0,none⟩)]) rfl rfl rfl rfl rfl (Z4r hzt tb be b3 bd name _ Zqp none 0 pa p pc da dc _ dvs _ _ (hT.mono hw) (hG.mono hw) (hw _ htb) (hr1 (pts b3 (.cells (List.toArray [.pointer (some ⟨tb,0,none⟩)]) 30 (0,0))) (by simp)) (hr1 (bag Y) (by simp)) hpr hpc hpl (Zfq _ _ _) hdP hdc (by omega) hcc) ?_
   rintro _ w ⟨rfl,X4,da',dc',vs',hX4,hP',hdc',hS⟩
   replace hS := hbk hS
   clear hbk hw hcc hr1;repeat (first|refine Yea ?_|refine Yef ?_|refine Yad ?_|refine Yei ?_)
   refine Zaf (i + 1) ⟨rfl,rfl,rfl,rfl,rfl,rfl,rfl,rfl,rfl,trivial⟩ ⟨hlt,X4,da',dc',vs',fun x hx => hX4 x (hX3 x hx),?_⟩ (by omega)
   rw [htk,Zlb];exact ⟨hP',hdc',hS.took⟩
  ·obtain rfl : i = ms.length := by omega
   rw [List.take_length] at hdP hdc hS hzt hzl hzm;generalize Zci n t ms = z at hdP hdc hS hzt hzl hzm ⊢;obtain ⟨ze,zt,zd⟩ := z
   simp only at hdP hdc hS hzt hzl hzm
   repeat (first|refine Yea ?_|(refine X_id ?_;first|refine Yaf ?_|refine Yau ?_|refine Yan ?_|refine Ya6 ?_|refine Ybl ?_|refine Yap ?_|refine Ybn (fun _ _ hS _ => ?_)|refine Yca ?_)|refine Yeq ?_|refine Yeg ?_)
   rename_i pb _ _;have hS := hS.pick [0,4,0,0,0,0,0,0]
   have hS := hS.bagAdd (a := some ⟨pb,0,none⟩) (cs := strV [dbN,name,key]) fun _ h => h.row
   obtain ⟨_,hcc,hr1,hw,hbk⟩ := hS.call [false,true,true,true,true]
   refine Zb4 (first := []) (captured := [.pointer (some ⟨be,0,none⟩),.pointer (some ⟨b3,0,none⟩),.pointer (some ⟨bd,0,none⟩)]) rfl rfl rfl rfl rfl (Z4r (Y := (some ⟨pb,0,none⟩,strV [dbN,name,key]) :: Y) hzt tb be b3 bd name ze (Zc7 bs) eb eq (some ⟨pb,0,none⟩) [dbN,name,key] 3 da dc zd dvs _ _ (hT.mono hw) (hG.mono hw) (hw _ htb) (hr1 (pts b3 (.cells (List.toArray [.pointer (some ⟨tb,0,none⟩)]) 30 (0,0))) (by simp)) (hr1 _ (List.mem_cons_self ..)) (.mem (List.mem_cons_self ..)) (Nat.le_refl 3) (by simp) (hr1 (own 5 1 eb eq (bv bs)) (by simp)).own_row (hdP.sub fun x hx => List.mem_cons_of_mem _ hx) hdc (by omega) hcc) ?_
   rintro _ w ⟨rfl,X4,da',dc',vs',hX4,hP',hdc',hS⟩
   replace hS := hbk hS
   clear hbk hw hcc hr1;have hzt' := Zla (n := n) (z := (ze,zt,zd)) hzt (Zc7 bs) [dbN,name,key]
   have hdn : (Zcc n (ze,zt,zd) (Zc7 bs) [dbN,name,key]).2.2.length ≤ 3 ∧ ∀ p ∈ (Zcc n (ze,zt,zd) (Zc7 bs) [dbN,name,key]).2.2,p.length ≤ 1048576 := by
    have hz1 : ∀ p ∈ zd,p.length ≤ 1048576 := fun p hp => hpl2 p (hmsub p (hzm p hp))
    rcases Zhc (n := n) (z := (ze,zt,zd)) (nd := Zc7 bs) (p := [dbN,name,key]) with h | h
    ·rw [h]; exact ⟨by simp only; omega,hz1⟩
    ·rw [h]
     refine ⟨by rw [List.length_append]; simp only [List.length_singleton]; omega,fun p hp => ?_⟩
     rcases List.mem_append.1 hp with hp | hp
     ·exact hz1 p hp
     ·obtain rfl := List.mem_singleton.1 hp
      simp
   generalize Zcc n (ze,zt,zd) (Zc7 bs) [dbN,name,key] = z' at hS hP' hdc' hzt' hdn ⊢;obtain ⟨e',t',d'⟩ := z'
   simp only at hS hP' hdc' hzt' hdn ⊢
   by_cases h0 : e' = 0
   ·subst h0
    rw [if_pos rfl];repeat (first|refine Yea ?_|refine Yag ?_|refine Ya4 ?_|refine Yap ?_|refine Yfa ?_|refine Yec ?_)
    exact ⟨rfl,X4,fun x hx => hX4 x (hX3 x hx),hS.took⟩
   ·rw [if_neg h0]
    repeat (first|refine Yea ?_|refine Ybj ?_|refine Yap ?_|refine Yev ?_|refine Yab ?_)
    obtain ⟨_,hcc,hr1,hw,hbk⟩ := hS.call [true]
    refine Zaa _ rfl rfl rfl rfl rfl (Z6p hzt' tb name da' d' dc' vs' _ _ (hT.mono hw) (hG.mono hw) (hw _ htb) (hr1 (bag ((some ⟨pb,0,none⟩,strV [dbN,name,key]) :: Y)) (by simp)) hP' (hr1 _ (List.mem_cons_self ..)).own_row (by omega) hdn.2 hcc) ?_
    rintro _ w ⟨rfl,X5,hX5,hS⟩
    replace hS := hbk hS
    clear hbk hw hcc hr1;repeat (first|refine Yea ?_|refine Yag ?_|refine Yap ?_|refine Ye1 ?_|refine Yec ?_)
    exact ⟨rfl,X5,fun x hx => hX5 x (hX4 x (hX3 x hx)),hS.took⟩
end
end Cr
