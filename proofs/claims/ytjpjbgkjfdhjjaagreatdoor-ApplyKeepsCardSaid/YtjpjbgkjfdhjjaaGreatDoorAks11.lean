/-
  Layer 8 (tree): a name's place found in a list that rises.
  Layer 8 (tree): a name laid into a list.
  Layer 8 (tree) in plain words,3: names laid into a list that rises,and taken out of it. No program is in sight.
  Layer 8 (tree): a name enters a directory.
  Layer 8 (tree): a name taken out of a directory.
  Layer 8 (tree) in plain words,4: a tree with another one at a path; which nodes it has. No program is in sight.
  Layer 8 (tree) in plain words,5: a node made,turned,taken out. No program is in sight.
  Layer 8 (tree): a directory left; a free node; what is wrong with a node to be made.
  Layer 8 (tree): Make.
  Layer 8 (tree) in plain words,6: other bytes,a node taken out. No program is in sight.
  Layer 8 (tree): Put,Remove.
  Layer 9 (table): a table of a change; what stands at a path; a key's value.
  Layer 9 (table): the directories that are still to be made.
  Layer 9 (table): one more node of a value's way; what was made is taken away again.
  Layer 9 (table): what was made is taken away again.
  Layer 9 (table): Put.
-/
import Derived.Test.YtjpjbgkjfdhjjaaGreatDoorAks10
import Derived.Test.YtjpjbgkjfdhjjaaGreatDoorAks5
import Derived.Test.YtjpjbgkjfdhjjaaGreatDoorAks6
import Derived.Test.YtjpjbgkjfdhjjaaGreatDoorAks3
namespace Cr
open Go Go.Proofs
set_option maxRecDepth 100000
set_option maxHeartbeats 64000000
attribute [local irreducible] Calls

theorem Z2w (a b : List UInt8) (W : World) : Calls Tryz.prog 95 #[.string (str a),.string (str b)] W (Ret fun v w => v = .int .i64 (Lib.compareBytes a b) ∧ St W noF [] w) := by
 refine (Tryz.strings_Compare (str a) (str b) W).mono ?_
 rintro e w ⟨rfl,rfl⟩
 exact ⟨_,rfl,rfl,St.start _⟩
theorem Z34 (x : Nm) (s : List UInt8) (W : World) : Calls Tryz.prog 94 #[.agg (List.toArray [.string (str x.1),.int .i64 x.2]),.string (str s)] W (Ret fun v w => v = .int .i64 (Lib.compareBytes x.1 s) ∧ St W noF [] w) := by
 have hS := St.start W
 have hc := fun W => Z2w x.1 s W
 refine Zab Tryz.func94 rfl Tryz.ntmps94 rfl ?_
 repeat (first|refine Yd1 ?_|(refine X_id ?_;first|(refine Zad 95 rfl rfl rfl rfl rfl hS (hc _) ?_;rintro _ _ rfl hS)|refine Yaf ?_|refine Yag ?_|refine Yan ?_|refine Yaq ?_|refine Ybc (fun _ _ hS _ => ?_))|refine Yee ?_|refine Yd3 ?_)
 exact ⟨rfl,hS.drops⟩
theorem Zxe {i k m : Nat} (h : i + k ≤ 9223372036854775807) (hm : m = (i + k) / 2) : IntKind.i64.wrap (ishr IntKind.u64 (IntKind.u64.wrap ((i : Int) + (k : Int))) (Int.toNat 1)) = (m : Int) := by
 have h1 : IntKind.u64.wrap ((i : Int) + (k : Int)) = ((i + k : Nat) : Int) := by
  unfold IntKind.wrap
  simp only [IntKind.bits,IntKind.signed]
  simp
  omega
 rw [h1,show Int.toNat 1 = 1 from rfl,Zyj 1 (by decide),hm];exact w64 (by omega) (by omega)
def PosN (s : List UInt8) (l : List Nm) (i : Nat) : Prop := i ≤ l.length ∧ (∀ j,j < i → ∀ y,l[j]? = some y → ltS y.1 s) ∧ ∀ j,i ≤ j → ∀ y,l[j]? = some y → ¬ ltS y.1 s
theorem Zy8 (a : Option Addr) (l : List Nm) (c : Nat) (s : List UInt8) (W : World) (hr0 : Rd W (row a (nmV l))) (hl : l.length ≤ 1048576) (hm : l.Pairwise fun x y => ltS x.1 y.1) :
  Calls Tryz.prog 93 #[.slice a l.length c,.string (str s),.func (.func 94) #[] #[]] W (Ret fun v w => (∃ (i : Nat) (b : Bool),v = .tuple #[.int .i64 (i : Nat),.bool b] ∧ PosN s l i) ∧ St W noF [] w) := by
 have hr1 := hr0.ro
 have hmono : ∀ (i j : Nat) (x y : Nm),i < j → l[i]? = some x → l[j]? = some y → ltS y.1 s → ltS x.1 s := fun i j x y hij hx hy h => by
  obtain ⟨hi,hxe⟩ := List.getElem?_eq_some_iff.1 hx
  obtain ⟨hj,hye⟩ := List.getElem?_eq_some_iff.1 hy
  have := List.pairwise_iff_getElem.1 hm i j hi hj hij
  rw [hxe,hye] at this;exact Zoh this h
 have hS := St.start W
 refine Zab Tryz.func93 rfl Tryz.ntmps93 rfl ?_
 repeat (first|refine Yd1 ?_|refine Ye1 ?_|refine Yd4 ?_|refine Yab ?_)
 refine Zcd (α := Nat) (fun i => [(0,.slice a l.length c),(1,.string (str s)),(2,.func (.func 94) #[] #[]),(8,.int .i64 (l.length : Nat)),(9,.int .i64 (i : Nat))]) (fun i w => PosN s l i ∧ St W noF [] w) ?_ ?_
 ·refine Zak (α := Nat × Nat) (fun z => [(0,.slice a l.length c),(1,.string (str s)),(2,.func (.func 94) #[] #[]),(8,.int .i64 (l.length : Nat)),(9,.int .i64 (z.1 : Nat)),(10,.int .i64 (z.2 : Nat))])
   (fun z w => z.1 ≤ z.2 ∧ z.2 ≤ l.length ∧ (∀ j,j < z.1 → ∀ y,l[j]? = some y → ltS y.1 s) ∧ (∀ j,z.2 ≤ j → ∀ y,l[j]? = some y → ¬ ltS y.1 s) ∧ St W noF [] w) (fun z => z.2 - z.1) (0,l.length) ⟨rfl,rfl,rfl,rfl,rfl,rfl,trivial⟩ ⟨Nat.zero_le _,Nat.le_refl _,fun j hj => absurd hj (by simp),fun j hj y hy => (by have := (List.getElem?_eq_some_iff.1 hy).1; simp only at hj; omega),hS⟩ ?_
  clear hS;rintro ⟨i,k⟩ w ⟨hik,hkl,h1,h2,hS2⟩
  simp only at hik hkl h1 h2 hS2
  by_cases hlt : i < k
  ·obtain ⟨m,hm2⟩ : ∃ m,m = (i + k) / 2 := ⟨_,rfl⟩
   have hx0 : l[m]? = some l[m] := List.getElem?_eq_getElem (by omega)
   generalize l[m] = x at hx0;have hr := hr1
   have hxs : ((nmV l).drop (m * 2)).take 2 = [.string (str x.1),.int .i64 x.2] := Zhc hx0
   obtain ⟨xb,xo,rfl⟩ := (hr.rd hS2).base (by intro e; rw [e] at hxs; simp at hxs)
   have hS := hS2
   have hcm := fun W => Z34 x s W
   repeat (first|refine Yd1 ?_|(refine X_id ?_;first|refine Yaf ?_|refine Yag ?_|refine Ya0 ?_|refine Yaw ?_|refine Ydd ?_|refine Ycu ?_)|refine Yd5 ?_|refine Yab ?_)
   rw [Zxe (by omega) hm2];by_cases hq : ltS x.1 s
   ·have hq' : Lib.compareBytes x.1 s < 0 := hq
    repeat (first|refine Yaa ?_|refine Yaf ?_|refine Ybd ?_|refine Ybp ?_)
    refine Zca (first := []) (captured := []) rfl rfl rfl rfl rfl (hcm _) ?_
    rintro _ w' ⟨rfl,hS'⟩
    replace hS := hS.plus hS';clear hS';repeat (first|refine Yd1 ?_|refine Yaf ?_|refine Yag ?_|refine Ya0 ?_|refine Yaw ?_|refine Yad ?_|refine Yaj ?_|refine Yd9 ?_)
    refine Zaf (z := (i,k)) (m + 1,k) ⟨rfl,rfl,rfl,rfl,rfl,rfl,trivial⟩ ⟨by dsimp only; omega,hkl,fun j hj y hy => ?_,h2,hS⟩ (by dsimp only; omega)
    by_cases hjm : j = m
    ·subst hjm; rw [hx0] at hy; cases hy; exact hq
    ·exact hmono j m y x (by simp only at hj; omega) hy hx0 hq
   ·have hq' : ¬ Lib.compareBytes x.1 s < 0 := hq
    repeat (first|refine Yaa ?_|refine Yaf ?_|refine Ybd ?_|refine Ybp ?_)
    refine Zca (first := []) (captured := []) rfl rfl rfl rfl rfl (hcm _) ?_
    rintro _ w' ⟨rfl,hS'⟩
    replace hS := hS.plus hS';clear hS';repeat (first|refine Yd1 ?_|refine Ye2 ?_|refine Yad ?_|refine Yai ?_|refine Yd9 ?_)
    refine Zaf (z := (i,k)) (i,m) ⟨rfl,rfl,rfl,rfl,rfl,rfl,trivial⟩ ⟨by dsimp only; omega,by dsimp only; omega,h1,fun j hj y hy hjs => ?_,hS⟩ (by dsimp only; omega)
    by_cases hjm : j = m
    ·subst hjm; rw [hx0] at hy; cases hy; exact hq hjs
    ·exact hq (hmono m j x y (by simp only at hj; omega) hx0 hy hjs)
  ·obtain rfl : i = k := by omega
   have hS := hS2
   repeat (first|refine Yd1 ?_|refine Yaf ?_|refine Ya1 ?_|refine Yed ?_|refine Yd7 ?_)
   exact Zcb i ⟨rfl,rfl,rfl,rfl,rfl,trivial⟩ ⟨⟨hkl,h1,h2⟩,hS⟩
 ·rintro i w ⟨hp,hS2⟩
  have hil := hp.1
  by_cases hlt : i < l.length
  ·have hx0 : l[i]? = some l[i] := List.getElem?_eq_getElem hlt
   generalize l[i] = x at hx0;have hr := hr1
   have hxs : ((nmV l).drop (i * 2)).take 2 = [.string (str x.1),.int .i64 x.2] := Zhc hx0
   obtain ⟨xb,xo,rfl⟩ := (hr.rd hS2).base (by intro e; rw [e] at hxs; simp at hxs)
   have hcm := fun W => Z34 x s W
   have hS := hS2
   by_cases hq : Lib.compareBytes x.1 s = 0
   ·repeat (first|refine Yaa ?_|refine Yav ?_|refine Yaf ?_|refine Ya0 ?_|refine Ybd ?_|refine Ybp ?_|refine Yd2 ?_)
    refine Zca (first := []) (captured := []) rfl rfl rfl rfl rfl (hcm _) ?_
    rintro _ w' ⟨rfl,hS'⟩
    replace hS := hS.plus hS';clear hS';repeat (first|refine Yeh ?_|refine Yag ?_|refine Yba ?_|refine Ybf ?_|refine Yah ?_|refine Yep ?_)
    exact ⟨⟨i,_,rfl,hp⟩,hS⟩
   ·repeat (first|refine Yaa ?_|refine Yav ?_|refine Yaf ?_|refine Ya0 ?_|refine Ybd ?_|refine Ybp ?_|refine Yd2 ?_)
    refine Zca (first := []) (captured := []) rfl rfl rfl rfl rfl (hcm _) ?_
    rintro _ w' ⟨rfl,hS'⟩
    replace hS := hS.plus hS';clear hS';repeat (first|refine Yeh ?_|refine Yag ?_|refine Yba ?_|refine Ybg ?_|refine Yah ?_|refine Yep ?_)
    exact ⟨⟨i,_,rfl,hp⟩,hS⟩
  ·have hS := hS2
   repeat (first|refine Yek ?_|refine Yaf ?_|refine Yag ?_|refine Ya3 ?_|refine Ya1 ?_|refine Yee ?_|refine Yep ?_)
   exact ⟨⟨i,_,rfl,hp⟩,hS⟩
theorem Zr3 (l : List Nm) (i : Nat) : nmV (l.take i) = (nmV l).take (i * 2) := by
 induction l generalizing i with
 | nil => simp [nmV]
 | cons x l ih =>
  cases i with
  | zero => simp [nmV]
  | succ i =>
   rw [List.take_succ_cons];have := ih i
   simp only [nmV,List.flatMap_cons,nmC] at this ⊢
   rw [this,show (i + 1) * 2 = i * 2 + 1 + 1 by omega]
   simp
theorem Zr4 (l : List Nm) (i : Nat) : nmV (l.drop i) = (nmV l).drop (i * 2) := by
 induction l generalizing i with
 | nil => simp [nmV]
 | cons x l ih =>
  cases i with
  | zero => simp [nmV]
  | succ i =>
   rw [List.drop_succ_cons];have := ih i
   simp only [nmV,List.flatMap_cons,nmC] at this ⊢
   rw [this,show (i + 1) * 2 = i * 2 + 1 + 1 by omega]
   simp
theorem St.swap1 {W : World} {F : Nat → Prop} {r s : Res} {rs : List Res} {w : World} (hS : St W F (r :: s :: rs) w) : St W F (s :: r :: rs) w := hS.imp fun _ h => h.swap
theorem Zed {b j e c : Nat} (h : j < c) : Cr.sub (some ⟨b,0,none⟩) j e c = some ⟨b,j * e,none⟩ := by
 unfold Cr.sub
 rw [if_neg (by omega)];simp [Zbi]
theorem Ztg {cs r : List Value} {k : Nat} {u v p q : Value} (hk : k ≤ cs.length) : Zai (Zai (cs ++ u :: v :: r) (k + 2) (cs.drop k)) k [p,q] = cs.take k ++ [p,q] ++ cs.drop k ++ r := by
 have h1 : ((cs ++ u :: v :: r).take (k + 2)).length = k + 2 := by simp; omega
 have h2 : (cs ++ u :: v :: r).drop (k + 2 + (cs.drop k).length) = r := by
  rw [List.length_drop,show k + 2 + (cs.length - k) = cs.length + 2 by omega,List.drop_append,List.drop_of_length_le (by omega)]
  simp
 unfold Zai
 rw [h2];have h3 : (((cs ++ u :: v :: r).take (k + 2) ++ cs.drop k) ++ r).take k = cs.take k := by
  rw [List.append_assoc,List.take_append_of_le_length (by omega),List.take_take,Nat.min_eq_left (by omega),List.take_append_of_le_length hk]
 have h4 : (((cs ++ u :: v :: r).take (k + 2) ++ cs.drop k) ++ r).drop (k + [p,q].length) = cs.drop k ++ r := by
  rw [List.append_assoc,show k + [p,q].length = ((cs ++ u :: v :: r).take (k + 2)).length by rw [h1]; rfl,List.drop_left]
 rw [h3,h4]; simp
theorem Zte {A Z R D : List Value} {p q : Value} (hz : Z.length = D.length + 2) : Zai (Zai (A ++ Z ++ R) A.length [p,q]) (A.length + 2) D = A ++ [p,q] ++ D ++ R := by
 match Z,hz with
 | u :: v :: Z',hz =>
  have hz' : Z'.length = D.length := by simpa using hz
  have e1 : Zai (A ++ (u :: v :: Z') ++ R) A.length [p,q] = A ++ [p,q] ++ (Z' ++ R) := by
   rw [show A ++ (u :: v :: Z') ++ R = A ++ (u :: v :: (Z' ++ R)) by simp]
   unfold Zai
   rw [List.take_left,show A.length + [p,q].length = A.length + 2 from rfl,List.drop_append,List.drop_of_length_le (by omega)]
   simp
  rw [e1];have hl : A.length + 2 = (A ++ [p,q]).length := by simp
  unfold Zai
  rw [hl,List.take_left,List.drop_append,List.drop_of_length_le (by omega),← hz'];simp
theorem Z1l (a : Option Addr) (c : Nat) (l : List Nm) (i : Nat) (y : Nm) (vb : Nat) (W : World) (F : Nat → Prop) (hi : i ≤ l.length) (hlc : l.length ≤ c) (hl : l.length ≤ 1048576) (hS : St W F [own 93 2 a c (nmV l),own 93 2 (some ⟨vb,0,none⟩) 1 (nmC y)] W) :
  Calls Tryz.prog 96 #[.slice a l.length c,.int .i64 (i : Nat),.slice (some ⟨vb,0,none⟩) 1 1] W (Ret fun v w => ∃ a' c',v = .slice a' (l.length + 1) c' ∧ l.length + 1 ≤ c' ∧ St W F [own 93 2 a' c' (nmV (l.take i ++ [y] ++ l.drop i))] w) := by
 have hnl := Zgk l
 refine Zab Tryz.func96 rfl Tryz.ntmps96 rfl ?_
 repeat (first|refine Yd1 ?_|refine Yef ?_|refine Yd2 ?_|refine Yab ?_)
 refine X_yl (Zam (l := i) (h := l.length) rfl rfl rfl rfl (.inl ⟨rfl,rfl⟩) (.inr ⟨_,_,rfl,by omega,by omega,by omega⟩)) rfl rfl ?_
 by_cases hil : i = l.length
 ·subst hil
  repeat (first|refine Yd1 ?_|(refine X_id ?_;first|refine Yaf ?_|refine Yag ?_|refine Yar ?_|refine Ybf ?_|refine Ybg ?_)|refine Yew ?_|refine Yab ?_)
  have hnw := (hS.rd (r := own 93 2 (some ⟨vb,0,none⟩) 1 (nmC y)) (by simp)).own_row
  refine Zar rfl rfl rfl rfl rfl hS hnl hlc hnw rfl (by simp [Value.oneCell',nmC]) (by omega) (by simp only [maxLen]; omega) (fun b' q' w hS hq' _ => ?_)
  repeat (first|refine Yd1 ?_|refine Yag ?_|refine Yah ?_|refine Yej ?_)
  refine ⟨b',q',rfl,hq',?_⟩
  rw [List.take_length,List.drop_length,List.append_nil,Zj2,show nmV [y] = nmC y by simp [nmV]]
  exact hS.took
 ·have hlt : i < l.length := by omega
  have hne : nmV l ≠ [] := fun e => by rw [e] at hnl; simp at hnl; omega
  have hdl : (nmV l).drop (i * 2) = nmV (l.drop i) := (Zr4 l i).symm
  have h1d : ∀ u ∈ (nmV l).drop (i * 2),u.oneCell' = true := fun u hu => Zqi l u (List.mem_of_mem_drop hu)
  have h1y : ∀ u ∈ nmC y,u.oneCell' = true := fun u hu => Zqi [y] u (by simpa [nmV] using hu)
  have hfin : nmV (l.take i ++ [y] ++ l.drop i) = (nmV l).take (i * 2) ++ [.string (str y.1),.int .i64 y.2] ++ (nmV l).drop (i * 2) := by
   rw [Zj2,Zj2,Zr3,Zr4]; simp [nmV,nmC]
  by_cases hroom : l.length + 1 ≤ c
  ·obtain ⟨b,cells,rfl,hcl,hct,hcm,hS⟩ := hS.openOwn hne
   have hS := hS.sel [false,true]
   obtain ⟨vb',vl,hvb,hvl,hvt,_,hS⟩ := hS.openOwn (by simp [nmC])
   obtain rfl : vb = vb' := by injection hvb with hvb; injection hvb
   obtain rfl : vl = nmC y := by rw [← hvt,List.take_of_length_le (by rw [hvl]; simp [nmC])]
   have hnev := hS.ptsNe
   repeat (first|refine Yd1 ?_|(refine X_id ?_;first|refine Yaf ?_|refine Yag ?_|refine Yar ?_|refine Ycx ?_|refine Ybg ?_|refine Ybq ?_|refine Yaw ?_)|refine Yec ?_|refine Yab ?_)
   refine X_yl (Zam (l := 0) (h := l.length + 1) rfl rfl rfl rfl (.inr ⟨_,_,rfl,by omega,by omega,by omega⟩) (.inl ⟨rfl,rfl⟩)) rfl rfl ?_
   rw [Zed (show 0 < c by omega)]
   simp only [Nat.zero_mul,Nat.sub_zero]
   repeat (first|refine Yd1 ?_|refine Yeg ?_|refine Yd2 ?_|refine Yab ?_)
   refine X_yl (Zam (l := i + 1) (h := l.length + 1) rfl rfl rfl rfl (.inl ⟨rfl,rfl⟩) (.inr ⟨_,_,rfl,by omega,by omega,by omega⟩)) rfl rfl ?_
   rw [Zed (show i + 1 < c by omega)]
   repeat (first|refine Yaa ?_)
   refine Znl rfl rfl rfl (EOver.run (T := 93) hnev hS.get (hS.swap1.get) (by intro e; rw [e] at hcl; simp at hcl; omega)) rfl rfl ?_
   obtain ⟨u,v,r,hcr⟩ : ∃ u v r,cells = nmV l ++ u :: v :: r := by
    have h1 := List.take_append_drop (nmV l).length cells
    rw [hct] at h1;have h2 : (cells.drop (nmV l).length).length = (c - l.length) * 2 := by rw [List.length_drop,hcl,hnl]; omega
    match hh : cells.drop (nmV l).length with
    | [] => rw [hh] at h2; simp at h2; omega
    | [_] => rw [hh] at h2; simp at h2; omega
    | u :: v :: r => exact ⟨u,v,r,by rw [← hh,h1]⟩
   have hS : St W F [pts b (.cells cells.toArray 93 (0,0)),pts vb (.cells (nmC y).toArray 93 (0,0))] _ := hS.swap1
   repeat (first|refine Yd1 ?_|refine Ybn ?_|refine Yae ?_|refine Yaj ?_|refine Yab ?_)
   refine Zaq (.s 0 (.s 1 (.s 2 (.s 3 (.s 4 (.s 5 (.s 6 (.s 7 (.h 8 .nil .no))))))))) mixed (by kernel_rfl) rfl ?_
   have hS := hS.drew
   repeat (first|(refine Zae ?_;first|refine Ya4 ?_|refine Yco ?_))
   refine Zah rfl rfl (fun _ => Zam (l := i + 1) (h := l.length + 1) rfl rfl rfl rfl (.inl ⟨rfl,rfl⟩) (.inr ⟨_,_,rfl,by omega,by omega,by omega⟩)) rfl rfl ?_
   rw [Zed (show i + 1 < c by omega)]
   repeat (first|(refine Zae ?_;first|refine Ya4 ?_))
   refine Zah rfl rfl (fun _ => Zam (l := i) (h := l.length + 1) rfl rfl rfl rfl (.inl ⟨rfl,rfl⟩) (.inr ⟨_,_,rfl,by omega,by omega,by omega⟩)) rfl rfl ?_
   rw [Zed (show i < c by omega)]
   repeat (first|(refine Zae ?_;first|refine Yay ?_))
   have hrd := (hS.rd (List.mem_cons_self ..)).mono (r' := row (some ⟨b,i * 2,none⟩) ((nmV l).drop (i * 2))) (by
    refine fun g hg => ⟨g,.inr ⟨b,i * 2,cells.toArray,_,(0,0),rfl,hg,fun j v hv => ?_⟩,fun _ _ e => e⟩
    rw [List.getElem?_drop] at hv;rw [hcr];simp only [List.getElem?_toArray]
    rw [List.getElem?_append_left (List.getElem?_eq_some_iff.1 hv).1];exact hv)
   refine Znn rfl rfl rfl rfl rfl hS hrd (by rw [List.length_drop,hnl]; omega) h1d (by rw [List.length_drop,hnl,hcl]; omega) (fun w hS => ?_)
   repeat (first|refine Yaa ?_|refine Yaf ?_|refine Yd2 ?_|refine Yab ?_|(refine Zae ?_;first|refine Ya2 ?_)|(refine Zac ?_;first|refine Yaz ?_))
   refine X_yl (Zam (l := i) (h := l.length + 1) rfl rfl rfl rfl (.inl ⟨rfl,rfl⟩) (.inr ⟨_,_,rfl,by omega,by omega,by omega⟩)) rfl rfl ?_
   rw [Zed (show i < c by omega)]
   repeat (first|refine Yaa ?_|refine Yaf ?_)
   have hvd := (hS.rd (r := pts vb (.cells (nmC y).toArray 93 (0,0))) (by simp)).mono (r' := row (some ⟨vb,0,none⟩) (nmC y)) fun g hg => ⟨g,.inr ⟨vb,0,_,_,(0,0),rfl,hg,fun j v hv => by simpa using hv⟩,fun _ _ e => e⟩
   have hsl : (Zai cells ((i + 1) * 2) ((nmV l).drop (i * 2))).length = cells.length := Zbp (by rw [List.length_drop,hnl,hcl]; omega)
   refine Znn rfl rfl rfl rfl rfl hS hvd (by simp [nmC]; omega) h1y (by rw [hsl,hcl]; simp [nmC]; omega) (fun w hS => ?_)
   repeat (first|refine Yd1 ?_|refine Yef ?_|refine Yee ?_|refine Yej ?_)
   refine ⟨_,_,rfl,by omega,?_⟩
   have hS : St W F [pts b (.cells (Zai (Zai cells ((i + 1) * 2) ((nmV l).drop (i * 2))) (i * 2) (nmC y)).toArray 93 (0,0))] _ := hS.took
   have hin : Zai (Zai cells ((i + 1) * 2) ((nmV l).drop (i * 2))) (i * 2) (nmC y) = nmV (l.take i ++ [y] ++ l.drop i) ++ r := by
    rw [hfin,hcr,show (i + 1) * 2 = i * 2 + 2 by omega]
    exact Ztg (by omega)
   rw [hin] at hS;refine hS.head fun g hg => Za8 (c := c) (l := nmV (l.take i ++ [y] ++ l.drop i) ++ r) ?_ hcm List.take_left g hg
   rw [← hin,Zbp (by rw [hsl,hcl]; simp [nmC]; omega),hsl,hcl]
  ·obtain ⟨b,hab⟩ := St.ownBase hS hne
   subst hab
   repeat (first|refine Yd1 ?_|(refine X_id ?_;first|refine Yaf ?_|refine Yag ?_|refine Yar ?_|refine Ycx ?_|refine Ybg ?_|refine Ybv ?_|refine Yaw ?_)|refine Yew ?_|refine Yab ?_)
   refine X_yl (Zam (l := 0) (h := i) rfl rfl rfl rfl (.inr ⟨_,_,rfl,by omega,by omega,by omega⟩) (.inl ⟨rfl,rfl⟩)) rfl rfl ?_
   rw [Zed (show 0 < c by omega)]
   simp only [Nat.zero_mul,Nat.sub_zero]
   repeat (first|refine Yaa ?_|refine Yaf ?_|refine Yaw ?_|refine Ybw ?_)
   rw [show ((l.length : Int) + ((1 : Nat) : Int) - (i : Int)) = ((l.length + 1 - i : Nat) : Int) by omega]
   have hrd0 := ((hS.rd (List.mem_cons_self ..)).own_row.sub (l := 0) (h := i) (e := 2) (c := c) (by omega) (Nat.zero_le _))
   rw [Zed (show 0 < c by omega)] at hrd0
   simp only [Nat.zero_mul,Nat.sub_zero,List.drop_zero] at hrd0
   refine Zk0 (n := i) (m := l.length + 1 - i) rfl rfl rfl rfl rfl hS hrd0 (by rw [List.length_take,hnl]; omega) (by omega) (by omega) (by decide) (by omega) (by simp only [maxLen]; omega) (fun g c' zs w hzs hS hc' => ?_)
   rw [show i + (l.length + 1 - i) = l.length + 1 by omega] at hc' ⊢
   have hAl : ((nmV l).take (i * 2)).length = i * 2 := by rw [List.length_take,hnl]; omega
   have hDl : ((nmV l).drop (i * 2)).length = (l.length - i) * 2 := by rw [List.length_drop,hnl]; omega
   obtain ⟨g',cells,hg',hcl,hct,hcm,hS⟩ := St.openOwn hS (by
    intro e
    have := congrArg List.length e
    rw [List.length_append,hAl,hzs] at this;simp only [List.length_nil] at this; omega)
   obtain rfl : g = g' := by injection hg' with h; injection h
   obtain ⟨R,hcr⟩ : ∃ R,cells = (nmV l).take (i * 2) ++ zs ++ R := ⟨_,by
    have h1 := List.take_append_drop ((nmV l).take (i * 2) ++ zs).length cells
    rw [hct] at h1; exact h1.symm⟩
   repeat (first|refine Yd1 ?_|refine Yef ?_|refine Yd2 ?_|refine Yab ?_)
   refine X_yl (Zam (l := i) (h := l.length + 1) rfl rfl rfl rfl (.inl ⟨rfl,rfl⟩) (.inr ⟨_,_,rfl,by omega,by omega,by omega⟩)) rfl rfl ?_
   rw [Zed (show i < c' by omega)]
   repeat (first|refine Yaa ?_|refine Yaf ?_)
   have hvd := (hS.rd (r := own 93 2 (some ⟨vb,0,none⟩) 1 (nmC y)) (by simp)).own_row
   refine Znn rfl rfl rfl rfl rfl hS hvd (by simp [nmC]; omega) h1y (by rw [hcl]; simp [nmC]; omega) (fun w hS => ?_)
   repeat (first|refine Yac ?_|refine Yae ?_|refine Yab ?_)
   refine Zaq (.s 0 (.s 1 (.s 2 (.s 3 (.s 4 (.s 5 (.s 6 (.s 7 (.h 8 .nil .no))))))))) mixed (by kernel_rfl) rfl ?_
   have hS := hS.drew
   repeat (first|(refine Zae ?_;first|refine Ya4 ?_|refine Yco ?_))
   refine Zah rfl rfl (fun _ => Zam (l := i + 1) (h := l.length + 1) rfl rfl rfl rfl (.inl ⟨rfl,rfl⟩) (.inr ⟨_,_,rfl,by omega,by omega,by omega⟩)) rfl rfl ?_
   rw [Zed (show i + 1 < c' by omega)]
   repeat (first|(refine Zae ?_;first|refine Ya4 ?_))
   refine Zah rfl rfl (fun _ => Zam (l := i) (h := l.length) rfl rfl rfl rfl (.inl ⟨rfl,rfl⟩) (.inr ⟨_,_,rfl,by omega,by omega,by omega⟩)) rfl rfl ?_
   rw [Zed (show i < c by omega)]
   repeat (first|(refine Zae ?_;first|refine Yay ?_))
   have hrd := (hS.rd (r := own 93 2 (some ⟨b,0,none⟩) c (nmV l)) (by simp)).own_row.sub (l := i) (h := l.length) (e := 2) (c := c) hlc (by omega)
   rw [Zed (show i < c by omega),List.take_of_length_le (by rw [hDl]; exact Nat.le_refl _)] at hrd
   have hsl : (Zai cells (i * 2) (nmC y)).length = cells.length := Zbp (by rw [hcl]; simp [nmC]; omega)
   refine Znn rfl rfl rfl rfl rfl hS hrd (by rw [hDl]; omega) h1d (by rw [hsl,hcl,hDl]; omega) (fun w hS => ?_)
   repeat (first|refine Yd1 ?_|refine Yef ?_|refine Yee ?_|refine Yej ?_|(refine Zae ?_;first|refine Ya2 ?_)|(refine Zac ?_;first|refine Yaz ?_))
   refine ⟨_,_,rfl,hc',?_⟩
   have hS : St W F [pts g (.cells (Zai (Zai cells (i * 2) (nmC y)) ((i + 1) * 2) ((nmV l).drop (i * 2))).toArray 93 (0,0))] _ := hS.took
   have hin : Zai (Zai cells (i * 2) (nmC y)) ((i + 1) * 2) ((nmV l).drop (i * 2)) = nmV (l.take i ++ [y] ++ l.drop i) ++ R := by
    have := Zte (A := (nmV l).take (i * 2)) (Z := zs) (R := R) (D := (nmV l).drop (i * 2)) (p := .string (str y.1)) (q := .int .i64 y.2) (by rw [hzs,hDl]; omega)
    rw [hAl] at this;rw [hfin,hcr,show (i + 1) * 2 = i * 2 + 2 by omega]
    exact this
   rw [hin] at hS;refine hS.head fun g hg => Za8 (c := c') (l := nmV (l.take i ++ [y] ++ l.drop i) ++ R) ?_ hcm List.take_left g hg
   rw [← hin,Zbp (by rw [hsl,hcl,hDl]; omega),hsl,hcl]
end Cr
namespace Cr
open Go
set_option maxHeartbeats 64000000

def insN (y : Nm) : List Nm → List Nm
 | [] => [y]
 | x :: l => if ltS x.1 y.1 then x :: insN y l else y :: x :: l
def rmN (s : List UInt8) (l : List Nm) : List Nm := l.filter fun x => decide (x.1 ≠ s)
def insT (k : Tn) : List Tn → List Tn
 | [] => [k]
 | x :: l => if ltS x.nm k.nm then x :: insT k l else k :: x :: l
def rmT (s : List UInt8) (l : List Tn) : List Tn := l.filter fun x => decide (x.nm ≠ s)
theorem Zia (k : Tn) : ∀ l : List Tn,(insT k l).map (fun k => ((k.nm,k.no) : Nm)) = insN (k.nm,k.no) (l.map fun k => (k.nm,k.no))
 | [] => rfl
 | x :: l => by
  rw [insT,List.map_cons,insN];by_cases h : ltS x.nm k.nm
  ·rw [if_pos h,if_pos h,List.map_cons,Zia k l]
  ·rw [if_neg h,if_neg h]; rfl
theorem Zoa (s : List UInt8) (l : List Tn) : (rmT s l).map (fun k => ((k.nm,k.no) : Nm)) = rmN s (l.map fun k => (k.nm,k.no)) := by
 unfold rmT rmN; rw [List.filter_map]; rfl
theorem Zsh {y : Nm} : ∀ {l : List Nm} {i : Nat},i ≤ l.length → (∀ j,j < i → ∀ x,l[j]? = some x → ltS x.1 y.1) → (∀ j,i ≤ j → ∀ x,l[j]? = some x → ¬ ltS x.1 y.1) → l.take i ++ [y] ++ l.drop i = insN y l
 | [],i,_,_,_ => by simp [insN]
 | x :: l,0,_,_,h2 => by
  rw [insN,if_neg (h2 0 (Nat.le_refl _) x rfl)]; rfl
 | x :: l,i + 1,hi,h1,h2 => by
  rw [insN,if_pos (h1 0 (by omega) x rfl)];have ih := Zsh (y := y) (l := l) (i := i) (by simpa using hi) (fun j hj z hz => h1 (j + 1) (by omega) z (by simpa using hz)) (fun j hj z hz => h2 (j + 1) (by omega) z (by simpa using hz))
  rw [← ih]; simp
theorem Zfe (y : Nm) : ∀ l : List Nm,(insN y l).Perm (y :: l)
 | [] => .refl _
 | x :: l => by
  rw [insN]
  split
  ·exact ((Zfe y l).cons x).trans (.swap _ _ _)
  ·exact .refl _
theorem Zeg (y : Tn) : ∀ l : List Tn,(insT y l).Perm (y :: l)
 | [] => .refl _
 | x :: l => by
  rw [insT]
  split
  ·exact ((Zeg y l).cons x).trans (.swap _ _ _)
  ·exact .refl _
theorem Z1m {y : Nm} {l : List Nm} (h : NmOk l) (hl : l.length + 1 ≤ 1024) (hy : y.1.length ≤ 64 ∧ 0 ≤ y.2 ∧ y.2 ≤ 1000000) : NmOk (insN y l) := by
 have hp := Zfe y l
 refine ⟨by rw [hp.length_eq]; simpa using hl,fun x hx => ?_⟩
 rcases List.mem_cons.1 (hp.mem_iff.1 hx) with rfl | hx
 ·exact hy
 ·exact h.2 x hx
theorem Z2y {s : List UInt8} {l : List Nm} (h : NmOk l) : NmOk (rmN s l) :=
 ⟨Nat.le_trans (List.length_filter_le _ _) h.1,fun x hx => h.2 x (List.mem_filter.1 hx).1⟩
theorem Zoo {k : Tn} : ∀ {l : List Tn},(l.Pairwise fun a b => ltS a.nm b.nm) → (∀ x ∈ l,x.nm ≠ k.nm) → (insT k l).Pairwise fun a b => ltS a.nm b.nm
 | [],_,_ => by simp [insT]
 | x :: l,h,hk => by
  rw [List.pairwise_cons] at h;rw [insT]
  split
  ·rename_i hx
   rw [List.pairwise_cons];refine ⟨fun z hz => ?_,Zoo h.2 fun z hz => hk z (List.mem_cons_of_mem _ hz)⟩
   rcases List.mem_cons.1 ((Zeg k l).mem_iff.1 hz) with rfl | hz
   ·exact hx
   ·exact h.1 z hz
  ·rename_i hx
   have hkx := Zx9 hx (hk x (List.mem_cons_self ..))
   rw [List.pairwise_cons];refine ⟨fun z hz => ?_,List.pairwise_cons.2 h⟩
   rcases List.mem_cons.1 hz with rfl | hz
   ·exact hkx
   ·exact Zoh hkx (h.1 z hz)
theorem Ztp {u : Tn} {n : Nat} (h : TnOk n u) : u.names.Pairwise fun x y => ltS x.1 y.1 := List.pairwise_map.2 h.rise
end Cr
namespace Cr
open Go Go.Proofs
set_option maxRecDepth 100000
set_option maxHeartbeats 64000000
attribute [local irreducible] Calls

section
variable {c f n : Nat} {b : Int} {T N : Int → Option Nd} {X : List RowD}
theorem Z30 (no : Int) (nd : Nd) (a : Option Addr) (q : Nat) (nb : Option Addr) (l : List Nm) (nc : Nat) (s : List UInt8) (m : Int) (W : World) (F : Nat → Prop) (hG : Lg W F) (hl : RX X nb (nmV l)) (hok : NmOk l) (hll : l.length + 1 ≤ 1024) (hy : s.length ≤ 64 ∧ 0 ≤ m ∧ m ≤ 1000000) (hm : l.Pairwise fun x y => ltS x.1 y.1) (hS : St W F [chR c f b T N X] W) :
  Calls Tryz.prog 50 #[.pointer (some ⟨c,0,none⟩),.agg (List.toArray [.int .i64 no,.int .i64 nd.st.kind,.int .i64 nd.st.mode,.int .i64 nd.st.owner,.int .i64 nd.st.group,.slice a nd.data.length q]),.slice nb l.length nc,.string (str s),.int .i64 m] W (Ret fun v w =>
   ∃ X',(∀ x ∈ X,x ∈ X') ∧ ((512 < (wrD (insN (s,m) l)).length ∧ v = .bool false ∧ St W F [chR c f b T N X'] w) ∨ ((wrD (insN (s,m) l)).length ≤ 512 ∧ v = .bool true ∧ St W F [chR c f b T (fun k => if k = no then some ⟨nd.st,wrD (insN (s,m) l)⟩ else N k) X'] w))) := by
 have hok2 : NmOk (insN (s,m) l) := Z1m hok hll hy
 refine Zab Tryz.func50 rfl Tryz.ntmps50 rfl ?_
 repeat (first|refine Yd1 ?_|refine Yef ?_|refine Ybc (fun _ _ hS _ => ?_)|refine Yd2 ?_|refine Yab ?_)
 refine Zaa _ rfl rfl rfl rfl rfl (Zy8 nb l nc s _ (hl.rd (hS.rd (r := chR c f b T N X) (by simp)).ch) (by omega) hm) ?_
 rintro _ w ⟨⟨i,fb,rfl,hp⟩,hS'⟩
 replace hS := hS.plus hS';clear hS';have hil := hp.1
 have hins := Zsh (y := (s,m)) hp.1 hp.2.1 hp.2.2
 repeat (first|refine Yd1 ?_|refine Yex ?_|refine Yd2 ?_|refine Yab ?_)
 refine Zaa _ rfl rfl rfl rfl rfl (Zvf nb l nc _ (hl.rd (hS.rd (r := chR c f b T N X) (by simp)).ch) (by omega)) ?_
 rintro _ w ⟨a',c',rfl,hc',hS'⟩
 replace hS := hS.plus hS';clear hS';repeat (first|refine Yaa ?_|refine Yaf ?_|refine Ybo ?_|refine Ybi (fun _ _ hS _ => ?_))
 have hS := hS.pick [1,0,0,0]
 obtain ⟨_,hc,_,hw,hbk⟩ := hS.call [true,true]
 refine Zaa _ rfl rfl rfl rfl rfl (Z1l a' c' l i (s,m) _ _ _ hil hc' (by omega) hc) ?_
 rintro _ w ⟨a2,c2,rfl,hc2,hS⟩
 replace hS := hbk hS
 clear hbk hw hc;rw [hins] at hS;have hlen : (insN (s,m) l).length = l.length + 1 := by rw [(Zfe (s,m) l).length_eq]; rfl
 generalize insN (s,m) l = l2 at hS hlen hok2 ⊢;rw [← hlen];repeat (first|refine Yaa ?_)
 refine Zaa _ rfl rfl rfl rfl rfl (Zjm a2 l2 c2 _ (hS.rd (List.mem_cons_self ..)).own_row.ro hok2 (hG.at_ hS)) ?_
 rintro _ w ⟨b3,q3,rfl,hq3,hS'⟩
 replace hS := hS.plus hS';clear hS';have hwl := Zpv hok2
 by_cases h512 : 512 < (wrD l2).length
 ·repeat (first|refine Yd1 ?_|refine Yaf ?_|refine Yag ?_|refine Yar ?_|refine Ybv ?_|refine Yei ?_|refine Yej ?_)
  exact ⟨X,fun _ h => h,.inl ⟨h512,rfl,hS.took⟩⟩
 ·repeat (first|refine Yd1 ?_|(refine X_id ?_;first|refine Yaf ?_|refine Yag ?_|refine Yan ?_|refine Yby ?_|refine Yar ?_|refine Ybq ?_|refine Ybo ?_|refine Yaq ?_|refine Ybh ?_)|refine Yec ?_|refine Yab ?_)
  obtain ⟨_,hc,hr,hw,hbk⟩ := hS.call [false,false,false,true]
  refine Zaa _ rfl rfl rfl rfl rfl (set_ no ⟨nd.st,wrD l2⟩ b3 q3 _ _ (.inl (hr _ (List.mem_cons_self ..)).own_row) (by simp only; omega) hc) ?_
  rintro _ w ⟨rfl,X',hX',hS⟩
  replace hS := hbk hS
  clear hbk hw hc hr;repeat (first|refine Yd1 ?_|refine Yag ?_|refine Yee ?_|refine Yd3 ?_)
  exact ⟨X',hX',.inr ⟨by omega,rfl,hS.took⟩⟩
end
section
variable {P : Program} {o : Oper} {σ : Env} {w : World} {N : Nat} {ds : Md} {K : Env → World → Prop} {x y : Operand} {t : TypeId}
theorem Zzh {T e : TypeId} {g off n c : Nat} {l : List Value} {W : World} {F : Nat → Prop} {rs : List Res} {z : Value} {bytes : Nat} {TT : TypeId} (ho : o.op = .call { callee := .builtin .clear,args := #[x],argTypes := #[t] }) (hx : ev σ x = some (.slice (some ⟨g,off,none⟩) n c))
  [h : Und P t (.slice T)] [hi : Inf P T z e bytes] (h1 : ∀ u ∈ z.cells.toList,u.oneCell' = true) (hd : o.dst = none) (hS : St W F (pts g (.cells l.toArray TT (0,0)) :: rs) w) (hfit : off + n * e ≤ l.length)
  (hk : ∀ w' zs,zs.length = n * e → St W F (pts g (.cells (Zai l off zs).toArray TT (0,0)) :: rs) w' → K σ w') : X P o N ds σ w K := ⟨fun f ha K' Q' hK => by
 have hb := hS.get
 obtain ⟨i,hi',hz',hsz,hby⟩ := info_parts hi.inf
 have hzs : z.cells.size = e := hi.zs
 have hlen : (Builtin.zeroCells z.cells n).toList.length = n * e := by simp [size_zeroCells,hzs]
 have h1' : ∀ u ∈ (Builtin.zeroCells z.cells n).toList,u.oneCell' = true := fun u hu => by
  unfold Builtin.zeroCells at hu
  simp only [Array.toList_map,List.mem_map] at hu
  obtain ⟨j,hj,rfl⟩ := hu
  have hj' : j < n * z.cells.size := by simpa using hj
  have hpos : 0 < z.cells.size := Nat.pos_of_ne_zero fun e => by rw [e] at hj'; omega
  have hm := Nat.mod_lt j hpos
  refine h1 _ ?_
  rw [getElem!_pos z.cells (j % z.cells.size) hm];exact Array.mem_toList_iff.2 (Array.getElem_mem hm)
 by_cases h0 : n = 0
 ·subst h0
  have hexec : (execOp f.eval o).run P w = .ok (.value (.tuple #[])) w := by
   simp [execOp,ho,resolve,invoke,builtin,ha.eval hx,Builtin.clear_,run_underlying h.und]
  unfold Oper.wp
  rw [hexec];refine hK _ _ _ (?_ : Fr σ N ds _) (hk w [] (by simp) (by
   have : Zai l off [] = l := by unfold Zai; simp
   rw [this]; exact hS))
  rw [hd]; exact ha
 ·have hst := run_storeCells_at P g off TT (Builtin.zeroCells z.cells n).toList 0 l.toArray w hb (by simpa [size_zeroCells,hzs] using hfit) h1'
  simp only [Nat.add_zero] at hst
  have hexec : (execOp f.eval o).run P w = .ok (.value (.tuple #[])) (w.setRow g (Zai l off (Builtin.zeroCells z.cells n).toList).toArray) := by
   obtain ⟨n,rfl⟩ : ∃ k,n = k + 1 := ⟨n - 1,by omega⟩
   simp only [execOp,ho,resolve,invoke,builtin,ha.eval hx,Builtin.clear_,Sem.run_bind,Sem.run_pure,Result.andThen_ok,List.map_toArray,List.map_cons,List.map_nil]
   simp [run_underlying h.und,zeroValue,typeInfo,hi',hz',hst,Zai]
  unfold Oper.wp
  rw [hexec];have u := Zbd hb (Zai l off (Builtin.zeroCells z.cells n).toList).toArray
  refine hK _ _ _ (?_ : Fr σ N ds _) (hk _ _ hlen (hS.set u))
  rw [hd]; exact ha⟩
end
theorem Zy2 (x : Nm) (b : Nat) (s : List UInt8) (T : TypeId) (fz : Nat × Nat) (W : World) (hb : Rd W (pts b (.cells (List.toArray [.string (str s)]) T fz))) :
  Calls Tryz.prog 141 #[.agg (List.toArray [.string (str x.1),.int .i64 x.2]),.pointer (some ⟨b,0,none⟩)] W (Ret fun v w => v = .bool (decide (x.1 = s)) ∧ St W noF [] w) := by
 have hc := hb.ro
 have hS := St.start W
 by_cases h : x.1 = s
 ·refine Zab Tryz.func141 rfl Tryz.ntmps141 rfl ?_
  repeat (first|refine Yd1 ?_|(refine X_id ?_;first|refine Yag ?_|refine Yan ?_|refine Yaq ?_|refine Ybc (fun _ _ hS _ => ?_)|refine Yck ?_|refine Ycj ?_)|refine Yee ?_|refine Yd3 ?_)
  refine ⟨?_,hS.drops⟩
  simp [h]
 ·have h' : str x.1 ≠ str s := fun e => h (Zut e)
  refine Zab Tryz.func141 rfl Tryz.ntmps141 rfl ?_
  repeat (first|refine Yd1 ?_|(refine X_id ?_;first|refine Yag ?_|refine Yan ?_|refine Yaq ?_|refine Ybc (fun _ _ hS _ => ?_)|refine Ycc ?_|refine Ycj ?_)|refine Yee ?_|refine Yd3 ?_)
  refine ⟨?_,hS.drops⟩
  simp [h,h']
theorem Zyn (a : Option Addr) (l : List Nm) (c b : Nat) (s : List UInt8) (T : TypeId) (fz : Nat × Nat) (W : World) (hr0 : Rd W (row a (nmV l))) (hb : Rd W (pts b (.cells (List.toArray [.string (str s)]) T fz))) (hl : l.length ≤ 1048576) :
  Calls Tryz.prog 89 #[.slice a l.length c,.func (.func 141) #[] #[.pointer (some ⟨b,0,none⟩)]] W (Ret fun v w => v = .int .i64 (ixN s l) ∧ St W noF [] w) := by
 have hbo := hb.ro
 have hr1 := hr0.ro
 have hS := St.start W
 refine Zab Tryz.func89 rfl Tryz.ntmps89 rfl ?_
 repeat (first|refine Yd1 ?_|refine Ye1 ?_|refine Yd4 ?_|refine Yab ?_)
 refine Zak (α := Nat) (fun k => [(0,.slice a l.length c),(1,.func (.func 141) #[] #[.pointer (some ⟨b,0,none⟩)]),(7,.int .i64 (l.length : Nat)),(8,.int .i64 (k : Nat))])
  (fun k w => k ≤ l.length ∧ (∀ j,j < k → ∀ y,l[j]? = some y → y.1 ≠ s) ∧ St W noF [] w) (fun k => l.length - k) 0 ⟨rfl,rfl,rfl,rfl,trivial⟩ ⟨Nat.zero_le _,fun j hj => absurd hj (by omega),hS⟩ ?_
 clear hS;rintro k w ⟨hk,hne,hS2⟩
 by_cases hlt : k < l.length
 ·have hx0 : l[k]? = some l[k] := List.getElem?_eq_getElem (by omega)
  generalize l[k] = x at hx0;have hr := hr1
  have hxs : ((nmV l).drop (k * 2)).take 2 = [.string (str x.1),.int .i64 x.2] := Zhc hx0
  obtain ⟨xb,xo,rfl⟩ := (hr.rd hS2).base (by intro e; rw [e] at hxs; simp at hxs)
  have hS := hS2
  by_cases hq : x.1 = s
  ·have hc1 := fun w h => Zy2 x b s T fz w h
   rw [decide_eq_true hq] at hc1;repeat (first|refine Yd1 ?_|(refine X_id ?_;first|refine Yaf ?_|refine Yag ?_|refine Ya0 ?_|refine Ybd ?_|refine Ybp ?_)|refine Yd5 ?_|refine Yab ?_)
   refine Zca (first := []) (captured := [.pointer (some ⟨b,0,none⟩)]) rfl rfl rfl rfl rfl (hc1 _ (hbo.rd hS)) ?_
   rintro _ w' ⟨rfl,hS'⟩
   replace hS := hS.plus hS';clear hS';repeat (first|refine Yd1 ?_|refine Yef ?_|refine Yei ?_|refine Yem ?_)
   exact ⟨by rw [Zvq hx0 hq hne],hS⟩
  ·have hc1 := fun w h => Zy2 x b s T fz w h
   rw [decide_eq_false hq] at hc1;repeat (first|refine Yd1 ?_|(refine X_id ?_;first|refine Yaf ?_|refine Yag ?_|refine Ya0 ?_|refine Ybd ?_|refine Ybp ?_)|refine Yd5 ?_|refine Yab ?_)
   refine Zca (first := []) (captured := [.pointer (some ⟨b,0,none⟩)]) rfl rfl rfl rfl rfl (hc1 _ (hbo.rd hS)) ?_
   rintro _ w' ⟨rfl,hS'⟩
   replace hS := hS.plus hS';clear hS';repeat (first|refine Yd1 ?_|refine Yd6 ?_|refine Yes ?_|refine Yd9 ?_)
   refine Zaf (k + 1) ⟨rfl,rfl,rfl,rfl,trivial⟩ ⟨by omega,fun j hj y hy => ?_,hS⟩ (by omega)
   by_cases hjk : j = k
   ·subst hjk; rw [hx0] at hy; cases hy; exact hq
   ·exact hne j (by omega) y hy
 ·obtain rfl : k = l.length := by omega
  have hS := hS2
  repeat (first|refine Yd1 ?_|refine Yag ?_|refine Ya1 ?_|refine Yea ?_|refine Ye3 ?_)
  rw [Zms fun x hx => (by
   obtain ⟨j,hj,he⟩ := List.mem_iff_getElem.1 hx
   exact hne j hj x (by rw [List.getElem?_eq_getElem hj,he]))]
  exact ⟨rfl,hS⟩
theorem Zxy {s : List UInt8} {l : List Nm} (h : ixN s l < 0) : rmN s l = l := by
 unfold rmN
 refine List.filter_eq_self.2 fun x hx => ?_
 rcases Zhh (s := s) (l := l) with ⟨_,h2⟩ | ⟨k,y,h1,_,_⟩
 ·have := List.find?_eq_none.1 h2 x hx
  simpa using this
 ·omega
theorem Zrw {s : List UInt8} : ∀ {l : List Nm} {k : Nat} {x : Nm},ixN s l = k → l[k]? = some x → rmN s (l.take (k + 1)) = l.take k
 | y :: l,k,x,h,hx => by
  unfold ixN at h
  by_cases hy : y.1 = s
  ·rw [if_pos hy] at h
   obtain rfl : k = 0 := by omega
   simp [rmN,hy]
  ·rw [if_neg hy] at h
   split at h
   ·omega
   ·obtain ⟨k,rfl⟩ : ∃ j,k = j + 1 := ⟨k - 1,by omega⟩
    have ih := Zrw (s := s) (l := l) (k := k) (x := x) (by omega) (by simpa using hx)
    rw [List.take_succ_cons,List.take_succ_cons];unfold rmN at ih ⊢
    rw [List.filter_cons_of_pos (by simpa using hy),ih]
theorem Zv9 (a : Option Addr) (c : Nat) (l : List Nm) (sb : Nat) (s : List UInt8) (T : TypeId) (fz : Nat × Nat) (W : World) (F : Nat → Prop) (hlc : l.length ≤ c) (hl : l.length ≤ 1048576) (hsb : Ro W F (pts sb (.cells (List.toArray [.string (str s)]) T fz))) (hS : St W F [own 93 2 a c (nmV l)] W) :
  Calls Tryz.prog 140 #[.slice a l.length c,.func (.func 141) #[] #[.pointer (some ⟨sb,0,none⟩)]] W (Ret fun v w => ∃ a' c',v = .slice a' (rmN s l).length c' ∧ (rmN s l).length ≤ c' ∧ St W F [own 93 2 a' c' (nmV (rmN s l))] w) := by
 have hnl := Zgk l
 refine Zab Tryz.func140 rfl Tryz.ntmps140 rfl ?_
 repeat (first|refine Yd1 ?_|refine Yef ?_|refine Yd2 ?_|refine Yab ?_)
 refine Zaa _ rfl rfl rfl rfl rfl (Zyn a l c sb s T fz _ (hS.rd (List.mem_cons_self ..)).own_row (hsb.rd hS) hl) ?_
 rintro _ w ⟨rfl,hS'⟩
 replace hS := hS.plus hS';clear hS';rcases Zhh (s := s) (l := l) with ⟨h1,_⟩ | ⟨k,x,h1,h2,_⟩
 ·have hm1 : ixN s l = -1 := by have := Zzy s l; omega
  have hrm := Zxy h1
  rw [hm1,hrm];repeat (first|refine Yd1 ?_|refine Yaf ?_|refine Yag ?_|refine Ybf ?_|refine Yei ?_|refine Yej ?_)
  exact ⟨a,c,rfl,hlc,hS.took⟩
 ·rw [h1]
  have hkl := (List.getElem?_eq_some_iff.1 h2).1
  have hrk := Zrw h1 h2
  obtain ⟨b,cells,rfl,hcl,hct,hcm,hS⟩ := St.openOwn hS (by intro e; rw [e] at hnl; simp at hnl; omega)
  repeat (first|refine Yd1 ?_|refine Yaf ?_|refine Yag ?_|refine Ybg ?_|refine Yaw ?_|refine Ye4 ?_|refine Yab ?_)
  refine Zcd (α := Nat) (fun m => [(0,.slice (some ⟨b,0,none⟩) l.length c),(5,.int .i64 (m : Nat))]) (fun m w => m < l.length ∧ m = (rmN s l).length ∧ ∃ L : List Value,L.length = c * 2 ∧ L.take (m * 2) = nmV (rmN s l) ∧ St W F [pts b (.cells L.toArray 93 (0,0))] w) ?_ ?_
  ·refine Zak (α := Nat × Nat) (fun z => [(0,.slice (some ⟨b,0,none⟩) l.length c),(1,.func (.func 141) #[] #[.pointer (some ⟨sb,0,none⟩)]),(5,.int .i64 (z.1 : Nat)),(6,.int .i64 (z.2 : Nat))])
    (fun z w => z.2 ≤ l.length ∧ z.1 < z.2 ∧ z.1 = (rmN s (l.take z.2)).length ∧ ∃ L : List Value,L.length = c * 2 ∧ L.take (z.1 * 2) = nmV (rmN s (l.take z.2)) ∧ (L.drop (z.2 * 2)).take ((l.length - z.2) * 2) = (nmV l).drop (z.2 * 2) ∧ St W F [pts b (.cells L.toArray 93 (0,0))] w)
    (fun z => l.length - z.2) (k,k + 1) ⟨rfl,rfl,rfl,rfl,trivial⟩ ⟨by dsimp only; omega,by dsimp only; omega,by dsimp only; rw [hrk,List.length_take]; omega,cells,hcl,?_,?_,hS⟩ ?_
   ·dsimp only
    rw [hrk,Zr3,← hct,List.take_take,hnl,Nat.min_eq_left (by omega)]
   ·dsimp only
    have := congrArg (List.drop ((k + 1) * 2)) hct
    rw [List.drop_take,hnl] at this;rw [← this]; congr 1; omega
   clear hS;rintro ⟨m,j⟩ w ⟨hj,hmj,hm,L,hL,ht,hd,hS2⟩
   simp only at hj hmj hm ht hd hS2
   by_cases hlt : j < l.length
   ·have hx0 : l[j]? = some l[j] := List.getElem?_eq_getElem (by omega)
    have htk : l.take (j + 1) = l.take j ++ [l[j]] := List.take_succ_eq_append_getElem hlt
    generalize l[j] = y at hx0 htk;have hr := (hS2.rd (List.mem_cons_self ..)).mono (r' := row (some ⟨b,0,none⟩) L) (fun g hg => ⟨g,.inr ⟨b,0,L.toArray,_,(0,0),rfl,hg,fun j v hv => by simpa using hv⟩,fun _ _ e => e⟩)
    have hdn : ∀ q,(L.drop (j * 2)).take ((q + 1) * 2) = (L.drop (j * 2)).take 2 ++ ((L.drop ((j + 1) * 2)).take (q * 2)) := fun q => by
     rw [show (q + 1) * 2 = 2 + q * 2 by omega,List.take_add,List.drop_drop,show j * 2 + 2 = (j + 1) * 2 by omega]
    obtain ⟨q,hq⟩ : ∃ q,l.length - j = q + 1 := ⟨l.length - j - 1,by omega⟩
    have hnd : (nmV l).drop (j * 2) = nmC y ++ (nmV l).drop ((j + 1) * 2) := by
     have := Zhc hx0
     rw [← List.take_append_drop 2 ((nmV l).drop (j * 2)),this,List.drop_drop,show j * 2 + 2 = (j + 1) * 2 by omega]
    rw [hq,hdn q,hnd] at hd;have h2l : ((L.drop (j * 2)).take 2).length = 2 := by rw [List.length_take,List.length_drop,hL]; omega
    obtain ⟨hxs,hd2⟩ := List.append_inj hd (by rw [h2l]; rfl)
    have hxs : (L.drop (j * 2)).take 2 = [.string (str y.1),.int .i64 y.2] := hxs
    have hS := hS2
    by_cases hys : y.1 = s
    ·have hc1 := fun w h => Zy2 y sb s T fz w h
     rw [decide_eq_true hys] at hc1;have hre : rmN s (l.take (j + 1)) = rmN s (l.take j) := by unfold rmN; rw [htk,List.filter_append]; simp [hys]
     repeat (first|refine Yd1 ?_|(refine X_id ?_;first|refine Yaf ?_|refine Yar ?_|refine Ya0 ?_|refine Ybd ?_|refine Ybh ?_|refine Ybp ?_|refine Yao (fun _ hS _ => ?_)|refine Yas (fun _ _ hS _ => ?_))|refine Yd5 ?_|refine Yab ?_)
     refine Zca (first := []) (captured := [.pointer (some ⟨sb,0,none⟩)]) rfl rfl rfl rfl rfl (hc1 _ (hsb.rd hS)) ?_
     rintro _ w' ⟨rfl,hS'⟩
     replace hS := hS.plus hS';clear hS';repeat (first|refine Yd1 ?_|refine Yaf ?_|refine Yag ?_|refine Ybb ?_|refine Yaw ?_|refine Yes ?_|refine Yd9 ?_)
     exact Zaf (z := (m,j)) (m,j + 1) ⟨rfl,rfl,rfl,rfl,trivial⟩ ⟨hlt,by dsimp only; omega,by rw [hre]; exact hm,L,hL,by rw [hre]; exact ht,by rw [show l.length - (j + 1) = q by omega]; exact hd2,hS.took⟩ (by dsimp only; omega)
    ·have hc1 := fun w h => Zy2 y sb s T fz w h
     rw [decide_eq_false hys] at hc1;have hre : rmN s (l.take (j + 1)) = rmN s (l.take j) ++ [y] := by unfold rmN; rw [htk,List.filter_append]; simp [hys]
     repeat (first|refine Yd1 ?_|(refine X_id ?_;first|refine Yaf ?_|refine Yar ?_|refine Ya0 ?_|refine Ybd ?_|refine Ybh ?_|refine Ybp ?_|refine Yao (fun _ hS _ => ?_)|refine Yas (fun _ _ hS _ => ?_))|refine Yd5 ?_|refine Yab ?_)
     refine Zca (first := []) (captured := [.pointer (some ⟨sb,0,none⟩)]) rfl rfl rfl rfl rfl (hc1 _ (hsb.rd hS)) ?_
     rintro _ w' ⟨rfl,hS'⟩
     replace hS := hS.plus hS';clear hS';repeat (first|refine Yd1 ?_|refine Yaf ?_|refine Ybn ?_|refine Ybd ?_|refine Ybh ?_|refine Yeb ?_|refine Yab ?_)
     rw [show adr (some ⟨b,0,none⟩) ((((m,j).fst : Nat) : Int).toNat * 2) = ⟨b,m * 2,none⟩ by simp [adr]]
     refine Zhu rfl rfl rfl rfl (by simp [Value.oneCell']) rfl hS (by simp; omega) (fun w hS _ => ?_)
     repeat (first|refine Yd1 ?_|refine Yeg ?_|refine Yad ?_|refine Yd9 ?_)
     have hs1 : (Zai L (m * 2) [.string (str y.1),.int .i64 y.2]).length = L.length := Zbp (by simp; omega)
     refine Zaf (z := (m,j)) (m + 1,j + 1) ⟨rfl,rfl,rfl,rfl,trivial⟩ ⟨hlt,by dsimp only; omega,by rw [hre,List.length_append,← hm]; rfl,Zai L (m * 2) [.string (str y.1),.int .i64 y.2],by rw [hs1,hL],?_,?_,hS.took⟩ (by dsimp only; omega)
     ·rw [hre,Zj2,← ht]
      unfold Zai
      rw [List.take_append_of_le_length (by simp; omega),List.take_of_length_le (by simp; omega)];simp [nmV,nmC]
     ·rw [← hd2]
      unfold Zai
      rw [show l.length - (j + 1,j + 1).2 = q by simp only; omega,List.append_assoc,List.drop_append,List.drop_of_length_le (by simp; omega),List.nil_append,List.drop_append,List.drop_of_length_le (by simp; omega),List.nil_append,List.drop_drop]
      congr 2
      simp; omega
   ·obtain rfl : j = l.length := by omega
    have hS := hS2
    rw [List.take_length] at hm ht;repeat (first|refine Yd1 ?_|refine Yaf ?_|refine Yar ?_|refine Ya1 ?_|refine Yed ?_|refine Yd7 ?_)
    exact Zcb m ⟨rfl,rfl,trivial⟩ ⟨hmj,hm,L,hL,ht,hS⟩
  ·rintro m w ⟨hml,hm,L,hL,ht,hS⟩
   repeat (first|refine Yaa ?_|refine Yaf ?_|refine Yd2 ?_)
   refine X_yl (Zam (l := m) (h := l.length) rfl rfl rfl rfl (.inl ⟨rfl,rfl⟩) (.inr ⟨_,_,rfl,by omega,by omega,by omega⟩)) rfl rfl ?_
   rw [Zed (show m < c by omega)]
   repeat (first|refine Yaa ?_)
   refine Zzh rfl rfl (by simp [Value.cells,Value.oneCell']) rfl hS (by omega) (fun w zs hzs hS => ?_)
   have hsl : (Zai L (m * 2) zs).length = L.length := Zbp (by rw [hzs]; omega)
   repeat (first|refine Yd1 ?_|refine Yaf ?_|refine Yd2 ?_|refine Yab ?_)
   refine X_yl (Zam (l := 0) (h := m) rfl rfl rfl rfl (.inr ⟨_,_,rfl,by omega,by omega,by omega⟩) (.inl ⟨rfl,rfl⟩)) rfl rfl ?_
   rw [Zed (show 0 < c by omega)]
   simp only [Nat.zero_mul,Nat.sub_zero]
   repeat (first|refine Yd1 ?_|refine Yag ?_|refine Yah ?_|refine Yd3 ?_)
   refine ⟨some ⟨b,0,none⟩,c,by rw [hm],by omega,?_⟩
   refine hS.head fun g hg => Za8 (c := c) (l := Zai L (m * 2) zs) (by rw [hsl,hL]) hcm ?_ g hg
   rw [Zgk,← hm,← ht];unfold Zai
   rw [List.append_assoc,List.take_append_of_le_length (by rw [List.length_take]; omega),List.take_take,Nat.min_self]
end Cr
namespace Cr
open Go
set_option maxHeartbeats 64000000

def updT : List (List UInt8) → (Tn → Tn) → Tn → Tn
 | [],f,t => f t
 | s :: p,f,.mk nm no st data kids => .mk nm no st data (kids.map fun k => if k.nm = s then updT p f k else k)
theorem Zge : ∀ l m : List Tn,subL (l ++ m) = subL l ++ subL m
 | [],m => rfl
 | x :: l,m => by rw [List.cons_append,subL,subL,Zge l m,List.append_assoc]
theorem Zn4 {l m : List Tn} (h : l.Perm m) : (subL l).Perm (subL m) := by
 induction h with
 | nil => exact .refl _
 | cons x _ ih => rw [subL,subL]; exact ih.append_left _
 | swap x y l => rw [subL,subL,subL,subL,← List.append_assoc,← List.append_assoc]; exact List.perm_append_comm.append_right _
 | trans _ _ h1 h2 => exact h1.trans h2
theorem Zka : ∀ l m : List Tn,hgtL (l ++ m) = max (hgtL l) (hgtL m)
 | [],m => by rw [List.nil_append,hgtL]; omega
 | x :: l,m => by rw [List.cons_append,hgtL,hgtL,Zka l m]; omega
theorem hgtL_le {l : List Tn} {d : Nat} : hgtL l ≤ d ↔ ∀ x ∈ l,1 + hgtT x ≤ d := by
 induction l with
 | nil => simp [hgtL]
 | cons x l ih => rw [hgtL]; simp only [List.mem_cons,forall_eq_or_imp,← ih]; omega
theorem Zdi {n : Nat} {t k : Tn} {s : List UInt8} (h : TnOk n t) (hs : Zaz t s = .ok k) : t.st.kind = 1 ∧ k.nm = s ∧ ∃ l1 l2,t.kids = l1 ++ k :: l2 ∧ (∀ x ∈ l1,x.nm ≠ s) ∧ ∀ x ∈ l2,x.nm ≠ s := by
 obtain ⟨hk,_,hn⟩ := Zi8 hs
 refine ⟨hk,hn,?_⟩
 unfold Zaz at hs
 rw [if_pos hk] at hs;cases hq : kidT s t.kids with
 | none => rw [hq] at hs; cases hs
 | some x =>
  rw [hq] at hs;simp only [Except.ok.injEq] at hs
  subst hs
  obtain ⟨_,l1,l2,he,h1⟩ := List.find?_eq_some_iff_append.1 hq
  refine ⟨l1,l2,he,fun y hy => by simpa using h1 y hy,fun y hy => ?_⟩
  have hr := h.rise
  rw [he,List.pairwise_append,List.pairwise_cons] at hr;have := Zr8 (hr.2.1.1 y hy)
  rw [hn] at this;exact fun e => this e.symm
theorem Ze3 {t k : Tn} {s : List UInt8} {p : List (List UInt8)} {f : Tn → Tn} {l1 l2 : List Tn} (he : t.kids = l1 ++ k :: l2) (hn : k.nm = s) (h1 : ∀ x ∈ l1,x.nm ≠ s) (h2 : ∀ x ∈ l2,x.nm ≠ s) : updT (s :: p) f t = .mk t.nm t.no t.st t.data (l1 ++ updT p f k :: l2) := by
 obtain ⟨nm,no,st,data,kids⟩ := t
 have he : kids = l1 ++ k :: l2 := he
 subst he
 rw [updT]
 congr 1
 rw [List.map_append,List.map_cons,if_pos hn]
 congr 1
 ·conv => rhs; rw [← List.map_id l1]
  exact List.map_congr_left fun x hx => by rw [if_neg (h1 x hx)]; rfl
 ·congr 1
  conv => rhs; rw [← List.map_id l2]
  exact List.map_congr_left fun x hx => by rw [if_neg (h2 x hx)]; rfl
def Zrd (f : Tn → Tn) (u : Tn) : Prop := (f u).nm = u.nm ∧ (f u).no = u.no
theorem Zfp {f : Tn → Tn} {u : Tn} (hf : Zrd f u) : ∀ {p : List (List UInt8)} {t : Tn},goT t p = .ok u → (updT p f t).nm = t.nm ∧ (updT p f t).no = t.no
 | [],t,h => by rw [goT] at h; injection h with h; subst h; exact hf
 | s :: p,.mk nm no st data kids,_ => ⟨rfl,rfl⟩
theorem Zfv {t u : Tn} {s : List UInt8} {p : List (List UInt8)} (h : goT t (s :: p) = .ok u) : ∃ k,Zaz t s = .ok k ∧ goT k p = .ok u := by
 rw [goT] at h;cases hs : Zaz t s with
 | error e => rw [hs] at h; cases h
 | ok k => rw [hs] at h; exact ⟨k,rfl,h⟩
theorem Zgq (t : Tn) : Zcl t = ent t :: Zc5 t.kids := by unfold Zcl Zc5; rw [Ze6]; rfl
theorem Zkj (l1 l2 : List Tn) (k : Tn) : Zc5 (l1 ++ k :: l2) = Zc5 l1 ++ (Zcl k ++ Zc5 l2) := by
 unfold Zc5 Zcl
 rw [Zge,subL]; simp
theorem Z24 {α : Type} (e : α) (A L1 R L2 : List α) : (e :: (L1 ++ (A ++ (R ++ L2)))).Perm (A ++ (e :: (L1 ++ (L2 ++ R)))) :=
 (((List.perm_append_comm_assoc L1 A (R ++ L2)).trans ((List.perm_append_comm.append_left L1).append_left A)).cons e).trans List.perm_middle.symm
theorem Zog {t k k' : Tn} {l1 l2 : List Tn} (he : t.kids = l1 ++ k :: l2) (e1 : k'.nm = k.nm) (e2 : k'.no = k.no) : (Tn.mk t.nm t.no t.st t.data (l1 ++ k' :: l2)).names = t.names := by
 unfold Tn.names
 rw [he];show (l1 ++ k' :: l2).map _ = _
 rw [List.map_append,List.map_append,List.map_cons,List.map_cons,e1,e2]
section
variable {n : Nat} {f : Tn → Tn} {u : Tn}
theorem Zmf (hf : Zrd f u) : ∀ {p : List (List UInt8)} {t : Tn},(∀ v ∈ subT t,TnOk n v) → goT t p = .ok u → ∃ rest,(Zcl t).Perm (Zcl u ++ rest) ∧ (Zcl (updT p f t)).Perm (Zcl (f u) ++ rest)
 | [],t,_,h => by
  rw [goT] at h; injection h with h; subst h
  exact ⟨[],by simp,by rw [updT]; simp⟩
 | s :: p,t,ht,h => by
  obtain ⟨k,hs,hg⟩ := Zfv h
  obtain ⟨hk,hn,l1,l2,he,h1,h2⟩ := Zdi (ht t (Zd0 t)) hs
  have hkm : k ∈ t.kids := by rw [he]; simp
  obtain ⟨rest,r1,r2⟩ := Zmf hf (fun v hv => ht v (Ze5 hkm hv)) hg
  obtain ⟨e1,e2⟩ := Zfp hf hg
  have hu := Ze3 (p := p) (f := f) he hn h1 h2
  have hent : ent (updT (s :: p) f t) = ent t := by
   rw [hu];show ((t.no,(⟨t.st,if t.st.kind = 1 then wrD (Tn.mk t.nm t.no t.st t.data (l1 ++ updT p f k :: l2)).names else t.data⟩ : Nd)) : Int × Nd) = _
   rw [Zog he e1 e2]; rfl
  refine ⟨ent t :: (Zc5 l1 ++ (Zc5 l2 ++ rest)),?_,?_⟩
  ·rw [Zgq t,he,Zkj]
   have : (Zcl k ++ Zc5 l2).Perm (Zcl u ++ (rest ++ Zc5 l2)) := by rw [← List.append_assoc]; exact r1.append_right _
   exact ((this.append_left (Zc5 l1)).cons (ent t)).trans (Z24 _ _ _ _ _)
  ·rw [Zgq (updT (s :: p) f t),hent,hu]
   show (ent t :: Zc5 (l1 ++ updT p f k :: l2)).Perm _
   rw [Zkj];have : (Zcl (updT p f k) ++ Zc5 l2).Perm (Zcl (f u) ++ (rest ++ Zc5 l2)) := by rw [← List.append_assoc]; exact r2.append_right _
   exact ((this.append_left (Zc5 l1)).cons (ent t)).trans (Z24 _ _ _ _ _)
theorem Zun (hf : Zrd f u) : ∀ {p : List (List UInt8)} {t : Tn},(∀ v ∈ subT t,TnOk n v) → goT t p = .ok u → (∀ v ∈ subT (f u),TnOk n v) → ∀ v ∈ subT (updT p f t),TnOk n v
 | [],t,_,h,hv => by rw [goT] at h; injection h with h; subst h; rw [updT]; exact hv
 | s :: p,t,ht,h,hfu => by
  obtain ⟨k,hs,hg⟩ := Zfv h
  have h0 := ht t (Zd0 t)
  obtain ⟨hk,hn,l1,l2,he,h1,h2⟩ := Zdi h0 hs
  have hkm : k ∈ t.kids := by rw [he]; simp
  have ih := Zun hf (fun v hv => ht v (Ze5 hkm hv)) hg hfu
  obtain ⟨e1,e2⟩ := Zfp hf hg
  rw [Ze3 (p := p) (f := f) he hn h1 h2];intro v hv
  rw [Ze6] at hv;rcases List.mem_cons.1 hv with rfl | hv
  ·have hnames := Zog (k' := updT p f k) he e1 e2
   refine ⟨h0.chk,h0.low,fun q => ?_,?_,?_,fun q => absurd hk q⟩
   ·rw [hnames]; exact h0.dir q
   ·have := h0.rise
    rw [he] at this;have h3 : ((l1 ++ k :: l2).map Tn.nm).Pairwise ltS := List.pairwise_map.2 this
    have h4 : ((l1 ++ updT p f k :: l2).map Tn.nm).Pairwise ltS := ?_
    ·exact List.pairwise_map.1 h4
    rw [List.map_append,List.map_cons] at h3 ⊢;rw [e1]; exact h3
   ·intro x hx
    replace hx : x ∈ l1 ++ updT p f k :: l2 := hx
    simp only [List.mem_append,List.mem_cons] at hx
    rcases hx with hx | rfl | hx
    ·exact h0.nmk x (by rw [he]; simp [hx])
    ·rw [e1]; exact h0.nmk k hkm
    ·exact h0.nmk x (by rw [he]; simp [hx])
  ·replace hv : v ∈ subL (l1 ++ updT p f k :: l2) := hv
   rw [Zge,subL] at hv;rcases List.mem_append.1 hv with hv | hv
   ·obtain ⟨x,hx,hv⟩ := mem_subL.1 hv
    exact ht v (Ze5 (by rw [he]; simp [hx]) hv)
   ·rcases List.mem_append.1 hv with hv | hv
    ·exact ih v hv
    ·obtain ⟨x,hx,hv⟩ := mem_subL.1 hv
     exact ht v (Ze5 (by rw [he]; simp [hx]) hv)
theorem Zpy (hf : Zrd f u) : ∀ {p : List (List UInt8)} {t : Tn},(∀ v ∈ subT t,TnOk n v) → goT t p = .ok u → hgtT (updT p f t) ≤ max (hgtT t) (p.length + hgtT (f u))
 | [],t,_,h => by rw [goT] at h; injection h with h; subst h; rw [updT]; simp only [List.length_nil]; omega
 | s :: p,t,ht,h => by
  obtain ⟨k,hs,hg⟩ := Zfv h
  obtain ⟨hk,hn,l1,l2,he,h1,h2⟩ := Zdi (ht t (Zd0 t)) hs
  have hkm : k ∈ t.kids := by rw [he]; simp
  have ih := Zpy hf (fun v hv => ht v (Ze5 hkm hv)) hg
  rw [Ze3 (p := p) (f := f) he hn h1 h2,Zff (Tn.mk _ _ _ _ _),Zff t,he];simp only [Tn.kids,Zka,hgtL,List.length_cons]
  omega
end
theorem Zqr : ∀ {p : List (List UInt8)} {t u : Tn},goT t p = .ok u → p.length + hgtT u ≤ hgtT t
 | [],t,u,h => by rw [goT] at h; injection h with h; subst h; simp
 | s :: p,t,u,h => by
  obtain ⟨k,hs,hg⟩ := Zfv h
  have h1 := Zqr hg
  have h2 := Zi7 (Zi8 hs).2.1
  rw [← Zff] at h2;simp only [List.length_cons]; omega
theorem Zvw {β : Type} {l m : List (Int × β)} (h : l.Perm m) (hn : (Zas l).Nodup) (k : Int) : getA k l = getA k m := by
 have hn' : (Zas m).Nodup := (h.map (fun x : Int × β => x.1)).nodup_iff.1 hn
 cases hq : getA k l with
 | none =>
  refine (getA_none.2 fun hm => getA_none.1 hq ?_).symm
  exact (h.map (fun x : Int × β => x.1)).mem_iff.2 hm
 | some v => exact (Zdr hn' (h.mem_iff.1 (Zi9 hq))).symm
theorem Zkf {β : Type} {k : Int} {x : Int × β} {l : List (Int × β)} : getA k (x :: l) = if k = x.1 then some x.2 else getA k l := rfl
def addF (k u : Tn) : Tn := .mk u.nm u.no u.st u.data (insT k u.kids)
def rmF (s : List UInt8) (u : Tn) : Tn := .mk u.nm u.no u.st u.data (rmT s u.kids)
theorem Zse (k u : Tn) : Zrd (addF k) u := ⟨rfl,rfl⟩
theorem Zsd (s : List UInt8) (u : Tn) : Zrd (rmF s) u := ⟨rfl,rfl⟩
theorem Zlx {l m : List Tn} (h : l.Perm m) : (Zc5 l).Perm (Zc5 m) := (Zn4 h).map ent
theorem Zly (k : Tn) (l : List Tn) : Zc5 (k :: l) = Zcl k ++ Zc5 l := by unfold Zc5 Zcl; rw [subL]; simp
theorem Zov {k : Tn} (h : k.kids = []) : Zcl k = [ent k] := by rw [Zgq,h]; rfl
section
variable {n : Nat} {t u k : Tn} {p : List (List UInt8)} {s : List UInt8}
theorem Znp {L : List (Int × Nd)} (h : (Zcl t).Perm L) (hn : ((Zcl t).map (·.1)).Nodup) (no : Int) : Nt t no = getA no L := Zvw h hn no
theorem Nt_none {no : Int} : Nt t no = none ↔ no ∉ (Zcl t).map (·.1) := getA_none
/-! ### one more -/
theorem Zsz (ht : TreeOk n t) (hg : goT t p = .ok u) (hk : k.kids = []) : ∃ rest,(Zcl t).Perm (ent u :: rest) ∧ (Zcl (updT p (addF k) t)).Perm (ent k :: ent (addF k u) :: rest) := by
 obtain ⟨r,h1,h2⟩ := Zmf (Zse k u) ht.node hg
 rw [Zgq u] at h1;refine ⟨Zc5 u.kids ++ r,h1,h2.trans ?_⟩
 rw [Zgq (addF k u)];have h3 : (Zc5 (insT k u.kids)).Perm (ent k :: Zc5 u.kids) := by
  have := Zlx (Zeg k u.kids)
  rwa [Zly,Zov hk] at this
 exact ((h3.append_right r).cons (ent (addF k u))).trans (.swap _ _ _)
theorem Zpa (ht : TreeOk n t) (hg : goT t p = .ok u) (hk : k.kids = []) (hnew : Nt t k.no = none) : ((Zcl (updT p (addF k) t)).map (·.1)).Nodup := by
 obtain ⟨r,h1,h2⟩ := Zsz ht hg hk
 have k1 := (h1.map (fun x : Int × Nd => x.1)).nodup_iff.1 ht.nodup
 refine (h2.map (fun x : Int × Nd => x.1)).nodup_iff.2 ?_
 have hm : k.no ∉ (ent u :: r).map (fun x : Int × Nd => x.1) := fun h => Nt_none.1 hnew ((h1.map (fun x : Int × Nd => x.1)).mem_iff.2 h)
 exact List.nodup_cons.2 ⟨hm,k1⟩
theorem Z0f (ht : TreeOk n t) (hg : goT t p = .ok u) (hk : k.kids = []) (hnew : Nt t k.no = none) (no : Int) : Nt (updT p (addF k) t) no = if no = k.no then some k.nd else if no = u.no then some (addF k u).nd else Nt t no := by
 obtain ⟨r,h1,h2⟩ := Zsz ht hg hk
 rw [Znp h2 (Zpa ht hg hk hnew),Znp h1 ht.nodup];simp only [Zkf]
 show (if no = k.no then some k.nd else if no = (addF k u).no then some (addF k u).nd else getA no r) = if no = k.no then some k.nd else if no = u.no then some (addF k u).nd else if no = u.no then some u.nd else getA no r
 rw [show (addF k u).no = u.no from rfl];by_cases h : no = u.no <;> simp [h]
theorem Z19 (hu : u.st.kind = 1) : (addF k u).nd = ⟨u.st,wrD (insN (k.nm,k.no) u.names)⟩ := by
 unfold Tn.nd
 show (⟨u.st,if u.st.kind = 1 then wrD ((insT k u.kids).map fun k => (k.nm,k.no)) else u.data⟩ : Nd) = _
 rw [if_pos hu,Zia]; rfl
theorem Zj8 {l : List Tn} (h : kidT s l = none) : ∀ x ∈ l,x.nm ≠ s := fun x hx => by
 have := List.find?_eq_none.1 h x hx
 simpa using this
theorem Z4e (ht : TreeOk n t) (hg : goT t p = .ok u) (hu : u.st.kind = 1) (hk : k.kids = []) (hko : TnOk n k) (hnew : Nt t k.no = none) (hnm : nameOk k.nm) (hkid : kidT k.nm u.kids = none) (h512 : (wrD (insN (k.nm,k.no) u.names)).length ≤ 512) (hp : p.length < 8) : TreeOk n (updT p (addF k) t) := by
 have hu0 := ht.node u (Zba hg)
 have hr := ht.root
 obtain ⟨e1,e2⟩ := Zfp (Zse k u) hg
 have hnames : (addF k u).names = insN (k.nm,k.no) u.names := Zia k u.kids
 refine ⟨Zun (Zse k u) ht.node hg ?_,Zpa ht hg hk hnew,⟨e2.trans hr.1,?_⟩,?_,ht.small⟩
 ·intro v hv
  rw [Ze6] at hv;rcases List.mem_cons.1 hv with rfl | hv
  ·refine ⟨hu0.chk,hu0.low,fun q => ⟨(hu0.dir hu).1,by rw [hnames]; exact h512⟩,Zoo hu0.rise (Zj8 hkid),fun x hx => ?_,fun q => absurd hu q⟩
   rcases List.mem_cons.1 ((Zeg k u.kids).mem_iff.1 hx) with rfl | hx
   ·exact hnm
   ·exact hu0.nmk x hx
  ·rcases List.mem_append.1 ((Zn4 (Zeg k u.kids)).mem_iff.1 (show v ∈ subL (insT k u.kids) from hv) |> fun h => by rw [subL] at h; exact h) with hv | hv
   ·rw [Ze6,hk] at hv
    rcases List.mem_cons.1 hv with rfl | hv
    ·exact hko
    ·cases hv
   ·obtain ⟨x,hx,hv⟩ := mem_subL.1 hv
    exact ht.node v (Zcx (Zba hg) (Ze5 hx hv))
 ·cases p with
  | nil => rw [goT] at hg; injection hg with hg; subst hg; exact hr.2
  | cons s p =>
   obtain ⟨x,hs,hg'⟩ := Zfv hg
   obtain ⟨_,hn,l1,l2,he,h1,h2⟩ := Zdi (ht.node t (Zd0 t)) hs
   rw [Ze3 (p := p) (f := addF k) he hn h1 h2]; exact hr.2
 ·have h1 := Zpy (Zse k u) ht.node hg
  have h2 := Zqr hg
  have h3 : hgtT (addF k u) ≤ max 1 (hgtT u) := by
   rw [Zff,Zff u];refine hgtL_le.2 fun x hx => ?_
   rcases List.mem_cons.1 ((Zeg k u.kids).mem_iff.1 (show x ∈ insT k u.kids from hx)) with rfl | hx
   ·rw [Zff,hk,hgtL]; omega
   ·have := Zi7 hx; omega
  have := ht.high
  omega
end
end Cr
namespace Cr
open Go Go.Proofs
set_option maxRecDepth 100000
set_option maxHeartbeats 64000000
attribute [local irreducible] Calls

def Zkg (n : Nat) (N : Int → Option Nd) : Option Nat := (List.range n).find? fun (i : Nat) => (N (i : Int)).isNone
theorem Ztu {n : Nat} {N : Int → Option Nd} (h : ∀ (j : Nat),j < n → N j ≠ none) : Zkg n N = none :=
 List.find?_eq_none.2 fun x hx => by simpa [Option.isNone_iff_eq_none] using h x (List.mem_range.1 hx)
theorem Zlu {n : Nat} {N : Int → Option Nd} {i : Nat} (hi : i < n) (h0 : N i = none) (h : ∀ (j : Nat),j < i → N j ≠ none) : Zkg n N = some i := by
 unfold Zkg
 rw [List.find?_eq_some_iff_getElem];refine ⟨by simp [h0],i,by simpa using hi,by simp,fun j hj => ?_⟩
 have := h j hj
 cases hN : N (j : Int) with
 | none => exact absurd hN this
 | some y => simp [hN]
def Zhf (nd : Nd) : Int := if (nd.st.kind ≠ 0 ∧ nd.st.kind ≠ 1 ∧ nd.st.kind ≠ 2) ∨ (nd.st.kind = 1 ∧ nd.data ≠ []) then 17 else if nd.st.check ≠ 0 then nd.st.check else if 512 < nd.data.length then 2 else 0
theorem Z42 (nd : Nd) (a : Option Addr) (q : Nat) (W : World) :
  Calls Tryz.prog 46 #[.agg (List.toArray [.int .i64 nd.st.kind,.int .i64 nd.st.mode,.int .i64 nd.st.owner,.int .i64 nd.st.group,.slice a nd.data.length q])] W (Ret fun v w => v = .int .i64 (Zhf nd) ∧ St W noF [] w) := by
 have hS := St.start W
 have hck := fun W => Zqk nd.st W
 unfold StatM.val at hck
 obtain ⟨e,he⟩ : ∃ e,e = nd.st.check := ⟨_,rfl⟩
 unfold Zhf
 rw [← he] at hck ⊢;by_cases h1 : nd.st.kind = 1
 ·by_cases hd : nd.data.length = 0
  ·have hd' : nd.data = [] := List.eq_nil_of_length_eq_zero hd
   rw [if_neg (by rintro (⟨_,h,_⟩ | ⟨_,h⟩); exact h h1; exact h hd')];by_cases h0 : e = 0
   ·subst h0
    refine Zab Tryz.func46 rfl Tryz.ntmps46 rfl ?_
    repeat (first|refine Yev ?_|(refine X_id ?_;first|(refine Zad 88 rfl rfl rfl rfl rfl hS (hck _) ?_;rintro _ _ rfl hS)|refine Yaf ?_|refine Yag ?_|refine Yan ?_|refine Yba ?_|refine Ya3 ?_|refine Yar ?_|refine Ybf ?_|refine Ybj ?_|refine Ya5 ?_|refine Ybq ?_|refine Yaq ?_|refine Ybh ?_|refine Ybc (fun _ _ hS _ => ?_))|refine Yer ?_|refine Yab ?_|refine Yau ?_|refine Yam ?_)
    exact ⟨by simp [hd'],hS.drops⟩
   ·rw [if_pos h0]
    refine Zab Tryz.func46 rfl Tryz.ntmps46 rfl ?_
    repeat (first|refine Yev ?_|(refine X_id ?_;first|(refine Zad 88 rfl rfl rfl rfl rfl hS (hck _) ?_;rintro _ _ rfl hS)|refine Yaf ?_|refine Yag ?_|refine Yan ?_|refine Yba ?_|refine Ya3 ?_|refine Yar ?_|refine Ybf ?_|refine Ybj ?_|refine Ya5 ?_|refine Ybq ?_|refine Yaq ?_|refine Ybh ?_|refine Ybc (fun _ _ hS _ => ?_))|refine Yel ?_|refine Yem ?_)
    exact ⟨rfl,hS.drops⟩
  ·rw [if_pos (.inr ⟨h1,fun e => hd (by rw [e]; rfl)⟩)]
   refine Zab Tryz.func46 rfl Tryz.ntmps46 rfl ?_
   repeat (first|refine Yev ?_|(refine X_id ?_;first|refine Yaf ?_|refine Yag ?_|refine Yan ?_|refine Yba ?_|refine Ya3 ?_|refine Yar ?_|refine Ybf ?_|refine Ybj ?_|refine Ya5 ?_|refine Ybv ?_|refine Yaq ?_|refine Ybc (fun _ _ hS _ => ?_))|refine Yeo ?_|refine Yem ?_)
   exact ⟨rfl,hS.drops⟩
 ·by_cases h02 : nd.st.kind = 0 ∨ nd.st.kind = 2
  ·rw [if_neg (by rintro (⟨h,_,h'⟩ | ⟨h,_⟩); rcases h02 with q | q; exact h q; exact h' q; exact h1 h)]
   have hor : nd.st.kind ≠ 0 → nd.st.kind = 2 := fun h => h02.resolve_left h
   by_cases hk0 : nd.st.kind = 0
   case' neg => have hk2 := hor hk0
   all_goals
    by_cases h0 : e = 0
    ·subst h0
     by_cases h5 : 512 < nd.data.length
     ·refine Zab Tryz.func46 rfl Tryz.ntmps46 rfl ?_
      repeat (first|refine Yev ?_|(refine X_id ?_;first|(refine Zad 88 rfl rfl rfl rfl rfl hS (hck _) ?_;rintro _ _ rfl hS)|refine Yaf ?_|refine Yag ?_|refine Yan ?_|refine Yba ?_|refine Ya3 ?_|refine Yar ?_|refine Ybg ?_|refine Ybj ?_|refine Ya5 ?_|refine Ybv ?_|refine Yaq ?_|refine Ybh ?_|refine Ybc (fun _ _ hS _ => ?_))|refine Yel ?_|refine Yem ?_)
      exact ⟨by simp [h5],hS.drops⟩
     ·refine Zab Tryz.func46 rfl Tryz.ntmps46 rfl ?_
      repeat (first|refine Yev ?_|(refine X_id ?_;first|(refine Zad 88 rfl rfl rfl rfl rfl hS (hck _) ?_;rintro _ _ rfl hS)|refine Yaf ?_|refine Yag ?_|refine Yan ?_|refine Yba ?_|refine Ya3 ?_|refine Yar ?_|refine Ybg ?_|refine Ybj ?_|refine Ya5 ?_|refine Ybq ?_|refine Yaq ?_|refine Ybh ?_|refine Ybc (fun _ _ hS _ => ?_))|refine Yer ?_|refine Yab ?_|refine Yau ?_|refine Yam ?_)
      exact ⟨by simp [h5],hS.drops⟩
    ·rw [if_pos h0]
     refine Zab Tryz.func46 rfl Tryz.ntmps46 rfl ?_
     repeat (first|refine Yev ?_|(refine X_id ?_;first|(refine Zad 88 rfl rfl rfl rfl rfl hS (hck _) ?_;rintro _ _ rfl hS)|refine Yaf ?_|refine Yag ?_|refine Yan ?_|refine Yba ?_|refine Ya3 ?_|refine Ybg ?_|refine Ybj ?_|refine Ya5 ?_|refine Yaq ?_|refine Ybh ?_|refine Ybc (fun _ _ hS _ => ?_))|refine Yel ?_|refine Yem ?_)
     exact ⟨rfl,hS.drops⟩
  ·have hk0 : ¬ nd.st.kind = 0 := fun h => h02 (.inl h)
   have hk2 : ¬ nd.st.kind = 2 := fun h => h02 (.inr h)
   rw [if_pos (.inl ⟨hk0,h1,hk2⟩)];refine Zab Tryz.func46 rfl Tryz.ntmps46 rfl ?_
   repeat (first|refine Yac ?_|refine Yaa ?_|refine Yav ?_|refine Ybe ?_|refine Yc5 ?_|(refine X_id ?_;first|refine Yaf ?_|refine Yag ?_|refine Yan ?_|refine Yba ?_|refine Ybj ?_|refine Yaq ?_|refine Ybc (fun _ _ hS _ => ?_))|refine Yeo ?_|refine Yem ?_)
   exact ⟨rfl,hS.drops⟩
section
variable {c f tp n : Nat} {b : Int} {T N : Int → Option Nd} {X : List RowD}
theorem Z37 (hn : n ≤ 1048576) (W : World) (F : Nat → Prop) (hT : TreeRo W F f tp n b T) (hS : St W F [chR c f b T N X] W) :
  Calls Tryz.prog 49 #[.pointer (some ⟨c,0,none⟩)] W (Ret fun v w => ∃ X',(∀ x ∈ X,x ∈ X') ∧ St W F [chR c f b T N X'] w ∧ v = match Zkg n N with
   | some i => .tuple #[.int .i64 (i : Nat),.bool true]
   | none => .tuple #[.int .i64 0,.bool false]) := by
 obtain ⟨P,D,pm,dm,hq,hS⟩ := hS.openCh
 have hc := hT.blk
 refine Zab Tryz.func49 rfl Tryz.ntmps49 rfl ?_
 repeat (first|refine Yd1 ?_|(refine X_id ?_;first|refine Yaf ?_|refine Yag ?_|refine Yat ?_|refine Yan ?_|refine Yaq ?_|refine Ycj ?_)|refine Yd2 ?_|refine Yab ?_)
 refine Zaa _ rfl rfl rfl rfl rfl (hT.tab.nodes _ (fun r h => h.rd hS)) ?_
 rintro _ _ ⟨rfl,rfl⟩
 replace hS := hS.shutCh hq
 clear hc;repeat (first|refine Yd1 ?_|refine Yaf ?_|refine Yal ?_|refine Yab ?_)
 refine Zak (α := Nat) (fun i => [(0,.pointer (some ⟨c,0,none⟩)),(14,.int .i64 (n : Nat)),(15,.int .i64 (i : Nat))])
  (fun i w => i ≤ n ∧ (∀ j : Nat,j < i → N j ≠ none) ∧ ∃ X',(∀ x ∈ X,x ∈ X') ∧ St W F [chR c f b T N X'] w) (fun i => n - i) 0 ⟨rfl,rfl,rfl,trivial⟩ ⟨Nat.zero_le _,fun j hj => absurd hj (by omega),X,fun _ h => h,hS⟩ ?_
 clear hS;rintro i w ⟨hi,hne,X',hX',hS⟩
 by_cases hlt : i < n
 ·repeat (first|refine Yd1 ?_|refine Yaf ?_|refine Yag ?_|refine Ya0 ?_|refine Yd5 ?_|refine Yab ?_)
  obtain ⟨_,hc,_,hw,hbk⟩ := hS.call [true]
  refine Zaa _ rfl rfl rfl rfl rfl (Z1f (i : Nat) _ _ (hT.mono hw) hc) ?_
  rintro v w ⟨X2,hX2,hS,nd,a',q',rfl,hy⟩
  replace hS := hbk hS
  clear hbk hw hc;cases hN : N (i : Int) with
  | none =>
   simp only [Option.isSome_none]
   rw [Zlu hlt hN hne];repeat (first|refine Yd1 ?_|(refine X_id ?_;first|refine Yaf ?_|refine Yag ?_|refine Yax ?_|refine Ybn ?_|refine Yao (fun _ hS _ => ?_)|refine Yas (fun _ _ hS _ => ?_))|refine Yei ?_|refine Ye7 ?_)
   exact ⟨X2,fun x hx => hX2 x (hX' x hx),hS.took,rfl⟩
  | some y =>
   simp only [Option.isSome_some]
   repeat (first|refine Yd1 ?_|(refine X_id ?_;first|refine Yaf ?_|refine Yag ?_|refine Yax ?_|refine Ybb ?_|refine Yaw ?_|refine Yao (fun _ hS _ => ?_)|refine Yas (fun _ _ hS _ => ?_))|refine Yec ?_|refine Yd9 ?_)
   exact Zaf (i + 1) ⟨rfl,rfl,rfl,trivial⟩ ⟨hlt,fun j hj => by
    by_cases hji : j = i
    ·subst hji; rw [hN]; simp
    ·exact hne j (by omega),X2,fun x hx => hX2 x (hX' x hx),hS.took⟩ (by omega)
 ·obtain rfl : i = n := by omega
  rw [Ztu hne];repeat (first|refine Yd1 ?_|refine Yag ?_|refine Ya1 ?_|refine Yea ?_|refine Yab ?_|refine Ya7 ?_|refine Ya8 ?_|refine Ybr ?_)
  exact ⟨X',hX',hS,rfl⟩
theorem Zzv (no : Int) (nd : Nd) (a : Option Addr) (q : Nat) (nb : Option Addr) (l : List Nm) (nc : Nat) (s : List UInt8) (W : World) (F : Nat → Prop) (hG : Lg W F) (hl : RX X nb (nmV l)) (hok : NmOk l) (hS : St W F [chR c f b T N X] W) :
  Calls Tryz.prog 79 #[.pointer (some ⟨c,0,none⟩),.agg (List.toArray [.int .i64 no,.int .i64 nd.st.kind,.int .i64 nd.st.mode,.int .i64 nd.st.owner,.int .i64 nd.st.group,.slice a nd.data.length q]),.slice nb l.length nc,.string (str s)] W (Ret fun v w =>
   v = .tuple #[] ∧ ∃ X',(∀ x ∈ X,x ∈ X') ∧ St W F [chR c f b T (fun k => if k = no then some ⟨nd.st,wrD (rmN s l)⟩ else N k) X'] w) := by
 have hok2 : NmOk (rmN s l) := Z2y hok
 have hll := hok.1
 refine Zab Tryz.func79 rfl Tryz.ntmps79 rfl ?_
 repeat (first|refine Yd1 ?_|refine Yaf ?_|refine Ybc (fun _ _ hS _ => ?_)|refine Yd2 ?_|refine Yab ?_)
 refine Zaa _ rfl rfl rfl rfl rfl (Zvf nb l nc _ (hl.rd (hS.rd (r := chR c f b T N X) (by simp)).ch) (by omega)) ?_
 rintro _ w ⟨a',c',rfl,hc',hS'⟩
 replace hS := hS.plus hS';clear hS';repeat (first|refine Yaa ?_|refine Ycd ?_)
 obtain ⟨_,hc,hr,hw,hbk⟩ := hS.call [true,false,false,false]
 refine Zaa _ rfl rfl rfl rfl rfl (Zv9 a' c' l _ s _ _ _ _ hc' (by omega) (hr _ (List.mem_cons_self ..)) hc) ?_
 rintro _ w ⟨a2,c2,rfl,hc2,hS⟩
 replace hS := hbk hS
 clear hbk hw hc hr;generalize rmN s l = l2 at hS hok2 hc2 ⊢;repeat (first|refine Yd1 ?_|refine Yag ?_|refine Yab ?_)
 refine Zaq (.s 0 (.s 1 (.s 2 (.s 3 (.s 4 (.s 5 (.s 6 (.h 7 (.s 8 (.h 9 .nil .no)) .no)))))))) mixed (by kernel_rfl) rfl ?_
 have hS := hS.drew
 repeat (first|(refine Zae ?_;first|refine Ya4 ?_|refine Ybk ?_|refine Yc6 ?_|refine Ybm ?_|refine Yb1 ?_|refine Yay ?_))
 refine Zaa _ rfl rfl rfl rfl rfl (Zjm a2 l2 c2 _ (hS.rd (List.mem_cons_self ..)).own_row.ro hok2 (hG.at_ hS)) ?_
 rintro _ w ⟨b3,q3,rfl,hq3,hS'⟩
 replace hS := hS.plus hS';clear hS';have hwl := Zpv hok2
 repeat (first|(refine Zae ?_;first|refine Yb8 ?_|refine Yay ?_)|(refine Zac ?_;first|refine Yaz ?_))
 obtain ⟨_,hc,hr,hw,hbk⟩ := hS.call [false,false,false,false,true]
 refine Zaa _ rfl rfl rfl rfl rfl (set_ no ⟨nd.st,wrD l2⟩ b3 q3 _ _ (.inl (hr _ (List.mem_cons_self ..)).own_row) (by simp only; omega) hc) ?_
 rintro _ w ⟨rfl,X',hX',hS⟩
 replace hS := hbk hS
 clear hbk hw hc hr;repeat (first|refine Ybs ?_|(refine Zae ?_;first|refine Ya2 ?_)|(refine Zac ?_;first|refine Yaz ?_))
 exact ⟨rfl,X',hX',hS.took⟩
end
def Zbq (n : Nat) (t : Tn) (nd : Nd) (p : List (List UInt8)) : Int × Tn :=
 if ¬ Zav p ∨ p = [] then (10,t) else
 if Zhf nd ≠ 0 then (Zhf nd,t) else
 match Zfc t p with
 | .error e => (e,t)
 | .ok x => if (kidT x.2 x.1.kids).isSome = true then (8,t) else
  match Zkg n (Nt t) with
  | none => (6,t)
  | some i => if 512 < (wrD (insN (x.2,(i : Int)) x.1.names)).length then (6,t) else (0,updT p.dropLast (addF (.mk x.2 i nd.st nd.data [])) t)
theorem Zhg {t u : Tn} {p : List (List UInt8)} {s : List UInt8} (h : Zfc t p = .ok (u,s)) : Zav p ∧ goT t p.dropLast = .ok u ∧ u.st.kind = 1 ∧ p = p.dropLast ++ [s] ∧ nameOk s := by
 unfold Zfc at h
 split at h
 ·rename_i hr
  split at h
  ·cases h
  ·rename_i s' hs'
   split at h
   ·cases h
   ·rename_i u' hu'
    split at h
    ·rename_i hk
     simp only [Except.ok.injEq,Prod.mk.injEq] at h
     obtain ⟨rfl,rfl⟩ := h
     have hne : p ≠ [] := fun e => by rw [e] at hs'; cases hs'
     have hp : p = p.dropLast ++ [s'] := by
      have := List.dropLast_concat_getLast hne
      rw [List.getLast?_eq_some_getLast hne] at hs';injection hs' with hs'
      rw [hs'] at this; exact this.symm
     exact ⟨hr,hu',hk,hp,hr.2 s' (List.mem_of_getLast? hs')⟩
    ·cases h
 ·cases h
theorem Zlt {n i : Nat} {N : Int → Option Nd} (h : Zkg n N = some i) : i < n ∧ N i = none := by
 unfold Zkg at h
 have h1 := List.mem_of_find?_eq_some h
 have h2 := List.find?_some h
 exact ⟨List.mem_range.1 h1,by simpa [Option.isNone_iff_eq_none] using h2⟩
theorem Zlp {nd : Nd} (h : Zhf nd = 0) : (nd.st.kind = 0 ∨ nd.st.kind = 1 ∨ nd.st.kind = 2) ∧ (nd.st.kind = 1 → nd.data = []) ∧ nd.st.check = 0 ∧ nd.data.length ≤ 512 := by
 unfold Zhf at h
 split at h
 ·cases h
 ·rename_i h1
  split at h
  ·exact absurd h (by assumption)
  ·rename_i h2
   split at h
   ·cases h
   ·rename_i h3
    refine ⟨?_,fun q => Decidable.byContradiction fun q2 => h1 (.inr ⟨q,q2⟩),Decidable.not_not.1 h2,by omega⟩
    have := fun q => h1 (.inl q)
    omega
theorem kidT_ix {u : Tn} {s : List UInt8} : 0 ≤ ixN s u.names ↔ (kidT s u.kids).isSome = true := by
 have hf := Zlo u s
 rcases Zhh (s := s) (l := u.names) with ⟨h1,h2⟩ | ⟨k,x,h1,_,h3⟩
 ·rw [h2] at hf
  have : kidT s u.kids = none := by cases hq : kidT s u.kids with | none => rfl | some y => rw [hq] at hf; cases hf
  rw [this]; simp; omega
 ·rw [h3] at hf
  have : (kidT s u.kids).isSome = true := by cases hq : kidT s u.kids with | none => rw [hq] at hf; cases hf | some y => rfl
  rw [this]; simp; omega
theorem Zpu : wrD [] = [40,41] := by simp [wrD,dirM,Zbj,Zay]
theorem Z3f {n i : Nat} {nd : Nd} {s : List UInt8} (hm : Zhf nd = 0) (hi : i < n) : TnOk n (.mk s i nd.st nd.data []) := by
 obtain ⟨h1,h2,h3,h4⟩ := Zlp hm
 refine ⟨h3,⟨Int.natCast_nonneg i,by show (i : Int) < n; omega⟩,fun q => ⟨h2 q,?_⟩,List.Pairwise.nil,fun _ h => (by cases h),fun _ => ⟨rfl,h4⟩⟩
 show (wrD []).length ≤ 512
 rw [Zpu]; decide
section
variable {n : Nat} {t : Tn}
theorem Zhe (ht : TreeOk n t) (nd : Nd) (p : List (List UInt8)) : TreeOk n (Zbq n t nd p).2 := by
 unfold Zbq
 split
 ·exact ht
 ·split
  ·exact ht
  ·rename_i hm
   replace hm := Decidable.not_not.1 hm
   cases hl : Zfc t p with
   | error e => exact ht
   | ok x =>
    obtain ⟨u,s⟩ := x
    obtain ⟨hr,hg,hu,hp,hs⟩ := Zhg hl
    simp only
    split
    ·exact ht
    ·rename_i hkid
     have hkid' : kidT s u.kids = none := by cases hq : kidT s u.kids with | none => rfl | some y => rw [hq] at hkid; exact absurd rfl hkid
     cases hf : Zkg n (Nt t) with
     | none => exact ht
     | some i =>
      obtain ⟨hi,hnew⟩ := Zlt hf
      simp only
      split
      ·exact ht
      ·rename_i h5
       have hpl : p.dropLast.length < 8 := by
        have h8 := hr.1
        have := congrArg List.length hp
        rw [List.length_append,List.length_singleton] at this; omega
       exact Z4e ht hg hu rfl (Z3f hm hi) hnew hs hkid' (by simp only [Tn.nm,Tn.no] at h5 ⊢; omega) hpl
end
section
variable {c f tp n : Nat} {b : Int} {T : Int → Option Nd} {t : Tn} {X : List RowD}
theorem Zz5 (ht : TreeOk n t) (nd : Nd) (a : Option Addr) (q : Nat) (pa : Option Addr) (p : List (List UInt8)) (pc : Nat) (W : World) (F : Nat → Prop) (hT : TreeRo W F f tp n b T) (hG : Lg W F) (ha : Ro W F (bytes a nd.data)) (hp : Ro W F (row pa (strV p))) (hpc : p.length ≤ pc) (hpl : p.length ≤ 1048576) (hS : St W F [chR c f b T (Nt t) X] W) :
  Calls Tryz.prog 18 #[.pointer (some ⟨c,0,none⟩),.agg (List.toArray [.int .i64 nd.st.kind,.int .i64 nd.st.mode,.int .i64 nd.st.owner,.int .i64 nd.st.group,.slice a nd.data.length q]),.slice pa p.length pc] W (Ret fun v w => ∃ X',(∀ x ∈ X,x ∈ X') ∧ v = .int .i64 (Zbq n t nd p).1 ∧ St W F [chR c f b T (Nt (Zbq n t nd p).2) X'] w) := by
 unfold Zbq
 refine Zab Tryz.func18 rfl Tryz.ntmps18 rfl ?_
 repeat (first|refine Yd1 ?_|refine Ye6 ?_|refine Ybc (fun _ _ hS _ => ?_)|refine Yec ?_|refine Yab ?_)
 refine Zaa _ rfl rfl rfl rfl rfl (Zzn pa p pc _ (hp.rd hS) hpc hpl) ?_
 rintro _ w (⟨hr,q0,s0,a',c',hpq,rfl,hc',hS'⟩ | ⟨hbad,rfl,hS'⟩)
 case inr =>
  replace hS := hS.plus hS';clear hS';rw [if_pos hbad];repeat (first|refine Yd1 ?_|refine Yet ?_|refine Yei ?_|refine Yej ?_)
  exact ⟨X,fun _ h => h,rfl,hS.took⟩
 replace hS := hS.plus hS';clear hS';rw [if_neg (by rintro (h | h); exact h hr; rw [h] at hpq; simp at hpq)]
 obtain ⟨e,he⟩ : ∃ e,e = Zhf nd := ⟨_,rfl⟩
 have hmd := fun W => Z42 nd a q W
 rw [← he] at hmd ⊢;by_cases h0 : e = 0
 case neg =>
  rw [if_pos h0];repeat (first|refine Yd1 ?_|(refine X_id ?_;first|(refine Zad 46 rfl rfl rfl rfl rfl hS (hmd _) ?_;rintro _ _ rfl hS)|refine Yaf ?_|refine Yag ?_|refine Yax ?_|refine Ybj ?_|refine Ya5 ?_|refine Ybh ?_)|refine Ye5 ?_|refine Yej ?_)
  exact ⟨X,fun _ h => h,rfl,hS.took⟩
 subst h0
 rw [if_neg (by simp)];obtain ⟨hmk,hmd1,hmc,hm5⟩ := Zlp he.symm
 repeat (first|refine Yd1 ?_|(refine X_id ?_;first|(refine Zad 46 rfl rfl rfl rfl rfl hS (hmd _) ?_;rintro _ _ rfl hS)|refine Yaf ?_|refine Yag ?_|refine Yax ?_|refine Ya5 ?_|refine Ybh ?_)|refine Yec ?_|refine Yab ?_)
 obtain ⟨_,hc,_,hw,hbk⟩ := hS.call [false,false,true]
 refine Zaa _ rfl rfl rfl rfl rfl (Z3j ht pa p pc _ _ (hT.mono hw) (hG.mono hw) (hw _ hp) hpc hpl hc) ?_
 rintro v w ⟨X1,hX1,hS,hv⟩
 replace hS := hbk hS
 clear hbk hw hc;cases hl : Zfc t p with
 | error e =>
  rw [hl] at hv;obtain ⟨he0,no',nd',a',q',b',m',k',s',rfl⟩ := hv
  simp only
  repeat (first|refine Yd1 ?_|refine Yet ?_|refine Yao (fun _ hS _ => ?_)|refine Yas (fun _ _ hS _ => ?_)|refine Yeo ?_|refine Yem ?_)
  exact ⟨X1,hX1,rfl,hS.took⟩
 | ok x =>
  obtain ⟨u,s⟩ := x
  rw [hl] at hv;obtain ⟨a2,q2,nb,nc,rfl,hq2,hrow,hnrow⟩ := hv
  obtain ⟨_,hg,hk,hpd,hs⟩ := Zhg hl
  have hu := Zba hg
  have hnok := (ht.rd hu hk).1
  have hn5 := ((ht.node u hu).dir hk).2
  have hnl : u.names.length ≤ 1023 := by
   have hge := Zja (m := 7) (l := u.names.map Zdu) fun x hx => by
    obtain ⟨y,_,rfl⟩ := List.mem_map.1 hx
    exact Zkm y 6
   rw [wrD,dirM,Zbj] at hn5;simp only [List.length_map,List.length_cons,List.length_append,List.length_nil] at hge hn5
   omega
  simp only at hq2 hrow hnrow ⊢
  repeat (first|refine Yd1 ?_|refine Yeu ?_|refine Yao (fun _ hS _ => ?_)|refine Yas (fun _ _ hS _ => ?_)|refine Yen ?_|refine Yab ?_)
  refine Zaa _ rfl rfl rfl rfl rfl (Z3y nb u.names nc s _ (hnrow.rd (hS.rd (r := chR c f b T (Nt t) X1) (by simp)).ch) (by omega)) ?_
  rintro _ w ⟨rfl,hS'⟩
  replace hS := hS.plus hS';clear hS';by_cases hix : 0 ≤ ixN s u.names
  ·rw [if_pos (kidT_ix.1 hix)]
   repeat (first|refine Yd1 ?_|refine Yag ?_|refine Yb6 ?_|refine Yei ?_|refine Yem ?_)
   exact ⟨X1,hX1,rfl,hS.took⟩
  have hix' : ixN s u.names < 0 := by omega
  rw [if_neg (fun h => hix (kidT_ix.2 h))];have hkid : kidT s u.kids = none := by
   cases hq : kidT s u.kids with
   | none => rfl
   | some y => exact absurd (kidT_ix.2 (by rw [hq]; rfl)) hix
  repeat (first|refine Yd1 ?_|refine Yaf ?_|refine Yag ?_|refine Yb9 ?_|refine Yec ?_|refine Yd9 ?_)
  obtain ⟨_,hc,_,hw,hbk⟩ := hS.call [false,true]
  refine Zaa _ rfl rfl rfl rfl rfl (Z37 (by have := ht.small; omega) _ _ (hT.mono hw) hc) ?_
  rintro v w ⟨X2,hX2,hS,hv⟩
  replace hS := hbk hS
  clear hbk hw hc;subst hv
  cases hf : Zkg n (Nt t) with
  | none =>
   simp only
   repeat (first|refine Yek ?_|(refine X_id ?_;first|refine Yaf ?_|refine Yag ?_|refine Yax ?_|refine Yba ?_|refine Ybn ?_)|refine Yei ?_|refine Yej ?_)
   exact ⟨X2,fun x hx => hX2 x (hX1 x hx),rfl,hS.took⟩
  | some i =>
   obtain ⟨hi,hnew⟩ := Zlt hf
   have hsl : s.length ≤ 64 := by have := hs.2.1; omega
   simp only
   repeat (first|refine Yeh ?_|(refine X_id ?_;first|refine Yaf ?_|refine Yag ?_|refine Yax ?_|refine Ybb ?_|refine Ybh ?_)|refine Yd2 ?_|refine Yab ?_)
   obtain ⟨_,hc,_,hw,hbk⟩ := hS.call [true]
   refine Zaa _ rfl rfl rfl rfl rfl (Z30 u.no u.nd a2 q2 nb u.names nc s (i : Nat) _ _ (hG.mono hw) (hnrow.sub hX2) hnok (by omega) ⟨hsl,by omega,by have := ht.small; omega⟩ (Ztp (ht.node u hu)) hc) ?_
   rintro v w ⟨X3,hX3,(⟨h5,rfl,hS⟩ | ⟨h5,rfl,hS⟩)⟩
   ·replace hS := hbk hS
    clear hbk hw hc;rw [if_pos h5];repeat (first|refine Yeh ?_|refine Yag ?_|refine Ya3 ?_|refine Ybn ?_|refine Yei ?_|refine Yej ?_)
    exact ⟨X3,fun x hx => hX3 x (hX2 x (hX1 x hx)),rfl,hS.took⟩
   ·replace hS := hbk hS
    clear hbk hw hc;rw [if_neg (by omega)];have hNt : (fun k => if k = (i : Int) then some (Tn.mk s i nd.st nd.data []).nd else if k = u.no then some (⟨u.nd.st,wrD (insN (s,(i : Int)) u.names)⟩ : Nd) else Nt t k) = Nt (updT p.dropLast (addF (.mk s i nd.st nd.data [])) t) := by
     funext x
     rw [Z0f (k := .mk s i nd.st nd.data []) ht hg rfl hnew,Z19 hk]
     rfl
    by_cases hdir : nd.st.kind = 1
    ·have hknd : (Tn.mk s i nd.st nd.data []).nd = ⟨nd.st,wrD []⟩ := by
      show (⟨nd.st,if nd.st.kind = 1 then wrD [] else nd.data⟩ : Nd) = _
      rw [if_pos hdir]
     rw [hknd] at hNt;repeat (first|refine Yeh ?_|(refine X_id ?_;first|refine Yan ?_|refine Ya3 ?_|refine Ybb ?_|refine Ybf ?_|refine Yaq ?_)|refine Yew ?_|refine Yab ?_)
     refine Zaa _ rfl rfl rfl rfl rfl (Zjm none [] 0 _ (Zhv _ _ _) ⟨by decide,fun _ h => (by cases h)⟩ (hG.at_ hS)) ?_
     rintro _ w ⟨b3,q3,rfl,hq3,hS'⟩
     replace hS := hS.plus hS';clear hS';repeat (first|refine Yd1 ?_|refine Yaf ?_|refine Yan ?_|refine Ybh ?_|refine Yao (fun _ hS _ => ?_)|refine Yd2 ?_|refine Yab ?_)
     obtain ⟨_,hc,hr,hw,hbk⟩ := hS.call [false,true]
     refine Zaa _ rfl rfl rfl rfl rfl (set_ (i : Nat) ⟨nd.st,wrD []⟩ b3 q3 _ _ (.inl (hr _ (List.mem_cons_self ..)).own_row) (by simp only [Zpu]; decide) hc) ?_
     rintro _ w ⟨rfl,X4,hX4,hS⟩
     replace hS := hbk hS
     clear hbk hw hc hr;rw [hNt] at hS;repeat (first|refine Yd1 ?_|refine Yag ?_|refine Yee ?_|refine Yd3 ?_)
     exact ⟨X4,fun x hx => hX4 x (hX3 x (hX2 x (hX1 x hx))),rfl,hS.took⟩
    ·have hknd : (Tn.mk s i nd.st nd.data []).nd = nd := by
      show (⟨nd.st,if nd.st.kind = 1 then wrD [] else nd.data⟩ : Nd) = _
      rw [if_neg hdir]
     rw [hknd] at hNt;repeat (first|refine Yeh ?_|(refine X_id ?_;first|refine Yaf ?_|refine Yan ?_|refine Ya3 ?_|refine Ybb ?_|refine Ybg ?_|refine Yaq ?_|refine Ybh ?_)|refine Yec ?_|refine Yab ?_)
     obtain ⟨_,hc,_,hw,hbk⟩ := hS.call [true]
     refine Zaa _ rfl rfl rfl rfl rfl (set_ (i : Nat) nd a q _ _ (.inl (hw _ ha)) (by omega) hc) ?_
     rintro _ w ⟨rfl,X4,hX4,hS⟩
     replace hS := hbk hS
     clear hbk hw hc;rw [hNt] at hS;repeat (first|refine Yd1 ?_|refine Yag ?_|refine Yee ?_|refine Yd3 ?_)
     exact ⟨X4,fun x hx => hX4 x (hX3 x (hX2 x (hX1 x hx))),rfl,hS.took⟩
end
end Cr
namespace Cr
open Go
set_option maxHeartbeats 64000000

section
variable {n : Nat} {t u k : Tn} {p : List (List UInt8)} {s : List UInt8}
/-! ### one node otherwise -/
theorem Zux {f : Tn → Tn} (ht : TreeOk n t) (hg : goT t p = .ok u) (hf : Zrd f u) (hk : (f u).st.kind = u.st.kind) : (updT p f t).no = 0 ∧ (updT p f t).st.kind = 1 := by
 have hr := ht.root
 refine ⟨(Zfp hf hg).2.trans hr.1,?_⟩
 cases p with
 | nil => rw [goT] at hg; injection hg with hg; subst hg; rw [updT,hk]; exact hr.2
 | cons s p =>
  obtain ⟨x,hs,hg'⟩ := Zfv hg
  obtain ⟨_,hn,l1,l2,he,h1,h2⟩ := Zdi (ht.node t (Zd0 t)) hs
  rw [Ze3 (p := p) (f := f) he hn h1 h2]; exact hr.2
/-! ### one less -/
theorem Zxw {l1 l2 : List Tn} (hn : k.nm = s) (h1 : ∀ x ∈ l1,x.nm ≠ s) (h2 : ∀ x ∈ l2,x.nm ≠ s) : rmT s (l1 ++ k :: l2) = l1 ++ l2 := by
 unfold rmT
 rw [List.filter_append,List.filter_cons_of_neg (by simpa using hn),List.filter_eq_self.2 fun x hx => by simpa using h1 x hx,List.filter_eq_self.2 fun x hx => by simpa using h2 x hx]
theorem Zu0 (ht : TreeOk n t) (hg : goT t p = .ok u) (hs : Zaz u s = .ok k) (hk : k.kids = []) : ∃ rest,(Zcl t).Perm (ent k :: ent u :: rest) ∧ (Zcl (updT p (rmF s) t)).Perm (ent (rmF s u) :: rest) := by
 obtain ⟨r,h1,h2⟩ := Zmf (Zsd s u) ht.node hg
 obtain ⟨_,hn,l1,l2,he,q1,q2⟩ := Zdi (ht.node u (Zba hg)) hs
 have e1 : (rmF s u).kids = l1 ++ l2 := by show rmT s u.kids = _; rw [he]; exact Zxw hn q1 q2
 rw [Zgq u,he] at h1;rw [Zgq (rmF s u),e1] at h2;refine ⟨Zc5 (l1 ++ l2) ++ r,h1.trans ?_,h2⟩
 have h3 : (Zc5 (l1 ++ k :: l2)).Perm (ent k :: Zc5 (l1 ++ l2)) := by
  have := Zlx (List.perm_middle (a := k) (l₁ := l1) (l₂ := l2))
  rwa [Zly,Zov hk] at this
 exact ((h3.append_right r).cons (ent u)).trans (.swap _ _ _)
theorem Zrv (ht : TreeOk n t) (hg : goT t p = .ok u) (hs : Zaz u s = .ok k) (hk : k.kids = []) : ((Zcl (updT p (rmF s) t)).map (·.1)).Nodup := by
 obtain ⟨r,h1,h2⟩ := Zu0 ht hg hs hk
 have k1 := (h1.map (fun x : Int × Nd => x.1)).nodup_iff.1 ht.nodup
 refine (h2.map (fun x : Int × Nd => x.1)).nodup_iff.2 ?_
 exact (List.nodup_cons.1 k1).2
theorem Z5h (ht : TreeOk n t) (hg : goT t p = .ok u) (hs : Zaz u s = .ok k) (hk : k.kids = []) (no : Int) : Nt (updT p (rmF s) t) no = if no = k.no then none else if no = u.no then some (rmF s u).nd else Nt t no := by
 obtain ⟨r,h1,h2⟩ := Zu0 ht hg hs hk
 have k1 := (h1.map (fun x : Int × Nd => x.1)).nodup_iff.1 ht.nodup
 have k2 : k.no ∉ u.no :: r.map (fun x : Int × Nd => x.1) := (List.nodup_cons.1 k1).1
 rw [Znp h2 (Zrv ht hg hs hk),Znp h1 ht.nodup];simp only [Zkf]
 show (if no = u.no then some (rmF s u).nd else getA no r) = if no = k.no then none else if no = u.no then some (rmF s u).nd else if no = k.no then some k.nd else if no = u.no then some u.nd else getA no r
 by_cases h : no = k.no
 ·subst h
  have h3 : ¬ k.no = u.no := fun e => k2 (by rw [e]; exact List.mem_cons_self ..)
  have h4 : getA k.no r = none := getA_none.2 fun e => k2 (List.mem_cons_of_mem _ e)
  simp [h3,h4]
 ·by_cases h2 : no = u.no
  ·rw [if_pos h2,if_neg h,if_pos h2]
  ·rw [if_neg h2,if_neg h,if_neg h2,if_neg h,if_neg h2]
theorem Z2z (hu : u.st.kind = 1) : (rmF s u).nd = ⟨u.st,wrD (rmN s u.names)⟩ := by
 unfold Tn.nd
 show (⟨u.st,if u.st.kind = 1 then wrD ((rmT s u.kids).map fun k => (k.nm,k.no)) else u.data⟩ : Nd) = _
 rw [if_pos hu,Zoa]; rfl
theorem Zis (q : Nm → Bool) : ∀ l : List Nm,(Zay ((l.filter q).map Zdu)).length ≤ (Zay (l.map Zdu)).length
 | [] => by simp
 | x :: l => by
  have ih := Zis q l
  rw [List.map_cons,Zay,List.length_append];by_cases h : q x = true
  ·rw [List.filter_cons_of_pos h,List.map_cons,Zay,List.length_append]; omega
  ·rw [List.filter_cons_of_neg h]; omega
theorem Z2n (s : List UInt8) (l : List Nm) : (wrD (rmN s l)).length ≤ (wrD l).length := by
 have := Zis (fun x => decide (x.1 ≠ s)) l
 unfold wrD dirM rmN
 rw [Zbj,Zbj];simp only [List.length_cons,List.length_append,List.length_nil]
 omega
theorem Z4x (ht : TreeOk n t) (hg : goT t p = .ok u) (hu : u.st.kind = 1) (hs : Zaz u s = .ok k) (hk : k.kids = []) : TreeOk n (updT p (rmF s) t) := by
 have h0 := ht.node u (Zba hg)
 have hsub : (rmT s u.kids).Sublist u.kids := List.filter_sublist
 refine ⟨Zun (Zsd s u) ht.node hg fun v hv => ?_,Zrv ht hg hs hk,Zux ht hg (Zsd s u) rfl,?_,ht.small⟩
 ·rw [Ze6] at hv
  rcases List.mem_cons.1 hv with rfl | hv
  ·refine ⟨h0.chk,h0.low,fun q => ⟨(h0.dir hu).1,?_⟩,h0.rise.sublist hsub,fun x hx => h0.nmk x (hsub.subset hx),fun q => absurd hu q⟩
   have h1 : (rmF s u).names = rmN s u.names := Zoa s u.kids
   rw [h1];exact Nat.le_trans (Z2n s u.names) (h0.dir hu).2
  ·obtain ⟨x,hx,hv⟩ := mem_subL.1 (show v ∈ subL (rmT s u.kids) from hv)
   exact ht.node v (Zcx (Zba hg) (Ze5 (hsub.subset hx) hv))
 ·have h1 := Zpy (Zsd s u) ht.node hg
  have h2 := Zqr hg
  have h3 : hgtT (rmF s u) ≤ hgtT u := by
   rw [Zff,Zff u];exact hgtL_le.2 fun x hx => Zi7 (hsub.subset (show x ∈ rmT s u.kids from hx))
  have := ht.high
  omega
end
end Cr
namespace Cr
open Go Go.Proofs
set_option maxRecDepth 100000
set_option maxHeartbeats 64000000
attribute [local irreducible] Calls

def Zcy (t : Tn) (p : List (List UInt8)) : Int × Tn := match Zfc t p with
 | .error e => (e,t)
 | .ok x => match Zaz x.1 x.2 with
  | .error e => (e,t)
  | .ok k => if k.kids ≠ [] then (15,t) else (0,updT p.dropLast (rmF x.2) t)
section
variable {n : Nat} {t : Tn}
theorem Zry (ht : TreeOk n t) (p : List (List UInt8)) : TreeOk n (Zcy t p).2 := by
 unfold Zcy
 cases hl : Zfc t p with
 | error e => exact ht
 | ok x =>
  obtain ⟨u,s⟩ := x
  obtain ⟨_,hg,hu,_,_⟩ := Zhg hl
  simp only
  cases hs : Zaz u s with
  | error e => exact ht
  | ok k =>
   simp only
   split
   ·exact ht
   ·rename_i hk
    exact Z4x ht hg hu hs (Decidable.not_not.1 hk)
end
section
variable {c f tp n : Nat} {b : Int} {T : Int → Option Nd} {t : Tn} {X : List RowD}
theorem Z1x (ht : TreeOk n t) (pa : Option Addr) (p : List (List UInt8)) (pc : Nat) (W : World) (F : Nat → Prop) (hT : TreeRo W F f tp n b T) (hG : Lg W F) (hp : Ro W F (row pa (strV p))) (hpc : p.length ≤ pc) (hpl : p.length ≤ 1048576) (hS : St W F [chR c f b T (Nt t) X] W) :
  Calls Tryz.prog 37 #[.pointer (some ⟨c,0,none⟩),.slice pa p.length pc] W (Ret fun v w => ∃ X',(∀ x ∈ X,x ∈ X') ∧ v = .int .i64 (Zcy t p).1 ∧ St W F [chR c f b T (Nt (Zcy t p).2) X'] w) := by
 unfold Zcy
 refine Zab Tryz.func37 rfl Tryz.ntmps37 rfl ?_
 repeat (first|refine Yd1 ?_|refine Yef ?_|refine Yd2 ?_|refine Yab ?_)
 obtain ⟨_,hc,_,hw,hbk⟩ := hS.call [true]
 refine Zaa _ rfl rfl rfl rfl rfl (Z3j ht pa p pc _ _ (hT.mono hw) (hG.mono hw) (hw _ hp) hpc hpl hc) ?_
 rintro v w ⟨X1,hX1,hS,hv⟩
 replace hS := hbk hS
 clear hbk hw hc;cases hl : Zfc t p with
 | error e =>
  rw [hl] at hv;obtain ⟨he0,no',nd',a',q',b',m',k',s',rfl⟩ := hv
  simp only
  repeat (first|refine Yd1 ?_|refine Yet ?_|refine Yao (fun _ hS _ => ?_)|refine Yas (fun _ _ hS _ => ?_)|refine Yei ?_|refine Yej ?_)
  exact ⟨X1,hX1,rfl,hS.took⟩
 | ok x =>
  obtain ⟨u,s⟩ := x
  rw [hl] at hv;obtain ⟨a2,q2,nb,nc,rfl,hq2,hrow,hnrow⟩ := hv
  obtain ⟨_,hg,hk,hpd,hs⟩ := Zhg hl
  have hu := Zba hg
  have hnok := (ht.rd hu hk).1
  simp only at hq2 hrow hnrow ⊢
  repeat (first|refine Yd1 ?_|(refine X_id ?_;first|refine Yaf ?_|refine Yag ?_|refine Yax ?_|refine Ya5 ?_|refine Ybh ?_|refine Yao (fun _ hS _ => ?_)|refine Yas (fun _ _ hS _ => ?_))|refine Yec ?_|refine Yab ?_)
  obtain ⟨_,hc,_,hw,hbk⟩ := hS.call [false,true]
  have hin := ht.into hu s
  refine Zaa _ rfl rfl rfl rfl rfl (Z3l u.no u.nd a2 q2 s _ _ (hT.mono hw) (hG.mono hw) hrow hq2 (ht.len hu) (by rw [hin]; cases hg : Zaz u s with | ok k => simp | error e => rcases Zkb hg with rfl | rfl <;> simp) hc) ?_
  rintro v w ⟨X2,hX2,hS,hv⟩
  replace hS := hbk hS
  clear hbk hw hc;rw [hin] at hv;cases hgs : Zaz u s with
  | error e =>
   rw [hgs] at hv;obtain ⟨rfl,he⟩ := hv
   simp only
   repeat (first|refine Yd1 ?_|refine Yet ?_|refine Yao (fun _ hS _ => ?_)|refine Yas (fun _ _ hS _ => ?_)|refine Yei ?_|refine Yej ?_)
   exact ⟨X2,fun x hx => hX2 x (hX1 x hx),rfl,hS.took⟩
  | ok k =>
   rw [hgs] at hv;obtain ⟨a3,q3,rfl,hq3,hrow3⟩ := hv
   obtain ⟨_,hkk,hkn⟩ := Zi8 hgs
   have hkm : k ∈ subT t := Zcx hu (Zj3 hkk)
   simp only at hq3 hrow3 ⊢
   repeat (first|refine Yd1 ?_|(refine X_id ?_;first|refine Yaf ?_|refine Yag ?_|refine Yax ?_|refine Ya5 ?_|refine Ybh ?_|refine Yao (fun _ hS _ => ?_)|refine Yas (fun _ _ hS _ => ?_))|refine Yec ?_|refine Yab ?_)
   refine Zaa _ rfl rfl rfl rfl rfl (Zr5 k.no k.nd a3 q3 _ (hrow3.rd (hS.rd (r := chR c f b T (Nt t) X2) (by simp)).ch) hq3 (ht.len hkm) (hG.at_ hS)) ?_
   have hfin : ∀ (hk0 : k.kids = []),(fun x => if x = k.no then none else if x = u.no then some (⟨u.nd.st,wrD (rmN s u.names)⟩ : Nd) else Nt t x) = Nt (updT p.dropLast (rmF s) t) := fun hk0 => by
    funext x
    rw [Z5h ht hg hgs hk0,Z2z hk]; rfl
   rintro _ w (⟨hkd,nb3,nc3,rfl,hS'⟩ | ⟨hkd,rfl,hS'⟩)
   case inl =>
    replace hS := hS.plus hS';clear hS';have hkd' : k.st.kind = 1 := hkd
    rw [(ht.rd hkm hkd').2] at hS ⊢;by_cases h0 : k.kids = []
    ·have hnm0 : k.names.length = 0 := by unfold Tn.names; rw [h0]; rfl
     rw [hnm0,if_neg (by simp [h0])]
     repeat (first|refine Yeh ?_|(refine X_id ?_;first|refine Yaf ?_|refine Yag ?_|refine Yax ?_|refine Yba ?_|refine Yar ?_|refine Ybf ?_|refine Ybq ?_|refine Ybh ?_)|refine Yec ?_|refine Yab ?_)
     obtain ⟨_,hc,_,hw,hbk⟩ := hS.call [false,false,true]
     refine Zaa _ rfl rfl rfl rfl rfl (Zzv u.no u.nd a2 q2 nb u.names nc s _ _ (hG.mono hw) (hnrow.sub hX2) hnok hc) ?_
     rintro _ w ⟨rfl,X3,hX3,hS⟩
     replace hS := hbk hS
     clear hbk hw hc;repeat (first|refine Yd1 ?_|refine Yaf ?_|refine Yan ?_|refine Yaq ?_|refine Yd2 ?_|refine Yab ?_)
     obtain ⟨_,hc,_,hw,hbk⟩ := hS.call [true]
     refine Zaa _ rfl rfl rfl rfl rfl (Z3q k.no _ _ hc) ?_
     rintro _ w ⟨rfl,hS⟩
     replace hS := hbk hS
     clear hbk hw hc;rw [hfin h0] at hS;repeat (first|refine Yd1 ?_|refine Yag ?_|refine Yee ?_|refine Yd3 ?_)
     exact ⟨X3,fun x hx => hX3 x (hX2 x (hX1 x hx)),rfl,hS.took⟩
    ·have hnm0 : 0 < k.names.length := by unfold Tn.names; rw [List.length_map]; exact List.length_pos_iff.2 h0
     rw [if_pos h0];repeat (first|refine Yeh ?_|(refine X_id ?_;first|refine Yaf ?_|refine Yag ?_|refine Yax ?_|refine Yba ?_|refine Yar ?_|refine Ybf ?_|refine Ybv ?_)|refine Yei ?_|refine Yej ?_)
     exact ⟨X2,fun x hx => hX2 x (hX1 x hx),rfl,hS.took⟩
   case inr =>
    replace hS := hS.plus hS';clear hS';have h0 : k.kids = [] := ((ht.node k hkm).leaf hkd).1
    rw [if_neg (by simp [h0])]
    repeat (first|refine Yek ?_|(refine X_id ?_;first|refine Yaf ?_|refine Yag ?_|refine Yax ?_|refine Ya3 ?_|refine Ybg ?_|refine Ybh ?_)|refine Yec ?_|refine Yab ?_)
    obtain ⟨_,hc,_,hw,hbk⟩ := hS.call [false,true]
    refine Zaa _ rfl rfl rfl rfl rfl (Zzv u.no u.nd a2 q2 nb u.names nc s _ _ (hG.mono hw) (hnrow.sub hX2) hnok hc) ?_
    rintro _ w ⟨rfl,X3,hX3,hS⟩
    replace hS := hbk hS
    clear hbk hw hc;repeat (first|refine Yd1 ?_|refine Yaf ?_|refine Yan ?_|refine Yaq ?_|refine Yd2 ?_|refine Yab ?_)
    obtain ⟨_,hc,_,hw,hbk⟩ := hS.call [true]
    refine Zaa _ rfl rfl rfl rfl rfl (Z3q k.no _ _ hc) ?_
    rintro _ w ⟨rfl,hS⟩
    replace hS := hbk hS
    clear hbk hw hc;rw [hfin h0] at hS;repeat (first|refine Yd1 ?_|refine Yag ?_|refine Yee ?_|refine Yd3 ?_)
    exact ⟨X3,fun x hx => hX3 x (hX2 x (hX1 x hx)),rfl,hS.took⟩
end
section
variable {c f tp n : Nat} {b : Int} {T : Int → Option Nd} {t : Tn} {X : List RowD}
end
section
variable {c f tp n : Nat} {b : Int} {T : Int → Option Nd} {t : Tn} {X : List RowD}
end
section
variable {c f tp n : Nat} {b : Int} {T : Int → Option Nd} {t : Tn} {X Y : List RowD}
end
section
variable {c f tp n : Nat} {b : Int} {T : Int → Option Nd} {t : Tn} {X Y : List RowD}
end
section
variable {c f tp n : Nat} {b : Int} {T : Int → Option Nd} {t : Tn} {X : List RowD}
end
end Cr
