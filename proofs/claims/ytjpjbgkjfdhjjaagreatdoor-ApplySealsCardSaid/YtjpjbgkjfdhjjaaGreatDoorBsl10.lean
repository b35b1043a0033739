/-
  path.Name says nameOk.
  Layer 8 (tree): names looked for; paths that are right; a name of a directory.
  Layer 8 (tree) in plain words,2: trees; the nodes they have by number; paths gone. No program is in sight.
  Layer 8 (tree): a place's names; a name of a directory; the root.
  Layer 8 (tree): a path gone.
  Layer 8 (tree): slices copied; paths split; Get,List; what is ahead of a path's last name.
  The base of a row of the run's own. Over any program.
  Rows of the run's own whose elements have several cells: copied into,grown by zeros,asked whether they overlap.
  DERIVED: THE SHELF's CONTRACTS AT THIS DUMP,IN PLAIN WORDS (tools/lay-plain.mjs out of 'TryzShelf.lean',which tools/lay-shelf.mjs wrote): THE SAME DECLARATIONS UNDER THE SAME NAMES: 'import','namespace','open','def','theorem' AND NOTHING ELSE: no command of the shelf's: FOR A HAND-IN. Each laying: the table of numbers ('.._ren') and one theorem,a field a fact of the dump's own or the kernel's comparison; each contract: ONE APPLICATION.
  Layer 8 (tree): List; what is ahead of a path's last name.
  Layer 8 (tree): a name's place found in a list that rises.
  Layer 8 (tree): a name laid into a list.
  Layer 8 (tree) in plain words,3: names laid into a list that rises,and taken out of it. No program is in sight.
-/
import Derived.Test.YtjpjbgkjfdhjjaaGreatDoorBsl9
import Derived.Test.YtjpjbgkjfdhjjaaGreatDoorBsl6
import Derived.Test.YtjpjbgkjfdhjjaaGreatDoorBsl8
import Derived.Lib.Bytealg
import Derived.Test.YtjpjbgkjfdhjjaaGreatDoorBsl4
import Derived.Test.YtjpjbgkjfdhjjaaGreatDoorBsl3
import Derived.Lib.Overlaps
import Derived.KernelRfl
import Derived.Shelf.Strings.Builder1
import Derived.Shelf.Strings.Builder2
import Derived.Shelf.Small.Strs
import Derived.Shelf.Strings.BuilderF
import Derived.Shelf.Strconv.Atoi
import Derived.Shelf.Strconv.Itoa0
import Derived.Shelf.Strconv.Itoa1
import Derived.Shelf.LaysM
import Derived.Shelf.Strconv.Itoa2
import Derived.Shelf.Strconv.Itoa3
import Derived.Shelf.Strconv.AtoiErrFast
import Derived.Shelf.Strconv.ParseIntEmpty
import Derived.Shelf.Strconv.AtoiFail
import Derived.Shelf.Strconv.Clone
import Derived.Shelf.Strconv.SyntaxError
import Derived.Shelf.LaysC
import Derived.Shelf.Strconv.ToError
import Derived.Shelf.Strconv.Lower
import Derived.Shelf.Strconv.ParseUint10
import Derived.Shelf.Strconv.ParseUint10Empty
import Derived.Shelf.Strconv.ParseUint10Any
import Derived.Shelf.Strconv.ParseInt10
import Derived.Shelf.Strconv.AtoiLong
import Derived.Shelf.Strconv.AtoiInnerAll
import Derived.Shelf.Strconv.RangeError
import Derived.Shelf.Strconv.ToErrorRange
import Derived.Shelf.Strconv.AtoiAll
import Derived.Shelf.Strconv.ErrVarAll
import Derived.Shelf.Strings.Search1
import Derived.Shelf.Strings.Search2
import Derived.Shelf.Strings.Search3
import Derived.Shelf.Strings.Count
import Derived.Shelf.Strings.Shaped
import Derived.Shelf.Sort.Plain
import Derived.Shelf.Strings.Prefix
import Derived.Shelf.Strings.Split
import Derived.Shelf.Strings.SplitShaped
import Derived.Shelf.Unicode.DecodeSlow
import Derived.Shelf.Slices.In.SortNone
import Derived.Test.YtjpjbgkjfdhjjaaGreatDoorProg
import Derived.Test.YtjpjbgkjfdhjjaaGreatDoorBsl5
namespace Cr
open Go Go.Proofs
set_option maxRecDepth 100000
set_option maxHeartbeats 64000000
attribute [local irreducible] Calls

theorem Zhk {s : List UInt8} (h : s.length < 1 ∨ 24 < s.length ∨ s = [46] ∨ s = [46,46]) : decide (nameOk s) = false := by
 refine decide_eq_false fun q => ?_
 obtain ⟨q1,q2,q3,q4,_⟩ := q
 rcases h with h | h | h | h
 ·omega
 ·omega
 ·exact q3 h
 ·exact q4 h
theorem Z6g (s : List UInt8) (W : World) : Calls Tryz.prog 71 #[.string (str s)] W (Ret fun v w => v = .bool (decide (nameOk s)) ∧ St W noF [] w) := by
 have hS := St.start W
 have hz := Zci s
 by_cases h1 : s.length < 1
 ·rw [Zhk (.inl h1)]
  refine Zab Tryz.func71 rfl Tryz.ntmps71 rfl ?_
  repeat (first|refine Yev ?_|(refine X_id ?_;first|refine Yaf ?_|refine Yag ?_|refine Ya9 ?_|refine Ycr ?_|refine Ya1 ?_)|refine Yae ?_|refine Ycg ?_|refine Yad ?_|refine Yah ?_|refine Yaj ?_|refine Yfl ?_)
  exact ⟨rfl,hS⟩
 by_cases h2 : 24 < s.length
 ·rw [Zhk (.inr (.inl h2))]
  refine Zab Tryz.func71 rfl Tryz.ntmps71 rfl ?_
  repeat (first|refine Yfb ?_|(refine X_id ?_;first|refine Yaf ?_|refine Yag ?_|refine Ya9 ?_|refine Ya7 ?_|refine Ycr ?_|refine Yaz ?_|refine Ybx ?_)|refine Yae ?_|refine Ycg ?_|refine Yad ?_|refine Yah ?_|refine Yaj ?_|refine Yfl ?_)
  exact ⟨rfl,hS⟩
 by_cases h3 : s = [46]
 ·rw [Zhk (.inr (.inr (.inl h3)))]
  refine Zab Tryz.func71 rfl Tryz.ntmps71 rfl ?_
  repeat (first|refine Yfb ?_|(refine X_id ?_;first|refine Yaf ?_|refine Yag ?_|refine Ya9 ?_|refine Ya7 ?_|refine Ycr ?_|refine Yaz ?_|refine Ybr ?_|refine Ycy ?_)|refine Yae ?_|refine Ycg ?_|refine Yad ?_|refine Yah ?_|refine Yaj ?_|refine Yfl ?_)
  exact ⟨rfl,hS⟩
 by_cases h4 : s = [46,46]
 ·rw [Zhk (.inr (.inr (.inr h4)))]
  refine Zab Tryz.func71 rfl Tryz.ntmps71 rfl ?_
  repeat (first|refine Yes ?_|(refine X_id ?_;first|refine Yaf ?_|refine Yag ?_|refine Ya7 ?_|refine Ycr ?_|refine Yaz ?_|refine Ybr ?_|refine Ycy ?_|refine Ycq ?_)|refine Yae ?_|refine Ycg ?_|refine Yad ?_|refine Yah ?_|refine Yaj ?_|refine Yfl ?_)
  exact ⟨rfl,hS⟩
 refine Zab Tryz.func71 rfl Tryz.ntmps71 rfl ?_
 repeat (first|refine Yes ?_|(refine X_id ?_;first|refine Yaf ?_|refine Yag ?_|refine Ya7 ?_|refine Ycr ?_|refine Yaz ?_|refine Ybr ?_|refine Ycq ?_)|refine Yae ?_|refine Ziu ?_|refine Ycg ?_|refine Yad ?_|refine Yak ?_|refine Yal ?_|refine Yai ?_|refine Yab ?_)
 refine Zbq (α := Unit) (fun _ => []) (fun _ w => (∀ c ∈ s,okC c) ∧ St W noF [] w) ?_ ?_
 ·refine Zaj (α := Nat) (fun i => [(0,.string (str s)),(21,.int .i64 (s.length : Nat)),(22,.int .i64 (i : Nat))]) (fun i w => i ≤ s.length ∧ (∀ c ∈ s.take i,okC c) ∧ St W noF [] w) (fun i => s.length - i) 0 ⟨rfl,rfl,rfl,trivial⟩ ⟨Nat.zero_le _,fun c hc => by simp at hc,hS⟩ ?_
  clear hS;rintro i w ⟨hi,hok,hS⟩
  by_cases hlt : i < s.length
  ·obtain ⟨x,hx0⟩ : ∃ x,s[i]? = some x := ⟨_,List.getElem?_eq_getElem hlt⟩
   have hx : s[((i : Nat) : Int).toNat]? = some x := hx0
   have hq := Z70 x
   by_cases hc : okC x
   ·rw [decide_eq_true hc] at hq
    repeat (first|refine Yeb ?_|(refine X_id ?_;first|(refine Zac 135 rfl rfl rfl rfl rfl hS (hq _) ?_;rintro _ _ rfl hS)|refine Yaf ?_|refine Yag ?_|refine Ya1 ?_|refine Yaw ?_|refine Yc4 ?_)|refine Yae ?_|refine Yad ?_|refine Yak ?_|refine Yal ?_|refine Ya3 ?_|refine Yaj ?_|refine Yeh ?_)
    refine Zae (z := i) (i + 1) ⟨rfl,rfl,rfl,trivial⟩ ⟨hlt,fun c hc' => ?_,hS⟩ (by omega)
    rw [List.take_add_one,hx0] at hc';rcases List.mem_append.1 hc' with h | h
    ·exact hok c h
    ·obtain rfl : c = x := by simpa using h
     exact hc
   ·rw [decide_eq_false hc] at hq
    repeat (first|refine Yeb ?_|(refine X_id ?_;first|(refine Zac 135 rfl rfl rfl rfl rfl hS (hq _) ?_;rintro _ _ rfl hS)|refine Yaf ?_|refine Yag ?_|refine Ya1 ?_|refine Yc4 ?_)|refine Yfg ?_|refine Yab ?_|refine Yap ?_|refine Yb4 ?_|refine Ya8 ?_|refine Yam ?_)
    refine ⟨?_,hS⟩
    rw [decide_eq_false (fun q : nameOk s => hc (q.2.2.2.2 x (List.mem_of_getElem? hx0)))]
  ·repeat (first|refine Yeb ?_|refine Yaz ?_|refine Yeo ?_|refine Yeh ?_)
   refine Zbw () trivial ⟨?_,hS⟩
   rwa [List.take_of_length_le (by omega)] at hok
 ·clear hS
  rintro _ w ⟨hok,hS⟩
  repeat (first|refine Yeb ?_|refine Yag ?_|refine Yep ?_|refine Yab ?_|refine Yb4 ?_|refine Yam ?_)
  refine ⟨?_,hS⟩
  rw [decide_eq_true (show nameOk s from ⟨by omega,by omega,h3,h4,hok⟩)]
def ixN (s : List UInt8) : List Nm → Int
 | [] => -1
 | x :: l => if x.1 = s then 0 else if ixN s l < 0 then -1 else ixN s l + 1
theorem Z1f {s : List UInt8} : ∀ {l : List Nm} {k : Nat} {x : Nm},l[k]? = some x → x.1 = s → (∀ j,j < k → ∀ y,l[j]? = some y → y.1 ≠ s) → ixN s l = k
 | y :: l,0,x,h,hx,_ => by
  obtain rfl : y = x := by simpa using h
  simp [ixN,hx]
 | y :: l,k + 1,x,h,hx,hb => by
  have h0 := hb 0 (by omega) y rfl
  have ih := Z1f (l := l) (k := k) (by simpa using h) hx fun j hj z hz => hb (j + 1) (by omega) z (by simpa using hz)
  rw [ixN,if_neg h0,ih,if_neg (by omega)]; omega
theorem Zsj {s : List UInt8} : ∀ {l : List Nm},(∀ x ∈ l,x.1 ≠ s) → ixN s l = -1
 | [],_ => rfl
 | y :: l,h => by
  rw [ixN,if_neg (h y (List.mem_cons_self ..)),Zsj fun x hx => h x (List.mem_cons_of_mem _ hx)]; rfl
def strV (p : List (List UInt8)) : List Value := p.map fun s => .string (str s)
theorem Zg8 (p : List (List UInt8)) : (strV p).length = p.length := by simp [strV]
theorem Zqb {p : List (List UInt8)} {i : Nat} {s : List UInt8} (h : p[i]? = some s) : (strV p)[i]? = some (.string (str s)) := by simp [strV,h]
def Za4 (p : List (List UInt8)) : Prop := p.length ≤ 8 ∧ ∀ s ∈ p,nameOk s
instance (p : List (List UInt8)) : Decidable (Za4 p) := by unfold Za4; infer_instance

theorem Z1i (x : Nm) (b : Nat) (s : List UInt8) (T : TypeId) (fz : Nat × Nat) (W : World) (hb : Rd W (pts b (.cells (List.toArray [.string (str s)]) T fz))) :
  Calls Tryz.prog 90 #[.agg (List.toArray [.string (str x.1),.int .i64 x.2]),.pointer (some ⟨b,0,none⟩)] W (Ret fun v w => v = .bool (decide (x.1 = s)) ∧ St W noF [] w) := by
 have hc := hb.ro
 have hS := St.start W
 by_cases h : x.1 = s
 ·refine Zab Tryz.func90 rfl Tryz.ntmps90 rfl ?_
  repeat (first|refine Yeb ?_|(refine X_id ?_;first|refine Yag ?_|refine Yan ?_|refine Yaq ?_|refine Yba (fun _ _ hS _ => ?_)|refine Ycy ?_|refine Ycv ?_)|refine Yep ?_|refine Yed ?_)
  refine ⟨?_,hS.drops⟩
  simp [h]
 ·have h' : str x.1 ≠ str s := fun e => h (Z19 e)
  refine Zab Tryz.func90 rfl Tryz.ntmps90 rfl ?_
  repeat (first|refine Yeb ?_|(refine X_id ?_;first|refine Yag ?_|refine Yan ?_|refine Yaq ?_|refine Yba (fun _ _ hS _ => ?_)|refine Ycq ?_|refine Ycv ?_)|refine Yep ?_|refine Yed ?_)
  refine ⟨?_,hS.drops⟩
  simp [h,h']
theorem Z0a (a : Option Addr) (l : List Nm) (c b : Nat) (s : List UInt8) (T : TypeId) (fz : Nat × Nat) (W : World) (hr0 : Rd W (row a (nmV l))) (hb : Rd W (pts b (.cells (List.toArray [.string (str s)]) T fz))) (hl : l.length ≤ 1048576) :
  Calls Tryz.prog 89 #[.slice a l.length c,.func (.func 90) #[] #[.pointer (some ⟨b,0,none⟩)]] W (Ret fun v w => v = .int .i64 (ixN s l) ∧ St W noF [] w) := by
 have hbo := hb.ro
 have hr1 := hr0.ro
 have hS := St.start W
 refine Zab Tryz.func89 rfl Tryz.ntmps89 rfl ?_
 repeat (first|refine Yeb ?_|refine Ye4 ?_|refine Yee ?_|refine Yab ?_)
 refine Zaj (α := Nat) (fun k => [(0,.slice a l.length c),(1,.func (.func 90) #[] #[.pointer (some ⟨b,0,none⟩)]),(7,.int .i64 (l.length : Nat)),(8,.int .i64 (k : Nat))])
  (fun k w => k ≤ l.length ∧ (∀ j,j < k → ∀ y,l[j]? = some y → y.1 ≠ s) ∧ St W noF [] w) (fun k => l.length - k) 0 ⟨rfl,rfl,rfl,rfl,trivial⟩ ⟨Nat.zero_le _,fun j hj => absurd hj (by omega),hS⟩ ?_
 clear hS;rintro k w ⟨hk,hne,hS2⟩
 by_cases hlt : k < l.length
 ·have hx0 : l[k]? = some l[k] := List.getElem?_eq_getElem (by omega)
  generalize l[k] = x at hx0;have hr := hr1
  have hxs : ((nmV l).drop (k * 2)).take 2 = [.string (str x.1),.int .i64 x.2] := Zke hx0
  obtain ⟨xb,xo,rfl⟩ := (hr.rd hS2).base (by intro e; rw [e] at hxs; simp at hxs)
  have hS := hS2
  by_cases hq : x.1 = s
  ·have hc1 := fun w h => Z1i x b s T fz w h
   rw [decide_eq_true hq] at hc1;repeat (first|refine Yeb ?_|(refine X_id ?_;first|refine Yaf ?_|refine Yag ?_|refine Ya1 ?_|refine Ybd ?_|refine Ybq ?_)|refine Yef ?_|refine Yab ?_)
   refine Zdk (first := []) (captured := [.pointer (some ⟨b,0,none⟩)]) rfl rfl rfl rfl rfl (hc1 _ (hbo.rd hS)) ?_
   rintro _ w' ⟨rfl,hS'⟩
   replace hS := hS.plus hS';clear hS';repeat (first|refine Yeb ?_|refine Yeq ?_|refine Yet ?_|refine Yex ?_)
   exact ⟨by rw [Z1f hx0 hq hne],hS⟩
  ·have hc1 := fun w h => Z1i x b s T fz w h
   rw [decide_eq_false hq] at hc1;repeat (first|refine Yeb ?_|(refine X_id ?_;first|refine Yaf ?_|refine Yag ?_|refine Ya1 ?_|refine Ybd ?_|refine Ybq ?_)|refine Yef ?_|refine Yab ?_)
   refine Zdk (first := []) (captured := [.pointer (some ⟨b,0,none⟩)]) rfl rfl rfl rfl rfl (hc1 _ (hbo.rd hS)) ?_
   rintro _ w' ⟨rfl,hS'⟩
   replace hS := hS.plus hS';clear hS';repeat (first|refine Yeb ?_|refine Yeg ?_|refine Ye3 ?_|refine Yej ?_)
   refine Zae (k + 1) ⟨rfl,rfl,rfl,rfl,trivial⟩ ⟨by omega,fun j hj y hy => ?_,hS⟩ (by omega)
   by_cases hjk : j = k
   ·subst hjk; rw [hx0] at hy; cases hy; exact hq
   ·exact hne j (by omega) y hy
 ·obtain rfl : k = l.length := by omega
  have hS := hS2
  repeat (first|refine Yeb ?_|refine Yag ?_|refine Yaz ?_|refine Yek ?_|refine Yfd ?_)
  rw [Zsj fun x hx => (by
   obtain ⟨j,hj,he⟩ := List.mem_iff_getElem.1 hx
   exact hne j hj x (by rw [List.getElem?_eq_getElem hj,he]))]
  exact ⟨rfl,hS⟩
theorem Z6y (a : Option Addr) (l : List Nm) (c : Nat) (s : List UInt8) (W : World) (hr : Rd W (row a (nmV l))) (hl : l.length ≤ 1048576) :
  Calls Tryz.prog 48 #[.slice a l.length c,.string (str s)] W (Ret fun v w => v = .int .i64 (ixN s l) ∧ St W noF [] w) := by
 have hro := hr.ro
 have hS := St.start W
 refine Zab Tryz.func48 rfl Tryz.ntmps48 rfl ?_
 repeat (first|refine Yeb ?_|refine Yaf ?_|refine Yag ?_|refine Yct ?_|refine Yba (fun _ _ hS _ => ?_)|refine Yec ?_|refine Yab ?_)
 refine Zaa _ rfl rfl rfl rfl rfl (Z0a a l c _ s _ _ _ (hro.rd hS) (hS.rd (List.mem_cons_self ..)) hl) ?_
 rintro _ w' ⟨rfl,hS'⟩
 replace hS := hS.plus hS';clear hS';repeat (first|refine Yeb ?_|refine Yag ?_|refine Yah ?_|refine Yed ?_)
 exact ⟨rfl,hS.drops⟩
theorem Zvy (s : List UInt8) (W : World) : Calls Tryz.prog 138 #[.string (str s)] W (Ret fun v w => v = .bool (!decide (nameOk s)) ∧ St W noF [] w) := by
 have hS := St.start W
 have hn := fun W => Z6g s W
 refine Zab Tryz.func138 rfl Tryz.ntmps138 rfl ?_
 repeat (first|refine Yeb ?_|(refine X_id ?_;first|(refine Zac 71 rfl rfl rfl rfl rfl hS (hn _) ?_;rintro _ _ rfl hS)|refine Yaf ?_|refine Yag ?_|refine X_yl (Z7h rfl rfl) rfl rfl ?_)|refine Yep ?_|refine Yed ?_)
 exact ⟨by simp,hS⟩
theorem Zz9 (a : Option Addr) (p : List (List UInt8)) (c : Nat) (W : World) (hr0 : Rd W (row a (strV p))) (hl : p.length ≤ 1048576) :
  Calls Tryz.prog 178 #[.slice a p.length c,.func (.func 138) #[] #[]] W (Ret fun v w => (∃ z : Int,v = .int .i64 z ∧ (z < 0 ↔ ∀ s ∈ p,nameOk s)) ∧ St W noF [] w) := by
 have hr1 := hr0.ro
 have hS := St.start W
 refine Zab Tryz.func178 rfl Tryz.ntmps178 rfl ?_
 repeat (first|refine Yeb ?_|refine Ye4 ?_|refine Yee ?_|refine Yab ?_)
 refine Zaj (α := Nat) (fun k => [(0,.slice a p.length c),(1,.func (.func 138) #[] #[]),(7,.int .i64 (p.length : Nat)),(8,.int .i64 (k : Nat))])
  (fun k w => k ≤ p.length ∧ (∀ j,j < k → ∀ y,p[j]? = some y → nameOk y) ∧ St W noF [] w) (fun k => p.length - k) 0 ⟨rfl,rfl,rfl,rfl,trivial⟩ ⟨Nat.zero_le _,fun j hj => absurd hj (by omega),hS⟩ ?_
 clear hS;rintro k w ⟨hk,hne,hS2⟩
 by_cases hlt : k < p.length
 ·have hx0 : p[k]? = some p[k] := List.getElem?_eq_getElem (by omega)
  generalize p[k] = x at hx0;have hr := hr1
  have hx := Zqb hx0
  obtain ⟨xb,xo,rfl⟩ := (hr.rd hS2).base (by intro e; rw [e] at hx; simp at hx)
  have hS := hS2
  by_cases hq : nameOk x
  ·have hc1 := fun w => Zvy x w
   rw [decide_eq_true hq] at hc1;repeat (first|refine Yeb ?_|(refine X_id ?_;first|refine Yaf ?_|refine Yag ?_|refine Ya1 ?_|refine Ybd ?_|refine Yb7 ?_)|refine Yef ?_|refine Yab ?_)
   refine Zdk (first := []) (captured := []) rfl rfl rfl rfl rfl (hc1 _) ?_
   rintro _ w' ⟨rfl,hS'⟩
   replace hS := hS.plus hS';clear hS';repeat (first|refine Yeb ?_|refine Yeg ?_|refine Ye3 ?_|refine Yej ?_)
   refine Zae (k + 1) ⟨rfl,rfl,rfl,rfl,trivial⟩ ⟨by omega,fun j hj y hy => ?_,hS⟩ (by omega)
   by_cases hjk : j = k
   ·subst hjk; rw [hx0] at hy; cases hy; exact hq
   ·exact hne j (by omega) y hy
  ·have hc1 := fun w => Zvy x w
   rw [decide_eq_false hq] at hc1;repeat (first|refine Yeb ?_|(refine X_id ?_;first|refine Yaf ?_|refine Yag ?_|refine Ya1 ?_|refine Ybd ?_|refine Yb7 ?_)|refine Yef ?_|refine Yab ?_)
   refine Zdk (first := []) (captured := []) rfl rfl rfl rfl rfl (hc1 _) ?_
   rintro _ w' ⟨rfl,hS'⟩
   replace hS := hS.plus hS';clear hS';repeat (first|refine Yeb ?_|refine Yeq ?_|refine Yet ?_|refine Yex ?_)
   exact ⟨⟨(k : Nat),rfl,⟨fun h => absurd h (by omega),fun h => absurd (h x (List.mem_of_getElem? hx0)) hq⟩⟩,hS⟩
 ·obtain rfl : k = p.length := by omega
  have hS := hS2
  repeat (first|refine Yeb ?_|refine Yag ?_|refine Yaz ?_|refine Yek ?_|refine Yfd ?_)
  refine ⟨⟨-1,rfl,⟨fun _ s hs => ?_,fun _ => by omega⟩⟩,hS⟩
  obtain ⟨j,hj,he⟩ := List.mem_iff_getElem.1 hs
  exact hne j hj s (by rw [List.getElem?_eq_getElem hj,he])
theorem Zv5 (a : Option Addr) (p : List (List UInt8)) (c : Nat) (W : World) (hr : Rd W (row a (strV p))) (hl : p.length ≤ 1048576) :
  Calls Tryz.prog 75 #[.slice a p.length c] W (Ret fun v w => v = .bool (decide (Za4 p)) ∧ St W noF [] w) := by
 have hro := hr.ro
 have hS := St.start W
 by_cases h8 : p.length ≤ 8
 ·have hcf : ∀ W,Rd W (row a (strV p)) → Calls Tryz.prog 137 #[.slice a p.length c,.func (.func 138) #[] #[]] W (Ret fun v w => v = .bool (!decide (Za4 p)) ∧ St W noF [] w) := by
   intro W hr
   have hS := St.start W
   refine Zab Tryz.func137 rfl Tryz.ntmps137 rfl ?_
   repeat (first|refine Yeb ?_|refine Yeq ?_|refine Yec ?_|refine Yab ?_)
   refine Zaa _ rfl rfl rfl rfl rfl (Zz9 a p c _ hr hl) ?_
   rintro _ w ⟨⟨z,rfl,hz⟩,hS'⟩
   replace hS := hS.plus hS';clear hS';by_cases h : z < 0
   ·repeat (first|refine Yeb ?_|refine Yag ?_|refine Yb6 ?_|refine Yah ?_|refine Yed ?_)
    have : Za4 p := ⟨h8,hz.1 h⟩
    exact ⟨by simp [this],hS⟩
   ·repeat (first|refine Yeb ?_|refine Yag ?_|refine Yb2 ?_|refine Yah ?_|refine Yed ?_)
    have : ¬ Za4 p := fun q => h (hz.2 q.2)
    exact ⟨by simp [this],hS⟩
  refine Zab Tryz.func75 rfl Tryz.ntmps75 rfl ?_
  repeat (first|refine Yes ?_|(refine X_id ?_;first|(refine Zac 137 rfl rfl rfl rfl rfl hS (hcf _ (hro.rd hS)) ?_;rintro _ _ rfl hS)|refine Yaf ?_|refine Yag ?_|refine Ya9 ?_|refine X_yl (Znr rfl rfl) rfl rfl ?_|refine Yat ?_|refine Ydc ?_)|refine Yep ?_|refine Yed ?_)
  refine ⟨by simp,hS⟩
 ·have : ¬ Za4 p := fun q => h8 q.1
  refine Zab Tryz.func75 rfl Tryz.ntmps75 rfl ?_
  repeat (first|refine Yev ?_|(refine X_id ?_;first|refine Yaf ?_|refine Yag ?_|refine Ya7 ?_|refine Yat ?_|refine Ydt ?_)|refine Yep ?_|refine Yed ?_)
  exact ⟨by simp [this],hS⟩
end Cr
namespace Cr
open Go
set_option maxHeartbeats 64000000

inductive Tn where
 | mk (nm : List UInt8) (no : Int) (st : StatM) (data : List UInt8) (kids : List Tn)
def Tn.nm : Tn → List UInt8 | .mk nm _ _ _ _ => nm
def Tn.no : Tn → Int | .mk _ no _ _ _ => no
def Tn.st : Tn → StatM | .mk _ _ st _ _ => st
def Tn.data : Tn → List UInt8 | .mk _ _ _ data _ => data
def Tn.kids : Tn → List Tn | .mk _ _ _ _ kids => kids
def Tn.names (t : Tn) : List Nm := t.kids.map fun k => (k.nm,k.no)
def Tn.nd (t : Tn) : Nd := ⟨t.st,if t.st.kind = 1 then wrD t.names else t.data⟩
mutual
def subT : Tn → List Tn
 | .mk nm no st data kids => .mk nm no st data kids :: subL kids
def subL : List Tn → List Tn
 | [] => []
 | k :: l => subT k ++ subL l
end
mutual
def hgtT : Tn → Nat
 | .mk _ _ _ _ kids => hgtL kids
def hgtL : List Tn → Nat
 | [] => 0
 | k :: l => max (1 + hgtT k) (hgtL l)
end
def ent (u : Tn) : Int × Nd := (u.no,u.nd)
def Zda (t : Tn) : List (Int × Nd) := (subT t).map ent
def Zd4 (l : List Tn) : List (Int × Nd) := (subL l).map ent
def Nt (t : Tn) (no : Int) : Option Nd := getA no (Zda t)
def ltS (a b : List UInt8) : Prop := Lib.compareBytes a b < 0
instance (a b : List UInt8) : Decidable (ltS a b) := by unfold ltS; infer_instance
theorem Zxp : ∀ a : List UInt8,Lib.compareBytes a a = 0
 | [] => rfl
 | x :: a => by rw [Lib.compareBytes,if_neg (UInt8.lt_irrefl x),if_neg (UInt8.lt_irrefl x),Zxp a]
theorem Z69 : ∀ {a b : List UInt8},Lib.compareBytes a b = 0 → a = b
 | [],[],_ => rfl
 | [],_ :: _,h => by rw [Lib.compareBytes] at h; cases h
 | _ :: _,[],h => by rw [Lib.compareBytes] at h; cases h
 | x :: a,y :: b,h => by
  rw [Lib.compareBytes] at h
  split at h
  ·cases h
  ·rename_i h1
   split at h
   ·cases h
   ·rename_i h2
    rw [Z69 h,UInt8.le_antisymm (UInt8.not_lt.1 h2) (UInt8.not_lt.1 h1)]
theorem Zs3 : ∀ {a b c : List UInt8},Lib.compareBytes a b < 0 → Lib.compareBytes b c < 0 → Lib.compareBytes a c < 0
 | [],[],c,h,_ => by rw [Lib.compareBytes] at h; cases h
 | [],_ :: _,[],_,h => by rw [Lib.compareBytes] at h; cases h
 | [],_ :: _,_ :: _,_,_ => by rw [Lib.compareBytes]; decide
 | _ :: _,[],c,h,_ => by rw [Lib.compareBytes] at h; cases h
 | _ :: _,_ :: _,[],_,h => by rw [Lib.compareBytes] at h; cases h
 | x :: a,y :: b,z :: c,h1,h2 => by
  rw [Lib.compareBytes] at h1 h2 ⊢;by_cases hxy : x < y
  ·by_cases hyz : y < z
   ·rw [if_pos (UInt8.lt_trans hxy hyz)]; decide
   ·rw [if_neg hyz] at h2
    by_cases hzy : z < y
    ·rw [if_pos hzy] at h2; cases h2
    ·have : y = z := UInt8.le_antisymm (UInt8.not_lt.1 hzy) (UInt8.not_lt.1 hyz)
     subst this
     rw [if_pos hxy]; decide
  ·rw [if_neg hxy] at h1
   by_cases hyx : y < x
   ·rw [if_pos hyx] at h1; cases h1
   ·rw [if_neg hyx] at h1
    have : x = y := UInt8.le_antisymm (UInt8.not_lt.1 hyx) (UInt8.not_lt.1 hxy)
    subst this
    by_cases hyz : x < z
    ·rw [if_pos hyz]; decide
    ·rw [if_neg hyz] at h2 ⊢
     by_cases hzy : z < x
     ·rw [if_pos hzy] at h2; cases h2
     ·rw [if_neg hzy] at h2 ⊢
      exact Zs3 h1 h2
theorem Z6j {a b : List UInt8} (h : ltS a b) : a ≠ b := fun e => by subst e; unfold ltS at h; rw [Zxp] at h; cases h
theorem Zot {a b c : List UInt8} (h : ltS a b) (h2 : ltS b c) : ltS a c := Zs3 h h2
theorem Zzx {a b : List UInt8} (h : ¬ ltS a b) (hne : a ≠ b) : ltS b a := by
 unfold ltS at *
 have key : ∀ a b : List UInt8,0 < Lib.compareBytes a b → Lib.compareBytes b a < 0 := by
  intro a
  induction a with
  | nil => intro b h; cases b <;> (rw [Lib.compareBytes] at h; cases h)
  | cons x a ih =>
   intro b h
   cases b with
   | nil => rw [Lib.compareBytes]; decide
   | cons y b =>
    rw [Lib.compareBytes] at h ⊢;by_cases hxy : x < y
    ·rw [if_pos hxy] at h; cases h
    ·rw [if_neg hxy] at h
     by_cases hyx : y < x
     ·rw [if_pos hyx]; decide
     ·rw [if_neg hyx] at h ⊢
      rw [if_neg hxy];exact ih b h
 have h0 : Lib.compareBytes a b ≠ 0 := fun e => hne (Z69 e)
 exact key a b (by omega)
structure TnOk (n : Nat) (u : Tn) : Prop where
 chk : u.st.check = 0
 low : 0 ≤ u.no ∧ u.no < n
 dir : u.st.kind = 1 → u.data = [] ∧ (wrD u.names).length ≤ 512
 rise : u.kids.Pairwise fun a b => ltS a.nm b.nm
 nmk : ∀ k ∈ u.kids,nameOk k.nm
 leaf : u.st.kind ≠ 1 → u.kids = [] ∧ u.data.length ≤ 512
structure TreeOk (n : Nat) (t : Tn) : Prop where
 node : ∀ u ∈ subT t,TnOk n u
 nodup : ((Zda t).map (·.1)).Nodup
 root : t.no = 0 ∧ t.st.kind = 1
 high : hgtT t ≤ 8
 small : n ≤ 1000000
theorem Zgm (t : Tn) : subT t = t :: subL t.kids := by cases t; rw [subT]; rfl
theorem Ze1 (t : Tn) : t ∈ subT t := by rw [Zgm]; exact List.mem_cons_self ..
theorem mem_subL : ∀ {l : List Tn} {u : Tn},u ∈ subL l ↔ ∃ k ∈ l,u ∈ subT k
 | [],u => by simp [subL]
 | k :: l,u => by
  rw [subL,List.mem_append,mem_subL];simp
theorem Zm1 {t k : Tn} (h : k ∈ t.kids) : k ∈ subT t := by
 rw [Zgm]; exact List.mem_cons_of_mem _ (mem_subL.2 ⟨k,h,Ze1 k⟩)
theorem Zgl {t k u : Tn} (h : k ∈ t.kids) (hu : u ∈ subT k) : u ∈ subT t := by
 rw [Zgm]; exact List.mem_cons_of_mem _ (mem_subL.2 ⟨k,h,hu⟩)
mutual
theorem Zel : ∀ {t u v : Tn},u ∈ subT t → v ∈ subT u → v ∈ subT t
 | .mk nm no st data kids,u,v,hu,hv => by
  rw [subT] at hu ⊢;rcases List.mem_cons.1 hu with rfl | hu
  ·rw [subT] at hv; exact hv
  ·exact List.mem_cons_of_mem _ (Zll hu hv)
theorem Zll : ∀ {l : List Tn} {u v : Tn},u ∈ subL l → v ∈ subT u → v ∈ subL l
 | [],u,v,hu,_ => by rw [subL] at hu; cases hu
 | k :: l,u,v,hu,hv => by
  rw [subL] at hu ⊢;rcases List.mem_append.1 hu with hu | hu
  ·exact List.mem_append_left _ (Zel hu hv)
  ·exact List.mem_append_right _ (Zll hu hv)
end
theorem Zm8 : ∀ {l : List Tn} {k : Tn},k ∈ l → 1 + hgtT k ≤ hgtL l
 | x :: l,k,h => by
  rw [hgtL];rcases List.mem_cons.1 h with rfl | h
  ·exact Nat.le_max_left _ _
  ·exact Nat.le_trans (Zm8 h) (Nat.le_max_right _ _)
theorem Zin (t : Tn) : hgtT t = hgtL t.kids := by cases t; rw [hgtT]; rfl
def kidT (s : List UInt8) (l : List Tn) : Option Tn := l.find? fun k => decide (k.nm = s)
def Zcc (u : Tn) (s : List UInt8) : Except Int Tn :=
 if u.st.kind = 1 then match kidT s u.kids with
  | some k => .ok k
  | none => .error 7
 else .error 17
def goT : Tn → List (List UInt8) → Except Int Tn
 | t,[] => .ok t
 | t,s :: p => match Zcc t s with
  | .ok k => goT k p
  | .error e => .error e
theorem Zm3 {s : List UInt8} {l : List Tn} {k : Tn} (h : kidT s l = some k) : k ∈ l ∧ k.nm = s :=
 ⟨List.mem_of_find?_eq_some h,by simpa using List.find?_some h⟩
theorem Znb {u k : Tn} {s : List UInt8} (h : Zcc u s = .ok k) : u.st.kind = 1 ∧ k ∈ u.kids ∧ k.nm = s := by
 unfold Zcc at h
 split at h
 ·rename_i hk
  split at h
  ·rename_i x hx
   injection h with h
   subst h
   exact ⟨hk,Zm3 hx⟩
  ·cases h
 ·cases h
theorem Zo2 {u : Tn} {s : List UInt8} {e : Int} (h : Zcc u s = .error e) : e = 7 ∨ e = 17 := by
 unfold Zcc at h
 split at h
 ·split at h
  ·cases h
  ·injection h with h; exact .inl h.symm
 ·injection h with h; exact .inr h.symm
theorem Zcs : ∀ {p : List (List UInt8)} {t u : Tn},goT t p = .ok u → u ∈ subT t
 | [],t,u,h => by
  rw [goT] at h; injection h with h; subst h; exact Ze1 t
 | s :: p,t,u,h => by
  rw [goT] at h;cases hs : Zcc t s with
  | error e => rw [hs] at h; cases h
  | ok k => rw [hs] at h; exact Zgl (Znb hs).2.1 (Zcs h)
theorem Zwx : ∀ {p : List (List UInt8)} {t : Tn} {e : Int},goT t p = .error e → e = 7 ∨ e = 17
 | [],t,e,h => by rw [goT] at h; cases h
 | s :: p,t,e,h => by
  rw [goT] at h;cases hs : Zcc t s with
  | error e' => rw [hs] at h; injection h with h; subst h; exact Zo2 hs
  | ok k => rw [hs] at h; exact Zwx h
theorem Zf6 : ∀ (p : List (List UInt8)) (t : Tn) (s : List UInt8),goT t (p ++ [s]) = match goT t p with | .ok u => Zcc u s | .error e => .error e
 | [],t,s => by
  show goT t [s] = Zcc t s
  rw [goT];cases Zcc t s <;> simp [goT]
 | x :: p,t,s => by
  rw [List.cons_append,goT,goT];cases Zcc t x with
  | error e => rfl
  | ok k => exact Zf6 p k s
theorem Zqu : ∀ (p q : List (List UInt8)) (t : Tn),goT t (p ++ q) = match goT t p with | .ok u => goT u q | .error e => .error e
 | [],q,t => by rw [List.nil_append,goT]
 | x :: p,q,t => by
  rw [List.cons_append,goT,goT];cases Zcc t x with
  | error e => rfl
  | ok k => exact Zqu p q k

section
variable {n : Nat} {t : Tn}
theorem TreeOk.at_ (h : TreeOk n t) {u : Tn} (hu : u ∈ subT t) : Nt t u.no = some u.nd :=
 Zd1 h.nodup (List.mem_map.2 ⟨u,hu,rfl⟩)
theorem TreeOk.names (h : TreeOk n t) {u : Tn} (hu : u ∈ subT t) : NmOk u.names ∨ 512 < (wrD u.names).length := by
 by_cases hl : u.names.length ≤ 1024
 ·refine .inl ⟨hl,fun x hx => ?_⟩
  obtain ⟨k,hk,rfl⟩ := List.mem_map.1 hx
  have h1 := (h.node u hu).nmk k hk
  have hks : k ∈ subT t := by
   clear hx h1 hl;exact Zel hu (Zm1 hk)
  have h2 := (h.node k hks).low
  have h3 := h.small
  have := h1.2.1
  exact ⟨show k.nm.length ≤ 64 by omega,h2.1,show k.no ≤ 1000000 by omega⟩
 ·refine .inr ?_
  have hge := Zjk (m := 7) (l := u.names.map Zeh) fun x hx => by
   obtain ⟨y,_,rfl⟩ := List.mem_map.1 hx
   exact Zkw y 6
  rw [wrD,dirM,Zbz];simp only [List.length_map,List.length_cons,List.length_append,List.length_nil] at hge ⊢
  omega
theorem TreeOk.rd (h : TreeOk n t) {u : Tn} (hu : u ∈ subT t) (hk : u.st.kind = 1) : NmOk u.names ∧ rdD u.nd.data = u.names := by
 have hok : NmOk u.names := (h.names hu).resolve_right (by have := ((h.node u hu).dir hk).2; omega)
 refine ⟨hok,?_⟩
 show rdD (if u.st.kind = 1 then wrD u.names else u.data) = _
 rw [if_pos hk];exact Zv0 hok.2
theorem TreeOk.len (h : TreeOk n t) {u : Tn} (hu : u ∈ subT t) : u.nd.data.length ≤ 512 := by
 show (if u.st.kind = 1 then wrD u.names else u.data).length ≤ 512
 by_cases hk : u.st.kind = 1
 ·rw [if_pos hk]; exact ((h.node u hu).dir hk).2
 ·rw [if_neg hk]; exact ((h.node u hu).leaf hk).2
def Zws (N : Int → Option Nd) (nd : Nd) (s : List UInt8) : Except Int (Int × Nd) :=
 if nd.st.kind = 1 then match (rdD nd.data).find? (fun x => decide (x.1 = s)) with
  | some x => match N x.2 with
   | some y => .ok (x.2,y)
   | none => .error 0
  | none => .error 7
 else .error 17
theorem Zlv (u : Tn) (s : List UInt8) : (u.names.find? fun x => decide (x.1 = s)) = (kidT s u.kids).map fun k => (k.nm,k.no) := by
 unfold Tn.names kidT
 rw [List.find?_map]; rfl
theorem TreeOk.into (h : TreeOk n t) {u : Tn} (hu : u ∈ subT t) (s : List UInt8) : Zws (Nt t) u.nd s = match Zcc u s with
  | .ok k => .ok (k.no,k.nd)
  | .error e => .error e := by
 unfold Zws Zcc
 rw [show u.nd.st = u.st from rfl];by_cases hk : u.st.kind = 1
 ·rw [if_pos hk,if_pos hk,(h.rd hu hk).2,Zlv]
  cases hq : kidT s u.kids with
  | none => rfl
  | some k =>
   have := h.at_ (Zel hu (Zm1 (Zm3 hq).1))
   simp only [Option.map_some,this]
 ·rw [if_neg hk,if_neg hk]
end
end Cr
namespace Cr
open Go Go.Proofs
set_option maxRecDepth 100000
set_option maxHeartbeats 64000000
attribute [local irreducible] Calls

abbrev plV (no : Int) (nd : Nd) (a : Option Addr) (q : Nat) : List Value := [.int .i64 no,.int .i64 nd.st.kind,.int .i64 nd.st.mode,.int .i64 nd.st.owner,.int .i64 nd.st.group,.slice a nd.data.length q]
abbrev pl0 : List Value := [.int .i64 0,.int .i64 0,.int .i64 0,.int .i64 0,.int .i64 0,.slice none 0 0]
theorem Zwg (no : Int) (nd : Nd) (a : Option Addr) (q : Nat) (W : World) (hb : Rd W (bytes a nd.data)) (hq : nd.data.length ≤ q) (hl : nd.data.length ≤ 512) (hG : Lg W noF) :
  Calls Tryz.prog 36 #[.agg (List.toArray [.int .i64 no,.int .i64 nd.st.kind,.int .i64 nd.st.mode,.int .i64 nd.st.owner,.int .i64 nd.st.group,.slice a nd.data.length q])] W (Ret fun v w =>
   (nd.st.kind = 1 ∧ ∃ b c,v = .tuple #[.slice b (rdD nd.data).length c,.int .i64 0] ∧ St W noF [own 93 2 b c (nmV (rdD nd.data))] w) ∨ (nd.st.kind ≠ 1 ∧ v = .tuple #[.slice none 0 0,.int .i64 17] ∧ St W noF [] w)) := by
 have hS := St.start W
 have hbo := hb.ro
 by_cases hk : nd.st.kind = 1
 ·refine Zab Tryz.func36 rfl Tryz.ntmps36 rfl ?_
  repeat (first|refine Yeb ?_|(refine X_id ?_;first|refine Yag ?_|refine Yan ?_|refine Yby ?_|refine Ybc ?_|refine Yaq ?_|refine Yba (fun _ _ hS _ => ?_))|refine Yen ?_|refine Yab ?_)
  refine Zaa _ rfl rfl rfl rfl rfl (Z02 a nd.data q _ (hbo.rd hS).ro hq hl (hG.at_ hS)) ?_
  rintro _ w ⟨b,c,rfl,hS'⟩
  replace hS := hS.plus hS';clear hS';repeat (first|refine Yeb ?_|refine Yag ?_|refine Yah ?_|refine Ye0 ?_)
  exact .inl ⟨hk,b,c,rfl,hS.took⟩
 ·refine Zab Tryz.func36 rfl Tryz.ntmps36 rfl ?_
  repeat (first|refine Yeb ?_|(refine X_id ?_;first|refine Yag ?_|refine Yan ?_|refine Yby ?_|refine Ybj ?_|refine Yaq ?_|refine Yba (fun _ _ hS _ => ?_))|refine Yet ?_|refine Ye7 ?_)
  exact .inr ⟨hk,rfl,hS.drops⟩
def Z7l (X : List RowD) (r : Except Int (Int × Nd)) (v : Value) : Prop := match r with
 | .error e => v = .tuple #[.agg (List.toArray pl0),.int .i64 e] ∧ e ≠ 0
 | .ok x => ∃ a q,v = .tuple #[.agg (List.toArray (plV x.1 x.2 a q)),.int .i64 0] ∧ x.2.data.length ≤ q ∧ RX X a (bv x.2.data)
theorem Zv1 (b : List UInt8) : 2 * (rdD b).length ≤ b.length := by
 unfold rdD
 cases h : decM b with
 | none => simp
 | some v =>
  have h1 := Zma h
  have h2 := List.length_filterMap_le Zfr v.lst
  simp only [rdV]; omega
theorem Rd.rd {w : World} {r : Res} {W : World} {F : Nat → Prop} {rs : List Res} (H : Rd w r) (_ : St W F rs w) : Rd w r := H
theorem Zm4 {s : List UInt8} : ∀ {l : List Nm},(ixN s l < 0 ∧ l.find? (fun x => decide (x.1 = s)) = none) ∨ ∃ (k : Nat) (x : Nm),ixN s l = k ∧ l[k]? = some x ∧ l.find? (fun x => decide (x.1 = s)) = some x
 | [] => .inl ⟨by simp [ixN],rfl⟩
 | y :: l => by
  unfold ixN
  by_cases h : y.1 = s
  ·exact .inr ⟨0,y,by rw [if_pos h]; rfl,rfl,by simp [h]⟩
  ·rw [if_neg h]
   rcases Zm4 (s := s) (l := l) with ⟨h1,h2⟩ | ⟨k,x,h1,h2,h3⟩
   ·exact .inl ⟨by rw [if_pos h1]; decide,by simp [h,h2]⟩
   ·exact .inr ⟨k + 1,x,by rw [h1,if_neg (by omega)]; omega,by simpa using h2,by simp [h,h3]⟩
section
variable {c f tp n : Nat} {b : Int} {T N : Int → Option Nd} {X : List RowD}
theorem Z82 (no : Int) (nd : Nd) (a : Option Addr) (q : Nat) (s : List UInt8) (W : World) (F : Nat → Prop) (hT : TreeRo W F f tp n b T) (hG : Lg W F) (ha : RX X a (bv nd.data)) (hq : nd.data.length ≤ q) (hl : nd.data.length ≤ 512) (hN : Zws N nd s ≠ .error 0) (hS : St W F [chR c f b T N X] W) :
  Calls Tryz.prog 77 #[.pointer (some ⟨c,0,none⟩),.agg (List.toArray [.int .i64 no,.int .i64 nd.st.kind,.int .i64 nd.st.mode,.int .i64 nd.st.owner,.int .i64 nd.st.group,.slice a nd.data.length q]),.string (str s)] W (Ret fun v w => ∃ X',(∀ x ∈ X,x ∈ X') ∧ St W F [chR c f b T N X'] w ∧ Z7l X' (Zws N nd s) v) := by
 unfold Zws at hN ⊢
 refine Zab Tryz.func77 rfl Tryz.ntmps77 rfl ?_
 repeat (first|refine Yeb ?_|refine Yag ?_|refine Ybi ?_|refine Yba (fun _ _ hS _ => ?_)|refine Yar (fun _ _ hS _ => ?_)|refine Yec ?_|refine Yab ?_)
 refine Zaa _ rfl rfl rfl rfl rfl (Zwg no nd a q _ (ha.rd (hS.rd (r := chR c f b T N X) (by simp)).ch) hq hl (hG.at_ hS)) ?_
 rintro _ w (⟨hk,nb,nc,rfl,hS'⟩ | ⟨hk,rfl,hS'⟩)
 ·replace hS := hS.plus hS'
  clear hS';rw [if_pos hk] at hN ⊢;have hlen := Zv1 nd.data
  repeat (first|refine Yeb ?_|refine Ye9 ?_|refine Yen ?_|refine Yab ?_)
  refine Zaa _ rfl rfl rfl rfl rfl (Z6y nb (rdD nd.data) nc s _ (hS.rd (r := own 93 2 nb nc (nmV (rdD nd.data))) (by simp)).own_row (by omega)) ?_
  rintro _ w ⟨rfl,hS'⟩
  replace hS := hS.plus hS';clear hS';rcases Zm4 (s := s) (l := rdD nd.data) with ⟨h1,h2⟩ | ⟨k,x,h1,h2,h3⟩
  ·rw [h2]
   repeat (first|refine Yeb ?_|(refine X_id ?_;first|refine Yaf ?_|refine Yag ?_|refine Ya1 ?_|refine Ybm ?_|refine Yao (fun _ hS _ => ?_))|refine Yet ?_|refine Yab ?_|refine Yap ?_|refine Ybz ?_)
   exact ⟨X,fun _ h => h,hS.took,rfl,by decide⟩
  ·rw [h1]
   rw [h3] at hN ⊢;simp only at hN ⊢
   cases hNx : N x.2 with
   | none => rw [hNx] at hN; exact absurd rfl hN
   | some y =>
    have hkl := (List.getElem?_eq_some_iff.1 h2).1
    have hx : (nmV (rdD nd.data))[k * 2 + 1]? = some (.int .i64 x.2) := by
     have := congrArg (fun l => l[1]?) (Zke h2)
     simpa [List.getElem?_take,List.getElem?_drop,nmC] using this
    obtain ⟨xb,xo,rfl⟩ := ((hS.rd (r := own 93 2 nb nc (nmV (rdD nd.data))) (by simp)).own_row).base (by intro e; rw [e] at hx; simp at hx)
    have hr := (hS.rd (r := own 93 2 (some ⟨xb,xo,none⟩) nc (nmV (rdD nd.data))) (by simp)).own_row
    repeat (first|refine Yeb ?_|(refine X_id ?_;first|refine Yaf ?_|refine Yag ?_|refine Yby ?_|refine Yaz ?_|refine Ybd ?_|refine X_yl (Zau rfl rfl ((hr.rd hS).cellF (by first|omega|(dsimp only;omega)) hx)) rfl rfl ?_)|refine Yen ?_|refine Yab ?_)
    clear hr;obtain ⟨_,hc,_,hw,hbk⟩ := hS.call [false,false,false,true]
    refine Zaa _ rfl rfl rfl rfl rfl (Z22 x.2 _ _ (hT.mono hw) hc) ?_
    rintro v w ⟨X',hX',hS,y',a',q',rfl,hy⟩
    replace hS := hbk hS
    clear hbk hw hc;obtain ⟨rfl,hq',hrow⟩ := hy y hNx
    rw [hNx];simp only [Option.isSome_some]
    repeat (first|refine Yeb ?_|refine Ye5 ?_|refine Yao (fun _ hS _ => ?_)|refine Yar (fun _ _ hS _ => ?_)|refine Yae ?_|refine Yab ?_)
    refine Zao (.s 0 (.s 1 (.s 2 (.s 3 (.s 4 (.s 5 (.s 6 (.h 7 (.s 8 .nil) .no)))))))) mixed (by kernel_rfl) rfl ?_
    have hS := hS.drew
    have hr := (hS.rd (r := own 93 2 (some ⟨xb,xo,none⟩) nc (nmV (rdD nd.data))) (by simp)).own_row
    repeat (first|refine Yao (fun _ hS _ => ?_)|refine Yah ?_|refine Yab ?_|refine Ybz ?_|(refine Zaf ?_;first|refine Ya2 ?_|refine Ya6 ?_|refine Ybl ?_|refine Ydl ?_|refine Ycd ?_|refine Yca ?_|refine Yb0 ?_|refine Yax ?_|refine Zbp (fun w' => w'.cell? _ = some _) rfl rfl ((hr.rd hS).cellF (by first|omega|(dsimp only;omega)) hx) (fun _ hc => Zau rfl rfl hc) rfl rfl ?_)|(refine Zad ?_;first|refine Ydb ?_))
    exact ⟨X',hX',hS.took,a',q',rfl,hq',hrow⟩
 ·replace hS := hS.plus hS'
  clear hS';rw [if_neg hk];repeat (first|refine Yeb ?_|(refine X_id ?_;first|refine Yaf ?_|refine Yag ?_|refine Ya0 ?_|refine Ybj ?_|refine Ybm ?_|refine Yao (fun _ hS _ => ?_))|refine Yet ?_|refine Yab ?_|refine Yap ?_|refine Ybz ?_)
  exact ⟨X,fun _ h => h,hS.took,rfl,by decide⟩
end
def goR (t : Tn) (p : List (List UInt8)) : Except Int (Int × Nd) :=
 if Za4 p then match goT t p with
  | .ok u => .ok (u.no,u.nd)
  | .error e => .error e
 else .error 10
section
variable {c f tp n : Nat} {b : Int} {T : Int → Option Nd} {t : Tn} {X : List RowD}
theorem top_ (ht : TreeOk n t) (W : World) (F : Nat → Prop) (hT : TreeRo W F f tp n b T) (hS : St W F [chR c f b T (Nt t) X] W) :
  Calls Tryz.prog 76 #[.pointer (some ⟨c,0,none⟩)] W (Ret fun v w => ∃ X',(∀ x ∈ X,x ∈ X') ∧ St W F [chR c f b T (Nt t) X'] w ∧ ∃ a q,v = .agg (List.toArray (plV 0 t.nd a q)) ∧ t.nd.data.length ≤ q ∧ RX X' a (bv t.nd.data)) := by
 have h0 : Nt t 0 = some t.nd := by have := ht.at_ (Ze1 t); rwa [ht.root.1] at this
 refine Zab Tryz.func76 rfl Tryz.ntmps76 rfl ?_
 repeat (first|refine Yeb ?_|refine Yaf ?_|refine Yar (fun _ _ hS _ => ?_)|refine Yec ?_|refine Yab ?_)
 obtain ⟨_,hc,_,hw,hbk⟩ := hS.call [false,true]
 refine Zaa _ rfl rfl rfl rfl rfl (Z22 0 _ _ (hT.mono hw) hc) ?_
 rintro v w ⟨X',hX',hS,y',a',q',rfl,hy⟩
 replace hS := hbk hS
 clear hbk hw hc;obtain ⟨rfl,hq',hrow⟩ := hy _ h0
 rw [h0];simp only [Option.isSome_some]
 repeat (first|refine Yeb ?_|(refine X_id ?_;first|refine Yaf ?_|refine Yag ?_|refine Ya0 ?_|refine Ybm ?_|refine Ybi ?_|refine Yao (fun _ hS _ => ?_)|refine Yar (fun _ _ hS _ => ?_))|refine Yep ?_|refine Yab ?_|refine Ybw ?_)
 exact ⟨X',hX',hS.took,a',q',rfl,hq',hrow⟩
theorem Z3h (ht : TreeOk n t) (pa : Option Addr) (p : List (List UInt8)) (pc : Nat) (W : World) (F : Nat → Prop) (hT : TreeRo W F f tp n b T) (hG : Lg W F) (hp : Ro W F (row pa (strV p))) (hpl : p.length ≤ 1048576) (hS : St W F [chR c f b T (Nt t) X] W) :
  Calls Tryz.prog 35 #[.pointer (some ⟨c,0,none⟩),.slice pa p.length pc] W (Ret fun v w => ∃ X',(∀ x ∈ X,x ∈ X') ∧ St W F [chR c f b T (Nt t) X'] w ∧ Z7l X' (goR t p) v) := by
 unfold goR
 have hR := fun W h => Zv5 pa p pc W h hpl
 by_cases hr : Za4 p
 case neg =>
  rw [if_neg hr];simp only [decide_eq_false hr] at hR
  refine Zab Tryz.func35 rfl Tryz.ntmps35 rfl ?_
  repeat (first|refine Yeb ?_|(refine X_id ?_;first|(refine Zac 75 rfl rfl rfl rfl rfl hS (hR _ (hp.rd hS)) ?_;rintro _ _ rfl hS)|refine Yaf ?_|refine Yag ?_|refine Ybo ?_|refine Ybm ?_|refine Ybt ?_|refine Yao (fun _ hS _ => ?_)|refine Yar (fun _ _ hS _ => ?_))|refine Yfc ?_|refine Yab ?_|refine Yap ?_|refine Ybz ?_)
  exact ⟨X,fun _ h => h,hS.took,rfl,by decide⟩
 rw [if_pos hr];simp only [decide_eq_true hr] at hR
 clear hr;refine Zab Tryz.func35 rfl Tryz.ntmps35 rfl ?_
 repeat (first|refine Yeb ?_|(refine X_id ?_;first|(refine Zac 75 rfl rfl rfl rfl rfl hS (hR _ (hp.rd hS)) ?_;rintro _ _ rfl hS)|refine Yaf ?_|refine Yag ?_|refine Ybb ?_|refine Ybt ?_|refine Yar (fun _ _ hS _ => ?_))|refine Yen ?_|refine Yab ?_)
 rename_i b4 _ _ _ _;obtain ⟨_,hc,_,hw,hbk⟩ := hS.call [false,true]
 refine Zaa _ rfl rfl rfl rfl rfl (top_ ht _ _ (hT.mono hw) hc) ?_
 rintro v w ⟨X',hX',hS,a,q,rfl,hq,hrow⟩
 replace hS := hbk hS
 clear hbk hw hc;repeat (first|refine Yeb ?_|refine Yaf ?_|refine Yat ?_|refine Yao (fun _ hS _ => ?_)|refine Yar (fun _ _ hS _ => ?_)|refine Yee ?_|refine Yab ?_)
 rename_i b6 _ _ _ _ _;have hS : St W F [chR c f b T (Nt t) X',pts b6 (.cells (List.toArray (plV 0 t.nd a q)) 86 (0,0)),pts b4 (.cells (List.toArray pl0) 86 (0,0))] _ := hS.took
 refine Zaj (α := Nat) (fun i => [(0,.pointer (some ⟨c,0,none⟩)),(4,.pointer (some ⟨b4,0,none⟩)),(6,.pointer (some ⟨b6,0,none⟩)),(20,.slice pa p.length pc),(21,.int .i64 (p.length : Nat)),(22,.int .i64 (i : Nat))])
  (fun i w => i ≤ p.length ∧ ∃ u a q X',goT t (p.take i) = .ok u ∧ (∀ x ∈ X,x ∈ X') ∧ u.nd.data.length ≤ q ∧ RX X' a (bv u.nd.data) ∧ St W F [chR c f b T (Nt t) X',pts b6 (.cells (List.toArray (plV u.no u.nd a q)) 86 (0,0)),pts b4 (.cells (List.toArray pl0) 86 (0,0))] w)
  (fun i => p.length - i) 0 ⟨rfl,rfl,rfl,rfl,rfl,rfl,trivial⟩ ⟨Nat.zero_le _,t,a,q,X',by rw [List.take_zero,goT],hX',hq,hrow,by rw [ht.root.1]; exact hS⟩ ?_
 clear hS hrow hq hX';rintro i w ⟨hi,u,a,q,X',hgo,hX',hq,hrow,hS2⟩
 have hu := Zcs hgo
 by_cases hlt : i < p.length
 ·have hx0 : p[i]? = some p[i] := List.getElem?_eq_getElem (by omega)
  have htk : p.take (i + 1) = p.take i ++ [p[i]] := List.take_succ_eq_append_getElem hlt
  generalize p[i] = s at hx0 htk;have hr := hp
  have hx := Zqb hx0
  obtain ⟨xb,xo,rfl⟩ := (hr.rd hS2).base (by intro e; rw [e] at hx; simp at hx)
  have hS := hS2
  repeat (first|refine Yeb ?_|(refine X_id ?_;first|refine Yaf ?_|refine Yag ?_|refine Ya1 ?_|refine Ybd ?_|refine Ybi ?_|refine Yb7 ?_)|refine Yef ?_|refine Yab ?_)
  obtain ⟨_,hc,_,hw,hbk⟩ := hS.call [true,false,false]
  have hin := ht.into hu s
  refine Zaa _ rfl rfl rfl rfl rfl (Z82 u.no u.nd a q s _ _ (hT.mono hw) (hG.mono hw) hrow hq (ht.len hu) (by rw [hin]; cases hg : Zcc u s with | ok k => simp | error e => rcases Zo2 hg with rfl | rfl <;> simp) hc) ?_
  rintro v w ⟨X2,hX2,hS,hv⟩
  replace hS := hbk hS
  clear hbk hw hc;rw [hin] at hv;cases hg : Zcc u s with
  | error e =>
   rw [hg] at hv;obtain ⟨rfl,he⟩ := hv
   have hres : goT t p = .error e := by
    rw [← List.take_append_drop (i + 1) p,htk,Zqu,Zf6,hgo]; simp only [hg]
   rw [hres];repeat (first|refine Yeb ?_|(refine X_id ?_;first|refine Yaf ?_|refine Yag ?_|refine Ya0 ?_|refine Ybj ?_|refine Ybm ?_|refine Yao (fun _ hS _ => ?_)|refine Yar (fun _ _ hS _ => ?_))|refine Yet ?_|refine Yab ?_|refine Yap ?_|refine Ya8 ?_|refine Ybz ?_)
   exact ⟨X2,fun x hx => hX2 x (hX' x hx),hS.took,rfl,he⟩
  | ok k =>
   rw [hg] at hv;obtain ⟨a',q',rfl,hq',hrow'⟩ := hv
   repeat (first|refine Yeb ?_|(refine X_id ?_;first|refine Yaf ?_|refine Yag ?_|refine Ya0 ?_|refine Ybc ?_|refine Yaw ?_|refine Ybi ?_|refine Yao (fun _ hS _ => ?_)|refine Yar (fun _ _ hS _ => ?_))|refine Yen ?_|refine Yej ?_)
   refine Zae (i + 1) ⟨rfl,rfl,rfl,rfl,rfl,rfl,trivial⟩ ⟨hlt,k,a',q',X2,by rw [htk,Zf6,hgo]; exact hg,fun x hx => hX2 x (hX' x hx),hq',hrow',?_⟩ (by omega)
   exact hS.took
 ·obtain rfl : i = p.length := by omega
  have hS := hS2
  rw [List.take_length] at hgo;rw [hgo];repeat (first|refine Yeb ?_|refine Yag ?_|refine Yaz ?_|refine Ybi ?_|refine Yao (fun _ hS _ => ?_)|refine Yek ?_|refine Yab ?_|refine Ya4 ?_|refine Ya5 ?_|refine Ybz ?_)
  exact ⟨X',hX',hS.took,a,q,rfl,hq,hrow⟩
def shN (nd : Nd) : Nd := ⟨nd.st,if nd.st.kind = 1 then [] else nd.data⟩
theorem Z4n (nd : Nd) (a : Option Addr) (q : Nat) (W : World) (hb : Rd W (bytes a nd.data)) (hl : nd.data.length ≤ 512) :
  Calls Tryz.prog 73 #[.agg (List.toArray [.int .i64 nd.st.kind,.int .i64 nd.st.mode,.int .i64 nd.st.owner,.int .i64 nd.st.group,.slice a nd.data.length q])] W (Ret fun v w => ∃ a' q',v = .agg (ndV (shN nd) a' q').toArray ∧ (shN nd).data.length ≤ q' ∧ St W noF [own 5 1 a' q' (bv (shN nd).data)] w) := by
 have hbo := hb.ro
 have hS := St.start W
 unfold shN
 by_cases hk : nd.st.kind = 1
 ·rw [if_pos hk]
  refine Zab Tryz.func73 rfl Tryz.ntmps73 rfl ?_
  repeat (first|refine Yeb ?_|(refine X_id ?_;first|refine Yan ?_|refine Ybg ?_|refine Ybm ?_|refine Yaq ?_|refine Ybi ?_|refine Yao (fun _ hS _ => ?_)|refine Yba (fun _ _ hS _ => ?_)|refine Yar (fun _ _ hS _ => ?_))|refine Yet ?_|refine Yab ?_|refine Yap ?_|refine Ybw ?_)
  exact ⟨none,0,rfl,Nat.le_refl _,(hS.took (out := [])).own_none _ _ _⟩
 ·rw [if_neg hk]
  refine Zab Tryz.func73 rfl Tryz.ntmps73 rfl ?_
  repeat (first|refine Yeb ?_|(refine X_id ?_;first|refine Yan ?_|refine Ybh ?_|refine Yaq ?_|refine Yba (fun _ _ hS _ => ?_)|refine Yar (fun _ _ hS _ => ?_))|refine Yen ?_|refine Yab ?_)
  refine Zao (.s 0 (.s 1 (.s 2 (.s 3 (.h 4 (.s 5 (.h 6 .nil .no)) .no))))) mixed (by kernel_rfl) rfl ?_
  have hS := hS.drew
  repeat (first|(refine Zaf ?_;first|refine Ybk ?_|refine Ybn ?_|refine Yb0 ?_|refine Yax ?_))
  refine Zaa _ rfl rfl rfl rfl rfl (Ze6 a nd.data.length q nd.data _ (hbo.rd hS) rfl (by omega)) ?_
  rintro _ w ⟨a',q',rfl,_,hqq,hS'⟩
  replace hS := hS.plus hS';clear hS';repeat (first|refine Yao (fun _ hS _ => ?_)|refine Yah ?_|refine Yab ?_|refine Ybw ?_|(refine Zaf ?_;first|refine Ya2 ?_|refine Ycd ?_|refine Yax ?_)|(refine Zad ?_;first|refine Yay ?_))
  exact ⟨a',q',rfl,hqq,hS.took⟩
end
theorem Zqn (l : List Nm) : ∀ u ∈ nmV l,u.oneCell' = true := fun u hu => by
 obtain ⟨x,_,hx⟩ := List.mem_flatMap.1 hu
 simp only [nmC,List.mem_cons,List.not_mem_nil,or_false] at hx
 rcases hx with rfl | rfl <;> rfl
theorem Zza (l : List (List UInt8)) : ∀ u ∈ strV l,u.oneCell' = true := fun u hu => by
 obtain ⟨x,_,rfl⟩ := List.mem_map.1 hu; rfl
theorem Z24 (a : Option Addr) (l : List Nm) (c : Nat) (W : World) (hs : Rd W (row a (nmV l))) (hlim : l.length ≤ 1048576) :
  Calls Tryz.prog 97 #[.slice a l.length c] W (Ret fun v w => ∃ a' c',v = .slice a' l.length c' ∧ l.length ≤ c' ∧ St W noF [own 93 2 a' c' (nmV l)] w) := by
 have hS := St.start W
 cases a with
 | none =>
  have h0 : nmV l = [] := hs.none_nil
  obtain rfl : l = [] := by
   have := Zkd l
   rw [h0] at this;exact List.eq_nil_of_length_eq_zero (by simp at this; omega)
  refine Zab Tryz.func97 rfl Tryz.ntmps97 rfl ?_
  repeat (first|refine Yeb ?_|refine Yaf ?_|refine Yag ?_|refine Ycu ?_|refine Yet ?_|refine Yeu ?_)
  exact ⟨none,0,rfl,Nat.le_refl _,hS.own_none _ _ _⟩
 | some ad =>
  refine Zab Tryz.func97 rfl Tryz.ntmps97 rfl ?_
  repeat (first|refine Yeb ?_|refine Yaf ?_|refine Yag ?_|refine Ycu ?_|refine Ybe (fun _ _ hS _ => ?_)|refine Yen ?_|refine Yab ?_)
  rename_i b w hb;have hs := hs.below hb
  refine Zas rfl rfl rfl rfl rfl hS rfl (by omega) hs (Zkd l) (Zqn l) (by omega) (by simp only [maxLen]; omega) (fun a' c' w hS hc hnil => ?_)
  repeat (first|refine Yeb ?_|refine Yag ?_|refine Yah ?_|refine Yed ?_)
  exact ⟨a',c',by rw [Nat.zero_add],by omega,hS⟩
theorem Zvq (a : Option Addr) (l : List (List UInt8)) (c : Nat) (W : World) (hs : Rd W (row a (strV l))) (hlim : l.length ≤ 1048576) :
  Calls Tryz.prog 40 #[.slice a l.length c] W (Ret fun v w => ∃ a' c',v = .slice a' l.length c' ∧ l.length ≤ c' ∧ St W noF [own 9 1 a' c' (strV l)] w) := by
 have hS := St.start W
 cases a with
 | none =>
  have h0 : strV l = [] := hs.none_nil
  obtain rfl : l = [] := List.map_eq_nil_iff.1 h0
  refine Zab Tryz.func40 rfl Tryz.ntmps40 rfl ?_
  repeat (first|refine Yeb ?_|refine Yaf ?_|refine Yag ?_|refine Ycu ?_|refine Yet ?_|refine Yeu ?_)
  exact ⟨none,0,rfl,Nat.le_refl _,hS.own_none _ _ _⟩
 | some ad =>
  refine Zab Tryz.func40 rfl Tryz.ntmps40 rfl ?_
  repeat (first|refine Yeb ?_|refine Yaf ?_|refine Yag ?_|refine Ycu ?_|refine Ybe (fun _ _ hS _ => ?_)|refine Yen ?_|refine Yab ?_)
  rename_i b w hb;have hs := hs.below hb
  refine Zas rfl rfl rfl rfl rfl hS rfl (by omega) hs (by rw [Zg8,Nat.mul_one]) (Zza l) (by omega) (by simp only [maxLen]; omega) (fun a' c' w hS hc hnil => ?_)
  repeat (first|refine Yeb ?_|refine Yag ?_|refine Yah ?_|refine Yed ?_)
  exact ⟨a',c',by rw [Nat.zero_add],by omega,hS⟩
theorem Z03 (pa : Option Addr) (p : List (List UInt8)) (pc : Nat) (W : World) (hp : Rd W (row pa (strV p))) (hpc : p.length ≤ pc) (hpl : p.length ≤ 1048576) :
  Calls Tryz.prog 45 #[.slice pa p.length pc] W (Ret fun v w => (Za4 p ∧ ∃ q s a' c',p = q ++ [s] ∧ v = .tuple #[.slice a' q.length c',.string (str s),.int .i64 0] ∧ q.length ≤ c' ∧ St W noF [own 9 1 a' c' (strV q)] w) ∨
   ((¬ Za4 p ∨ p = []) ∧ v = .tuple #[.slice none 0 0,.string (str []),.int .i64 10] ∧ St W noF [] w)) := by
 have hS := St.start W
 have hR := fun W h => Zv5 pa p pc W h hpl
 have hp' := hp.ro
 by_cases hr : Za4 p
 case neg =>
  simp only [decide_eq_false hr] at hR
  refine Zab Tryz.func45 rfl Tryz.ntmps45 rfl ?_
  repeat (first|refine Yev ?_|(refine X_id ?_;first|(refine Zac 75 rfl rfl rfl rfl rfl hS (hR _ (hp'.rd hS)) ?_;rintro _ _ rfl hS)|refine Yaf ?_|refine Yag ?_|refine Ya9 ?_|refine Ybo ?_)|refine Yet ?_|refine Yab ?_|refine Yap ?_|refine Ydj ?_)
  exact .inr ⟨.inl hr,rfl,hS⟩
 simp only [decide_eq_true hr] at hR
 rcases List.eq_nil_or_concat p with rfl | ⟨q,s,rfl⟩
 ·refine Zab Tryz.func45 rfl Tryz.ntmps45 rfl ?_
  repeat (first|refine Yes ?_|(refine X_id ?_;first|(refine Zac 75 rfl rfl rfl rfl rfl hS (hR _ (hp'.rd hS)) ?_;rintro _ _ rfl hS)|refine Yaf ?_|refine Yag ?_|refine Ya7 ?_|refine Ybb ?_|refine Yat ?_|refine Ycx ?_)|refine Yet ?_|refine Yab ?_|refine Yap ?_|refine Ydj ?_)
  exact .inr ⟨.inr rfl,rfl,hS⟩
 ·have hlen : (q ++ [s]).length = q.length + 1 := by simp
  have hx : (strV (q ++ [s]))[q.length]? = some (.string (str s)) := Zqb (by simp)
  obtain ⟨xb,xo,rfl⟩ := hp.base (by simp [strV])
  have hr := hp'
  simp only [List.concat_eq_append,hlen] at *
  refine Zab Tryz.func45 rfl Tryz.ntmps45 rfl ?_
  repeat (first|refine Yes ?_|(refine X_id ?_;first|(refine Zac 75 rfl rfl rfl rfl rfl hS (hR _ (hp'.rd hS)) ?_;rintro _ _ rfl hS)|refine Yaf ?_|refine Yag ?_|refine Ya7 ?_|refine Ybb ?_|refine Yat ?_|refine Ybh ?_|refine Ybv ?_)|refine Yen ?_|refine Yab ?_)
  refine Zao (.s 0 (.s 1 (.s 2 (.s 3 (.s 5 (.s 6 (.s 7 (.s 8 (.h 4 (.s 9 (.s 10 (.s 11 .nil))) .no))))))))) mixed (by kernel_rfl) rfl ?_
  have hS := hS.drew
  repeat (first|(refine Zaf ?_;first|refine Ya6 ?_))
  refine Zai rfl rfl (fun _ => Zh1 (l := 0) (h := q.length) (k := q.length) rfl rfl rfl rfl rfl ⟨_,_,rfl,by omega,by omega,by omega⟩ ⟨_,_,rfl,by omega,by omega,by omega⟩ (.inl ⟨rfl,rfl⟩)) rfl rfl ?_
  simp only [Nat.sub_zero]
  repeat (first|(refine Zaf ?_;first|refine Ya6 ?_|refine Yca ?_|refine Ydk ?_|refine Yax ?_))
  have hsub : Ro W noF (row (Cr.sub (some ⟨xb,xo,none⟩) 0 1 q.length) (strV q)) := by
   have := hp'.sub (l := 0) (h := q.length) (e := 1) (c := q.length) (Nat.le_refl _) (Nat.zero_le _)
   rwa [Nat.zero_mul,List.drop_zero,Nat.sub_zero,Nat.mul_one,show (strV (q ++ [s])).take q.length = strV q by
    rw [show strV (q ++ [s]) = strV q ++ [.string (str s)] by simp [strV],List.take_append_of_le_length (Nat.le_of_eq (Zg8 q).symm),List.take_of_length_le (Nat.le_of_eq (Zg8 q))]] at this
  refine Zaa _ rfl rfl rfl rfl rfl (Zvq _ q _ _ (hsub.rd hS) (by omega)) ?_
  rintro _ w ⟨a',c',rfl,hc',hS'⟩
  replace hS := hS.plus hS';clear hS';repeat (first|refine Yah ?_|refine Yab ?_|refine Ydj ?_|(refine Zaf ?_;first|refine Ya2 ?_|refine Ybl ?_)|(refine Zad ?_;first|refine Yay ?_))
  exact .inl ⟨by assumption,q,s,a',c',rfl,rfl,hc',hS.took⟩
section
variable {c f tp n : Nat} {b : Int} {T : Int → Option Nd} {t : Tn} {X : List RowD}
def getR (t : Tn) (p : List (List UInt8)) : Except Int Nd := match goR t p with
 | .ok x => .ok (shN x.2)
 | .error e => .error e
def Z7o (X : List RowD) (r : Except Int Nd) (v : Value) : Prop := match r with
 | .error e => v = .tuple #[nd0,.int .i64 e] ∧ e ≠ 0
 | .ok x => ∃ a q,v = .tuple #[.agg (ndV x a q).toArray,.int .i64 0] ∧ x.data.length ≤ q ∧ RX X a (bv x.data)
theorem get_ (ht : TreeOk n t) (pa : Option Addr) (p : List (List UInt8)) (pc : Nat) (W : World) (F : Nat → Prop) (hT : TreeRo W F f tp n b T) (hG : Lg W F) (hp : Ro W F (row pa (strV p))) (hpl : p.length ≤ 1048576) (hS : St W F [chR c f b T (Nt t) X] W) :
  Calls Tryz.prog 30 #[.pointer (some ⟨c,0,none⟩),.slice pa p.length pc] W (Ret fun v w => ∃ X',(∀ x ∈ X,x ∈ X') ∧ St W F [chR c f b T (Nt t) X'] w ∧ Z7o X' (getR t p) v) := by
 unfold getR
 refine Zab Tryz.func30 rfl Tryz.ntmps30 rfl ?_
 repeat (first|refine Yeb ?_|refine Yeq ?_|refine Yar (fun _ _ hS _ => ?_)|refine Yec ?_|refine Yab ?_)
 obtain ⟨_,hc,_,hw,hbk⟩ := hS.call [false,true]
 refine Zaa _ rfl rfl rfl rfl rfl (Z3h ht pa p pc _ _ (hT.mono hw) (hG.mono hw) (hw _ hp) hpl hc) ?_
 rintro v w ⟨X',hX',hS,hv⟩
 replace hS := hbk hS
 clear hbk hw hc;cases hg : goR t p with
 | error e =>
  rw [hg] at hv;obtain ⟨rfl,he⟩ := hv
  repeat (first|refine Yeb ?_|(refine X_id ?_;first|refine Yaf ?_|refine Yag ?_|refine Ya0 ?_|refine Ybj ?_|refine Ybm ?_|refine Yao (fun _ hS _ => ?_)|refine Yar (fun _ _ hS _ => ?_))|refine Yet ?_|refine Yab ?_|refine Yap ?_|refine Ybz ?_)
  exact ⟨X',hX',hS.took,rfl,he⟩
 | ok x =>
  rw [hg] at hv;obtain ⟨a',q',rfl,hq',hrow⟩ := hv
  have hlen : x.2.data.length ≤ 512 := by
   unfold goR at hg
   split at hg
   ·split at hg
    ·rename_i u hu
     injection hg with hg
     rw [← hg]; exact ht.len (Zcs hu)
    ·cases hg
   ·cases hg
  repeat (first|refine Yeb ?_|(refine X_id ?_;first|refine Yaf ?_|refine Yag ?_|refine Yan ?_|refine Ya0 ?_|refine Ybc ?_|refine Ybi ?_|refine Yao (fun _ hS _ => ?_)|refine Yar (fun _ _ hS _ => ?_))|refine Yen ?_|refine Yab ?_)
  refine Zaa _ rfl rfl rfl rfl rfl (Z4n x.2 a' q' _ (hrow.rd (hS.rd (r := chR c f b T (Nt t) X') (by simp)).ch) hlen) ?_
  rintro _ w ⟨a2,q2,rfl,hq2,hS'⟩
  replace hS := hS.plus hS';clear hS';repeat (first|refine Yeb ?_|refine Yag ?_|refine Yao (fun _ hS _ => ?_)|refine Yah ?_|refine Yab ?_|refine Ybz ?_)
  have hS : St W F [own 5 1 a2 q2 (bv (shN x.2).data),chR c f b T (Nt t) X'] _ := hS.took
  have hS := (hS.toBag (a := a2) (cs := bv (shN x.2).data) fun _ h => h.row).chAdd
  exact ⟨_,fun y hy => List.mem_append_right _ (hX' y hy),hS,a2,q2,rfl,hq2,.mem (List.mem_append_left _ (List.mem_cons_self ..))⟩
end
end Cr
namespace Cr
open Go
set_option maxHeartbeats 64000000
theorem St.ownBase {W : World} {F : Nat → Prop} {rs : List Res} {w : World} {T c e : Nat} {a : Option Addr} {cs : List Value} (hS : St W F (own T e a c cs :: rs) w) (hpos : cs ≠ []) : ∃ b,a = some ⟨b,0,none⟩ := by
 obtain ⟨g,⟨g1,g2,hown,hrest,hdj,hun⟩,s⟩ := hS
 obtain ⟨hle,hcm,⟨rfl,_⟩ | ⟨b',cells,hbe,rfl,hcz,ht⟩⟩ := hown
 ·rw [Nat.zero_mul] at hle
  exact absurd (List.length_eq_zero_iff.1 (by omega)) hpos
 ·exact ⟨b',hbe⟩
end Cr
namespace Cr
open Go Go.Proofs
set_option maxRecDepth 100000
set_option maxHeartbeats 64000000
attribute [local irreducible] Calls

section
variable {W : World} {F : Nat → Prop} {rs : List Res} {w : World}
theorem St.openOwn {T e : Nat} {a : Option Addr} {c : Nat} {cs : List Value} (hS : St W F (own T e a c cs :: rs) w) (hne : cs ≠ []) : ∃ (b : Nat) (l : List Value),a = some ⟨b,0,none⟩ ∧ l.length = c * e ∧ l.take cs.length = cs ∧ c ≤ maxLen ∧ St W F (pts b (.cells l.toArray T (0,0)) :: rs) w := by
 obtain ⟨h,⟨h1,h2,⟨hl,hc,hh⟩,hr,hd,hu⟩,s⟩ := hS
 rcases hh with ⟨rfl,_⟩ | ⟨b,cells,rfl,rfl,hs,ht⟩
 ·exact absurd (List.eq_nil_of_length_eq_zero (by simpa using hl)) hne
 ·exact ⟨b,cells.toList,rfl,by simpa using hs,ht,hc,h,⟨_,h2,rfl,hr,hd,hu⟩,s⟩
theorem St.ptsNe {b b' : Nat} {o o' : Obj} (hS : St W F (pts b o :: pts b' o' :: rs) w) : b ≠ b' := by
 obtain ⟨h,⟨h1,h2,rfl,⟨h3,h4,rfl,_,_,hu'⟩,hd,_⟩,_⟩ := hS
 intro e
 subst e
 rcases hd b with h' | h'
 ·rw [Zan] at h'; cases h'
 ·rw [hu',Zan] at h'; cases h'
end
section
variable {P : Program} {o : Oper} {σ : Env} {w : World} {N : Nat} {ds : Md} {K : Env → World → Prop} {x y : Operand} {t : TypeId}
theorem Zn0 {sT T e : TypeId} {g off n c m c2 d : Nat} {a : Option Addr} {l news : List Value} {W : World} {F : Nat → Prop} {rs rs' : List Res} {z : Value} {bytes : Nat} {TT : TypeId} (ho : o.op = .call { callee := .builtin .copy,args := #[x,y],argTypes := #[t,sT] }) (hx : ev σ x = some (.slice (some ⟨g,off,none⟩) n c)) (hy : ev σ y = some (.slice a m c2))
  [h : Und P t (.slice T)] [hi : Inf P T z e bytes] (hd : o.dst = some d) (hN : Nat.blt d N = true) (hS : St W F rs w) [hh : Has rs g (.cells l.toArray TT (0,0))] (hnews : Rd w (row a news)) (hl : news.length = min m n * e) (h1 : ∀ u ∈ news,u.oneCell' = true) (hfit : off + news.length ≤ l.length)
  [hu : Upd rs g (.cells (Zal l off news).toArray TT (0,0)) rs'] (hk : ∀ w',St W F rs' w' → K ((d,.int .i64 ((min m n : Nat) : Int)) :: σ) w') : X P o N ds σ w K := ⟨fun f ha K' Q' hK => by
 have hb := hS.has (b := g) (o := .cells l.toArray TT (0,0))
 obtain ⟨i,hi',hz',hsz,hby⟩ := info_parts hi.inf
 subst hsz
 have hmn : Nat.min m n = min m n := rfl
 have hfc : (Builtin.firstCells i.size (Nat.min m n) (.slice a m c2)).run P w = .ok news.toArray w := by
  have := Za5 (P := P) (size := i.size) (m := Nat.min m n) (c := c2) hnews (by rw [hmn]; exact hl)
  cases a <;> exact this
 have hst := run_storeCells_at P g off TT news 0 l.toArray w hb (by simpa using hfit) h1
 simp only [Nat.add_zero] at hst
 have hexec : (execOp f.eval o).run P w = .ok (.value (.int .i64 ((Nat.min m n : Nat) : Int))) (w.setRow g (Zal l off news).toArray) := by
  simp only [execOp,ho,resolve,invoke,builtin,ha.eval hx,ha.eval hy,Builtin.copy_,Sem.run_bind,Sem.run_pure,Result.andThen_ok,List.map_toArray,List.map_cons,List.map_nil]
  simp [run_underlying h.und,Builtin.lenOf,Go.sizeOf,typeInfo,hi',hfc,hst,goInt,Zal]
 unfold Oper.wp
 rw [hexec];have u := Zbr hb (Zal l off news).toArray
 have := hK _ _ _ (ha.put (Zam hN) (.int .i64 ((Nat.min m n : Nat) : Int))) (hk _ (hS.upd u))
 rw [← hd] at this;exact this⟩
theorem Zk9 {T bytes c n m e : Nat} {k k' : IntKind} {a : Option Addr} {cs : List Value} {z : Value} {W : World} {F : Nat → Prop} {rs : List Res} {d : Nat} {tx : TypeId} (ho : o.op = .call { callee := .builtin .append,args := #[x,y],argTypes := #[t,tx] }) (hx : ev σ x = some (.slice a n c)) (hy : ev σ y = some (.int k (m : Nat)))
  [h : Und P t (.slice T)] [hx' : Und P tx (.int k')] [hi : Inf P T z e bytes] (hd : o.dst = some d) (hN : Nat.blt d N = true) (hS : St W F rs w) (hr : Rd w (row a cs)) (hcs : cs.length = n * e) (hg : c < n + m) (hm : 0 < m) (he : 0 < e)
  (hfit : (n + m) * bytes ≤ 140737488355328) (hmax : n + m ≤ maxLen)
  (hk : ∀ b c' zs w',zs.length = m * e → St W F (own T e (some ⟨b,0,none⟩) c' (cs ++ zs) :: rs) w' → n + m ≤ c' → K ((d,.slice (some ⟨b,0,none⟩) (n + m) c') :: σ) w') : X P o N ds σ w K := ⟨fun f ha K' Q' hK => by
 obtain ⟨i,hi',hz',hsz,hby⟩ := info_parts hi.inf
 subst hby
 subst hsz
 have hzs : z.cells.size = i.size := hi.zs
 have hlt : ((n + m : Nat) : Int) ≤ 9223372036854775807 := by simp only [maxLen] at hmax; omega
 have hw64 : IntKind.i64.wrap (m : Int) = m := w64 (by omega) (by omega)
 have hm0 : ¬ ((m : Int) < 0) := by omega
 have hmb : ¬ (281474976710656 < (m : Int) * i.bytes) := by
  have h1 : (n + m) * i.bytes = n * i.bytes + m * i.bytes := Nat.add_mul ..
  rw [← Int.natCast_mul];generalize m * i.bytes = q at h1 ⊢;omega
 have hge : n + m ≤ grownCap w (n + m) c T := grownCap_ge w (n + m) c T
 have hcm : grownCap w (n + m) c T ≤ maxLen := grownCap_le_maxLen w (n + m) c T hmax
 have hn' : ¬ (n + m ≤ c) := by omega
 have hmin : ¬ (9223372036854775807 < ((n : Int) + (m : Int))) := by omega
 have h48 : ¬ (281474976710656 < Builtin.nextslicecap (n + m) c * i.bytes) := by have := growslice_fits (show c < n + m by omega) hfit; omega
 have hod : (Builtin.firstCells i.size n (.slice a n c)).run P w.drew = .ok cs.toArray w.drew := Za5 (P := P) (size := i.size) (by obtain ⟨g,hg,ha⟩ := hr; exact ⟨g,hg,ha⟩) hcs
 let blk := cs.toArray ++ Builtin.zeroCells z.cells m ++ Builtin.zeroCells z.cells (grownCap w (n + m) c T - (n + m))
 have hlen : blk.toList.length = grownCap w (n + m) c T * i.size := by
  simp only [blk,Array.length_toList,Array.size_append,List.size_toArray,size_zeroCells,hzs,hcs,← Nat.add_mul]
  congr 1; omega
 have hexec : (execOp f.eval o).run P w = .ok (.value (.slice (some ⟨w.heap.size,0,none⟩) (n + m) (grownCap w (n + m) c T))) (w.drew.alloc (.cells blk T)) := by
  have hmm : m ≠ 0 := by omega
  have hmz : ¬ (m * i.size = 0) := Nat.ne_of_gt (Nat.mul_pos hm he)
  simp [execOp,ho,resolve,invoke,builtin,ha.eval hx,ha.eval hy,Builtin.append_,run_underlying h.und,run_underlying hx'.und,Go.sizeOf,typeInfo,zeroValue,hi',hz',hw64,hm0,hmb,hmz,Nat.ne_of_gt he,hn',hmin,h48,asInt,asIntOf,Question.forced,hod,hmm,newRow,grownCap,blk]
 unfold Oper.wp
 rw [hexec];have := hK _ _ _ (ha.put (Zam hN) (.slice (some ⟨w.heap.size,0,none⟩) (n + m) (grownCap w (n + m) c T))) (hk w.heap.size _ (Builtin.zeroCells z.cells m).toList (w.drew.alloc (.cells blk T)) (by simp [size_zeroCells,hzs]) (St.imp (hS.drew.alloc (.cells blk T)) fun g hg => hg.mono_head (by
  have key := Zbi (T := T) (e := i.size) (c := grownCap w (n + m) c T) (b := w.heap.size) (l := blk.toList) (cs := cs ++ (Builtin.zeroCells z.cells m).toList) hlen hcm (by
   simp only [blk,Array.toList_append]; exact List.take_left)
  simpa using key)) hge)
 rw [← hd] at this;exact this⟩
end
class EOver (P : Program) (g : FuncId) (T : TypeId) : Prop where
 run : ∀ {b b' : Nat} {l l' : List Value} {n c i n' c' : Nat} {w : World},b ≠ b' → w.heap[b]? = some (.cells l.toArray T (0,0)) → w.heap[b']? = some (.cells l'.toArray T (0,0)) → l' ≠ [] → (callFunc g #[.slice (some ⟨b,0,none⟩) n c,.slice (some ⟨b',i,none⟩) n' c']).run P w = .ok (.value (.bool false)) w
instance : EOver Tryz.prog 147 93 := ⟨fun {b b' l l' n c i n' c' w} hne hb hb' hl => by
 rw [run_callFunc_extern Tryz.func147 (by kernel_rfl) (by kernel_rfl) (by kernel_rfl) (e := Extern.SlicesOverlaps.overlaps #[89,89] #[4]) (by kernel_rfl)]
 rw [Lib.run_overlaps_apart w 89 4 93 (by kernel_rfl) 2 (fun w => Zbh w) ⟨b,0,none⟩ ⟨b',i,none⟩ n c n' c' hne 93 93 l.length l'.length (by simp [World.shape?,hb]) (by simp [World.shape?,hb']) (by simpa using hl) (Zd2 hb) (Zd2 hb)]
 rfl⟩
end Cr
namespace Go.Proofs
open Go.Shelf
def Tryz.lays106_ren : Go.Shelf.Ren := ⟨fun | 106 => 95 | 213 => 146 | 265 => 189 | n => n,fun | 9 => 9 | 3 => 3 | n => n,fun | n => n⟩
theorem Tryz.lays106 : Go.Proofs.Lays.n106 Tryz.prog Tryz.lays106_ren := {
 mixed := by kernel_rfl
 f106 := Tryz.func95.trans (congrArg some (by kernel_rfl))
 f213 := Tryz.func146.trans (congrArg some (by kernel_rfl))
 f265 := Tryz.func189.trans (congrArg some (by kernel_rfl))
 t3 := Tryz.underlying3
 a3 := Tryz.isAgg3
 z3 := Tryz.sizeOf3
 v3 := Tryz.zeroValue3
 t9 := Tryz.underlying9
 a9 := Tryz.isAgg9
 z9 := Tryz.sizeOf9
 v9 := Tryz.zeroValue9 }
open Go.RowKit in
theorem Tryz.strings_Compare (a b : ByteArray) (w : World) :
  Calls Tryz.prog 95 #[.string a,.string b] w fun e w' => e = .returned (.int .i64 (Lib.compareBytes a.data.toList b.data.toList)) ∧ w' = w := Any.strings_Compare Tryz.lays106 a b w
end Go.Proofs
namespace Cr
open Go Go.Proofs
set_option maxRecDepth 100000
set_option maxHeartbeats 64000000
attribute [local irreducible] Calls

theorem Z6r {n : Nat} {t : Tn} (ht : TreeOk n t) {p : List (List UInt8)} {x : Int × Nd} (h : goR t p = .ok x) : Za4 p ∧ ∃ u,goT t p = .ok u ∧ u ∈ subT t ∧ x = (u.no,u.nd) := by
 unfold goR at h
 split at h
 ·rename_i hr
  split at h
  ·rename_i u hu
   injection h with h
   exact ⟨hr,u,hu,Zcs hu,h.symm⟩
  ·cases h
 ·cases h
def lstR (t : Tn) (p : List (List UInt8)) : List (List UInt8) × Int := match goR t p with
 | .error e => ([],e)
 | .ok x => if x.2.st.kind = 1 then ((rdD x.2.data).map (·.1),0) else ([],17)
section
variable {c f tp n : Nat} {b : Int} {T : Int → Option Nd} {t : Tn} {X : List RowD}
theorem Z3b (ht : TreeOk n t) (pa : Option Addr) (p : List (List UInt8)) (pc : Nat) (W : World) (F : Nat → Prop) (hT : TreeRo W F f tp n b T) (hG : Lg W F) (hp : Ro W F (row pa (strV p))) (hpl : p.length ≤ 1048576) (hS : St W F [chR c f b T (Nt t) X] W) :
  Calls Tryz.prog 11 #[.pointer (some ⟨c,0,none⟩),.slice pa p.length pc] W (Ret fun v w => ∃ X' a q,(∀ x ∈ X,x ∈ X') ∧ v = .tuple #[.slice a (lstR t p).1.length q,.int .i64 (lstR t p).2] ∧ (lstR t p).1.length ≤ q ∧ St W F [own 9 1 a q (strV (lstR t p).1),chR c f b T (Nt t) X'] w) := by
 unfold lstR
 refine Zab Tryz.func11 rfl Tryz.ntmps11 rfl ?_
 repeat (first|refine Yeb ?_|refine Yeq ?_|refine Yec ?_|refine Yab ?_)
 obtain ⟨_,hc,_,hw,hbk⟩ := hS.call [true]
 refine Zaa _ rfl rfl rfl rfl rfl (Z3h ht pa p pc _ _ (hT.mono hw) (hG.mono hw) (hw _ hp) hpl hc) ?_
 rintro v w ⟨X',hX',hS,hv⟩
 replace hS := hbk hS
 clear hbk hw hc;cases hg : goR t p with
 | error e =>
  rw [hg] at hv;obtain ⟨rfl,he⟩ := hv
  repeat (first|refine Yeb ?_|refine Ye8 ?_|refine Yao (fun _ hS _ => ?_)|refine Yar (fun _ _ hS _ => ?_)|refine Yet ?_|refine Ye7 ?_)
  exact ⟨X',none,0,hX',rfl,Nat.le_refl _,(hS.took (out := [chR c f b T (Nt t) X'])).own_none _ _ _⟩
 | ok x =>
  rw [hg] at hv;obtain ⟨a',q',rfl,hq',hrow⟩ := hv
  obtain ⟨_,u,_,hu,hxu⟩ := Z6r ht hg
  have hlen : x.2.data.length ≤ 512 := by rw [hxu]; exact ht.len hu
  have hrl := Zv1 x.2.data
  simp only
  repeat (first|refine Yeb ?_|(refine X_id ?_;first|refine Yaf ?_|refine Yag ?_|refine Ya0 ?_|refine Ybc ?_|refine Ybi ?_|refine Yao (fun _ hS _ => ?_)|refine Yar (fun _ _ hS _ => ?_))|refine Yen ?_|refine Yab ?_)
  refine Zaa _ rfl rfl rfl rfl rfl (Zwg x.1 x.2 a' q' _ (hrow.rd (hS.rd (r := chR c f b T (Nt t) X') (by simp)).ch) hq' hlen (hG.at_ hS)) ?_
  rintro _ w (⟨hk,nb,nc,rfl,hS'⟩ | ⟨hk,rfl,hS'⟩)
  ·replace hS := hS.plus hS'
   clear hS';rw [if_pos hk];generalize hl : rdD x.2.data = l at hS hrl ⊢;simp only
   repeat (first|refine Yeb ?_|refine Yaf ?_|refine Yag ?_|refine Ya0 ?_|refine Yat ?_|refine Yee ?_|refine Yab ?_)
   have hS : St W F [own 93 2 nb nc (nmV l),chR c f b T (Nt t) X'] _ := hS.took
   refine Zaj (α := Nat × Option Addr × Nat) (fun z => [(7,.int .i64 0),(9,.slice z.2.1 z.1 z.2.2),(26,.slice nb l.length nc),(27,.int .i64 (l.length : Nat)),(28,.int .i64 (z.1 : Nat))])
    (fun z w => z.1 ≤ l.length ∧ z.1 ≤ z.2.2 ∧ St W F [own 9 1 z.2.1 z.2.2 (strV ((l.take z.1).map (·.1))),own 93 2 nb nc (nmV l),chR c f b T (Nt t) X'] w) (fun z => l.length - z.1) (0,none,0) ⟨rfl,rfl,rfl,rfl,rfl,trivial⟩ ⟨Nat.zero_le _,Nat.le_refl _,hS.own_none _ _ _⟩ ?_
   clear hS;rintro ⟨i,oa,oc⟩ w ⟨hi,hio,hS2⟩
   simp only at hi hio hS2
   by_cases hlt : i < l.length
   ·have hx0 : l[i]? = some l[i] := List.getElem?_eq_getElem (by omega)
    have htk : l.take (i + 1) = l.take i ++ [l[i]] := List.take_succ_eq_append_getElem hlt
    generalize l[i] = y at hx0 htk;have hxs : ((nmV l).drop (i * 2)).take 2 = [.string (str y.1),.int .i64 y.2] := Zke hx0
    have hr := (hS2.rd (r := own 93 2 nb nc (nmV l)) (by simp)).own_row
    obtain ⟨xb,xo,rfl⟩ := hr.base (by intro e; rw [e] at hxs; simp at hxs)
    have hS := hS2
    repeat (first|refine Yeb ?_|(refine X_id ?_;first|refine Yaf ?_|refine Yan ?_|refine Ya1 ?_|refine Ybd ?_|refine Yaq ?_|refine Ybq ?_|refine Yao (fun _ hS _ => ?_)|refine Yar (fun _ _ hS _ => ?_)|refine Ybe (fun _ _ hS _ => ?_))|refine Yef ?_|refine Yab ?_)
    have hnw := (hS.rd (List.mem_cons_self ..)).own_row
    refine Zas rfl rfl rfl rfl rfl hS (by rw [Zg8,List.length_map,List.length_take]; omega) hio hnw rfl (by simp [Value.oneCell']) (by dsimp only; omega) (by simp only [maxLen]; omega) (fun b' q' w hS hq' _ => ?_)
    repeat (first|refine Yeb ?_|refine Yer ?_|refine Yad ?_|refine Yej ?_)
    refine Zae (z := (i,oa,oc)) (i + 1,b',q') ⟨rfl,rfl,rfl,rfl,rfl,trivial⟩ ⟨hlt,hq',?_⟩ (by dsimp only; omega)
    rw [htk,List.map_append,show strV ((l.take i).map (·.1) ++ [y].map (·.1)) = strV ((l.take i).map (·.1)) ++ [.string (str y.1)] by simp [strV]]
    exact hS.took
   ·obtain rfl : i = l.length := by omega
    have hS := hS2
    rw [List.take_length] at hS;repeat (first|refine Yeb ?_|refine Yfj ?_|refine Yek ?_|refine Yab ?_|refine Ya4 ?_|refine Ya5 ?_|refine Ybp ?_)
    exact ⟨X',oa,oc,hX',by rw [List.length_map],by rw [List.length_map]; exact hio,hS.took⟩
  ·replace hS := hS.plus hS'
   clear hS';rw [if_neg hk];repeat (first|refine Yeb ?_|refine Yaf ?_|refine Yag ?_|refine Ya0 ?_|refine Yat ?_|refine Yee ?_|refine Yab ?_)
   refine Zaj (α := Unit) (fun _ => [(7,.int .i64 17),(9,.slice none 0 0),(27,.int .i64 0),(28,.int .i64 0)]) (fun _ w => St W F [chR c f b T (Nt t) X'] w) (fun _ => 0) () ⟨rfl,rfl,rfl,rfl,trivial⟩ hS.took ?_
   clear hS;rintro _ w hS
   repeat (first|refine Yeb ?_|refine Yfj ?_|refine Yek ?_|refine Yab ?_|refine Ya4 ?_|refine Ya5 ?_|refine Ybp ?_)
   exact ⟨X',none,0,hX',rfl,Nat.le_refl _,hS.own_none _ _ _⟩
def Zhq (t : Tn) (p : List (List UInt8)) : Except Int (Tn × List UInt8) :=
 if Za4 p then match p.getLast? with
  | none => .error 10
  | some s => match goT t p.dropLast with
   | .error e => .error e
   | .ok u => if u.st.kind = 1 then .ok (u,s) else .error 17
 else .error 10
def Z36 (X : List RowD) (r : Except Int (Tn × List UInt8)) (v : Value) : Prop := match r with
 | .error e => e ≠ 0 ∧ ∃ no nd a q b m k s,v = .tuple #[.agg (List.toArray (plV no nd a q)),.slice b m k,.string s,.int .i64 e]
 | .ok x => ∃ a q nb nc,v = .tuple #[.agg (List.toArray (plV x.1.no x.1.nd a q)),.slice nb x.1.names.length nc,.string (str x.2),.int .i64 0] ∧ x.1.nd.data.length ≤ q ∧ RX X a (bv x.1.nd.data) ∧ RX X nb (nmV x.1.names)
theorem Zqk {p q : List (List UInt8)} (h : Za4 (p ++ q)) : Za4 p := ⟨by have := h.1; rw [List.length_append] at this; omega,fun s hs => h.2 s (List.mem_append_left _ hs)⟩
theorem Zly {t : Tn} {q : List (List UInt8)} {s : List UInt8} (h : Za4 (q ++ [s])) : Zhq t (q ++ [s]) = match goT t q with
  | .error e => .error e
  | .ok u => if u.st.kind = 1 then .ok (u,s) else .error 17 := by
 unfold Zhq
 rw [if_pos h,List.getLast?_append,List.dropLast_concat];simp only [List.getLast?_singleton,Option.some_or]
theorem Zwo {t : Tn} {p : List (List UInt8)} (h : ¬ Za4 p ∨ p = []) : Zhq t p = .error 10 := by
 unfold Zhq
 rcases h with h | h
 ·rw [if_neg h]
 ·subst h; simp
theorem Zwy {t : Tn} {q : List (List UInt8)} (h : Za4 q) : goR t q = match goT t q with
  | .ok u => .ok (u.no,u.nd)
  | .error e => .error e := by
 unfold goR; rw [if_pos h] <;> cases goT t q <;> rfl
theorem Z8z (ht : TreeOk n t) (pa : Option Addr) (p : List (List UInt8)) (pc : Nat) (W : World) (F : Nat → Prop) (hT : TreeRo W F f tp n b T) (hG : Lg W F) (hp : Ro W F (row pa (strV p))) (hpc : p.length ≤ pc) (hpl : p.length ≤ 1048576) (hS : St W F [chR c f b T (Nt t) X] W) :
  Calls Tryz.prog 47 #[.pointer (some ⟨c,0,none⟩),.slice pa p.length pc] W (Ret fun v w => ∃ X',(∀ x ∈ X,x ∈ X') ∧ St W F [chR c f b T (Nt t) X'] w ∧ Z36 X' (Zhq t p) v) := by
 refine Zab Tryz.func47 rfl Tryz.ntmps47 rfl ?_
 repeat (first|refine Yeb ?_|refine Yfe ?_|refine Yar (fun _ _ hS _ => ?_)|refine Yen ?_|refine Yab ?_)
 refine Zaa _ rfl rfl rfl rfl rfl (Z03 pa p pc _ (hp.rd hS) hpc hpl) ?_
 rintro _ w (⟨hr,q,s,a',c',rfl,rfl,hc',hS'⟩ | ⟨hbad,rfl,hS'⟩)
 ·replace hS := hS.plus hS'
  clear hS';have hl := Zly (t := t) hr
  rw [List.length_append] at hpl;repeat (first|refine Yeb ?_|refine Ye9 ?_|refine Yen ?_|refine Yab ?_)
  obtain ⟨_,hc,hr1,hw,hbk⟩ := hS.call [false,false,true]
  refine Zaa _ rfl rfl rfl rfl rfl (Z3h ht a' q c' _ _ (hT.mono hw) (hG.mono hw) (hr1 _ (List.mem_cons_self ..)).own_row (by omega) hc) ?_
  rintro v w ⟨X',hX',hS,hv⟩
  replace hS := hbk hS
  clear hbk hw hc hr1;rw [Zwy (Zqk hr)] at hv;cases hg : goT t q with
  | error e =>
   rw [hg] at hv hl;rw [hl];obtain ⟨rfl,he⟩ := hv
   repeat (first|refine Yeb ?_|(refine X_id ?_;first|refine Yaf ?_|refine Yag ?_|refine Ya0 ?_|refine Ybj ?_|refine Ybm ?_|refine Yao (fun _ hS _ => ?_)|refine Yar (fun _ _ hS _ => ?_))|refine Yet ?_|refine Yab ?_|refine Yap ?_|refine Yco ?_)
   exact ⟨X',hX',hS.took,he,0,⟨⟨0,0,0,0⟩,[]⟩,none,0,none,0,0,_,rfl⟩
  | ok u =>
   rw [hg] at hv hl;obtain ⟨a2,q2,rfl,hq2,hrow⟩ := hv
   have hu := Zcs hg
   simp only at hq2 hrow
   repeat (first|refine Yeb ?_|(refine X_id ?_;first|refine Yaf ?_|refine Yag ?_|refine Ya0 ?_|refine Ybc ?_|refine Ybi ?_|refine Yao (fun _ hS _ => ?_)|refine Yar (fun _ _ hS _ => ?_))|refine Yen ?_|refine Yab ?_)
   refine Zaa _ rfl rfl rfl rfl rfl (Zwg u.no u.nd a2 q2 _ (hrow.rd (hS.rd (r := chR c f b T (Nt t) X') (by simp)).ch) hq2 (ht.len hu) (hG.at_ hS)) ?_
   rintro _ w (⟨hk,nb,nc,rfl,hS'⟩ | ⟨hk,rfl,hS'⟩)
   ·replace hS := hS.plus hS'
    clear hS';have hk' : u.st.kind = 1 := hk
    simp only [if_pos hk'] at hl
    rw [hl];rw [(ht.rd hu hk').2] at hS ⊢;repeat (first|refine Yeb ?_|(refine X_id ?_;first|refine Yaf ?_|refine Yag ?_|refine Ya0 ?_|refine Ybi ?_|refine Yao (fun _ hS _ => ?_))|refine Yep ?_|refine Yab ?_|refine Yco ?_)
    have hS : St W F [own 93 2 nb nc (nmV u.names),chR c f b T (Nt t) X'] _ := hS.took
    have hS := (hS.toBag (a := nb) (cs := nmV u.names) fun _ h => h.row).chAdd
    exact ⟨_,fun y hy => List.mem_append_right _ (hX' y hy),hS,a2,q2,nb,nc,rfl,hq2,hrow.right,.mem (List.mem_append_left _ (List.mem_cons_self ..))⟩
   ·replace hS := hS.plus hS'
    clear hS';have hk' : ¬ u.st.kind = 1 := hk
    simp only [if_neg hk'] at hl
    rw [hl];repeat (first|refine Yeb ?_|(refine X_id ?_;first|refine Yaf ?_|refine Yag ?_|refine Ya0 ?_|refine Ybi ?_|refine Yao (fun _ hS _ => ?_))|refine Yep ?_|refine Yab ?_|refine Yco ?_)
    exact ⟨X',hX',hS.took,by decide,u.no,u.nd,a2,q2,none,0,0,_,rfl⟩
 ·replace hS := hS.plus hS'
  clear hS';rw [Zwo hbad];repeat (first|refine Yeb ?_|(refine X_id ?_;first|refine Yaf ?_|refine Yag ?_|refine Ya0 ?_|refine Ybj ?_|refine Ybm ?_|refine Yao (fun _ hS _ => ?_))|refine Yet ?_|refine Yab ?_|refine Yap ?_|refine Yco ?_)
  exact ⟨X,fun _ h => h,hS.took,by decide,0,⟨⟨0,0,0,0⟩,[]⟩,none,0,none,0,0,_,rfl⟩
end
theorem Z4q (a b : List UInt8) (W : World) : Calls Tryz.prog 95 #[.string (str a),.string (str b)] W (Ret fun v w => v = .int .i64 (Lib.compareBytes a b) ∧ St W noF [] w) := by
 refine (Tryz.strings_Compare (str a) (str b) W).mono ?_
 rintro e w ⟨rfl,rfl⟩
 exact ⟨_,rfl,rfl,St.start _⟩
theorem Z63 (x : Nm) (s : List UInt8) (W : World) : Calls Tryz.prog 94 #[.agg (List.toArray [.string (str x.1),.int .i64 x.2]),.string (str s)] W (Ret fun v w => v = .int .i64 (Lib.compareBytes x.1 s) ∧ St W noF [] w) := by
 have hS := St.start W
 have hc := fun W => Z4q x.1 s W
 refine Zab Tryz.func94 rfl Tryz.ntmps94 rfl ?_
 repeat (first|refine Yeb ?_|(refine X_id ?_;first|(refine Zac 95 rfl rfl rfl rfl rfl hS (hc _) ?_;rintro _ _ rfl hS)|refine Yaf ?_|refine Yag ?_|refine Yan ?_|refine Yaq ?_|refine Yba (fun _ _ hS _ => ?_))|refine Yep ?_|refine Yed ?_)
 exact ⟨rfl,hS.drops⟩
theorem Zyv {i k m : Nat} (h : i + k ≤ 9223372036854775807) (hm : m = (i + k) / 2) : IntKind.i64.wrap (ishr IntKind.u64 (IntKind.u64.wrap ((i : Int) + (k : Int))) (Int.toNat 1)) = (m : Int) := by
 have h1 : IntKind.u64.wrap ((i : Int) + (k : Int)) = ((i + k : Nat) : Int) := by
  unfold IntKind.wrap
  simp only [IntKind.bits,IntKind.signed]
  simp
  omega
 rw [h1,show Int.toNat 1 = 1 from rfl,Zz8 1 (by decide),hm];exact w64 (by omega) (by omega)
def PosN (s : List UInt8) (l : List Nm) (i : Nat) : Prop := i ≤ l.length ∧ (∀ j,j < i → ∀ y,l[j]? = some y → ltS y.1 s) ∧ ∀ j,i ≤ j → ∀ y,l[j]? = some y → ¬ ltS y.1 s
theorem Z0q (a : Option Addr) (l : List Nm) (c : Nat) (s : List UInt8) (W : World) (hr0 : Rd W (row a (nmV l))) (hl : l.length ≤ 1048576) (hm : l.Pairwise fun x y => ltS x.1 y.1) :
  Calls Tryz.prog 93 #[.slice a l.length c,.string (str s),.func (.func 94) #[] #[]] W (Ret fun v w => (∃ (i : Nat) (b : Bool),v = .tuple #[.int .i64 (i : Nat),.bool b] ∧ PosN s l i) ∧ St W noF [] w) := by
 have hr1 := hr0.ro
 have hmono : ∀ (i j : Nat) (x y : Nm),i < j → l[i]? = some x → l[j]? = some y → ltS y.1 s → ltS x.1 s := fun i j x y hij hx hy h => by
  obtain ⟨hi,hxe⟩ := List.getElem?_eq_some_iff.1 hx
  obtain ⟨hj,hye⟩ := List.getElem?_eq_some_iff.1 hy
  have := List.pairwise_iff_getElem.1 hm i j hi hj hij
  rw [hxe,hye] at this;exact Zot this h
 have hS := St.start W
 refine Zab Tryz.func93 rfl Tryz.ntmps93 rfl ?_
 repeat (first|refine Yeb ?_|refine Ye4 ?_|refine Yee ?_|refine Yab ?_)
 refine Zbq (α := Nat) (fun i => [(0,.slice a l.length c),(1,.string (str s)),(2,.func (.func 94) #[] #[]),(8,.int .i64 (l.length : Nat)),(9,.int .i64 (i : Nat))]) (fun i w => PosN s l i ∧ St W noF [] w) ?_ ?_
 ·refine Zaj (α := Nat × Nat) (fun z => [(0,.slice a l.length c),(1,.string (str s)),(2,.func (.func 94) #[] #[]),(8,.int .i64 (l.length : Nat)),(9,.int .i64 (z.1 : Nat)),(10,.int .i64 (z.2 : Nat))])
   (fun z w => z.1 ≤ z.2 ∧ z.2 ≤ l.length ∧ (∀ j,j < z.1 → ∀ y,l[j]? = some y → ltS y.1 s) ∧ (∀ j,z.2 ≤ j → ∀ y,l[j]? = some y → ¬ ltS y.1 s) ∧ St W noF [] w) (fun z => z.2 - z.1) (0,l.length) ⟨rfl,rfl,rfl,rfl,rfl,rfl,trivial⟩ ⟨Nat.zero_le _,Nat.le_refl _,fun j hj => absurd hj (by simp),fun j hj y hy => (by have := (List.getElem?_eq_some_iff.1 hy).1; simp only at hj; omega),hS⟩ ?_
  clear hS;rintro ⟨i,k⟩ w ⟨hik,hkl,h1,h2,hS2⟩
  simp only at hik hkl h1 h2 hS2
  by_cases hlt : i < k
  ·obtain ⟨m,hm2⟩ : ∃ m,m = (i + k) / 2 := ⟨_,rfl⟩
   have hx0 : l[m]? = some l[m] := List.getElem?_eq_getElem (by omega)
   generalize l[m] = x at hx0;have hr := hr1
   have hxs : ((nmV l).drop (m * 2)).take 2 = [.string (str x.1),.int .i64 x.2] := Zke hx0
   obtain ⟨xb,xo,rfl⟩ := (hr.rd hS2).base (by intro e; rw [e] at hxs; simp at hxs)
   have hS := hS2
   have hcm := fun W => Z63 x s W
   repeat (first|refine Yeb ?_|(refine X_id ?_;first|refine Yaf ?_|refine Yag ?_|refine Ya1 ?_|refine Yaw ?_|refine Yc0 ?_|refine Ycp ?_)|refine Yef ?_|refine Yab ?_)
   rw [Zyv (by omega) hm2];by_cases hq : ltS x.1 s
   ·have hq' : Lib.compareBytes x.1 s < 0 := hq
    repeat (first|refine Yaa ?_|refine Yaf ?_|refine Ybd ?_|refine Ybq ?_)
    refine Zdk (first := []) (captured := []) rfl rfl rfl rfl rfl (hcm _) ?_
    rintro _ w' ⟨rfl,hS'⟩
    replace hS := hS.plus hS';clear hS';repeat (first|refine Yeb ?_|refine Yaf ?_|refine Yag ?_|refine Ya1 ?_|refine Yaw ?_|refine Yad ?_|refine Yaj ?_|refine Yej ?_)
    refine Zae (z := (i,k)) (m + 1,k) ⟨rfl,rfl,rfl,rfl,rfl,rfl,trivial⟩ ⟨by dsimp only; omega,hkl,fun j hj y hy => ?_,h2,hS⟩ (by dsimp only; omega)
    by_cases hjm : j = m
    ·subst hjm; rw [hx0] at hy; cases hy; exact hq
    ·exact hmono j m y x (by simp only at hj; omega) hy hx0 hq
   ·have hq' : ¬ Lib.compareBytes x.1 s < 0 := hq
    repeat (first|refine Yaa ?_|refine Yaf ?_|refine Ybd ?_|refine Ybq ?_)
    refine Zdk (first := []) (captured := []) rfl rfl rfl rfl rfl (hcm _) ?_
    rintro _ w' ⟨rfl,hS'⟩
    replace hS := hS.plus hS';clear hS';repeat (first|refine Yeb ?_|refine Yfj ?_|refine Yad ?_|refine Yai ?_|refine Yej ?_)
    refine Zae (z := (i,k)) (i,m) ⟨rfl,rfl,rfl,rfl,rfl,rfl,trivial⟩ ⟨by dsimp only; omega,by dsimp only; omega,h1,fun j hj y hy hjs => ?_,hS⟩ (by dsimp only; omega)
    by_cases hjm : j = m
    ·subst hjm; rw [hx0] at hy; cases hy; exact hq hjs
    ·exact hq (hmono m j x y (by simp only at hj; omega) hx0 hy hjs)
  ·obtain rfl : i = k := by omega
   have hS := hS2
   repeat (first|refine Yeb ?_|refine Yaf ?_|refine Yaz ?_|refine Yeo ?_|refine Yeh ?_)
   exact Zbw i ⟨rfl,rfl,rfl,rfl,rfl,trivial⟩ ⟨⟨hkl,h1,h2⟩,hS⟩
 ·rintro i w ⟨hp,hS2⟩
  have hil := hp.1
  by_cases hlt : i < l.length
  ·have hx0 : l[i]? = some l[i] := List.getElem?_eq_getElem hlt
   generalize l[i] = x at hx0;have hr := hr1
   have hxs : ((nmV l).drop (i * 2)).take 2 = [.string (str x.1),.int .i64 x.2] := Zke hx0
   obtain ⟨xb,xo,rfl⟩ := (hr.rd hS2).base (by intro e; rw [e] at hxs; simp at hxs)
   have hcm := fun W => Z63 x s W
   have hS := hS2
   by_cases hq : Lib.compareBytes x.1 s = 0
   ·repeat (first|refine Yaa ?_|refine Yav ?_|refine Yaf ?_|refine Ya1 ?_|refine Ybd ?_|refine Ybq ?_|refine Yec ?_)
    refine Zdk (first := []) (captured := []) rfl rfl rfl rfl rfl (hcm _) ?_
    rintro _ w' ⟨rfl,hS'⟩
    replace hS := hS.plus hS';clear hS';repeat (first|refine Yes ?_|refine Yag ?_|refine Ya9 ?_|refine Ybg ?_|refine Yah ?_|refine Ye0 ?_)
    exact ⟨⟨i,_,rfl,hp⟩,hS⟩
   ·repeat (first|refine Yaa ?_|refine Yav ?_|refine Yaf ?_|refine Ya1 ?_|refine Ybd ?_|refine Ybq ?_|refine Yec ?_)
    refine Zdk (first := []) (captured := []) rfl rfl rfl rfl rfl (hcm _) ?_
    rintro _ w' ⟨rfl,hS'⟩
    replace hS := hS.plus hS';clear hS';repeat (first|refine Yes ?_|refine Yag ?_|refine Ya9 ?_|refine Ybh ?_|refine Yah ?_|refine Ye0 ?_)
    exact ⟨⟨i,_,rfl,hp⟩,hS⟩
  ·have hS := hS2
   repeat (first|refine Yev ?_|refine Yaf ?_|refine Yag ?_|refine Ya7 ?_|refine Yaz ?_|refine Yep ?_|refine Ye0 ?_)
   exact ⟨⟨i,_,rfl,hp⟩,hS⟩
theorem Zzt (l : List Nm) (i : Nat) : nmV (l.take i) = (nmV l).take (i * 2) := by
 induction l generalizing i with
 | nil => simp [nmV]
 | cons x l ih =>
  cases i with
  | zero => simp [nmV]
  | succ i =>
   rw [List.take_succ_cons];have := ih i
   simp only [nmV,List.flatMap_cons,nmC] at this ⊢
   rw [this,show (i + 1) * 2 = i * 2 + 1 + 1 by omega]
   simp
theorem Zsa (l : List Nm) (i : Nat) : nmV (l.drop i) = (nmV l).drop (i * 2) := by
 induction l generalizing i with
 | nil => simp [nmV]
 | cons x l ih =>
  cases i with
  | zero => simp [nmV]
  | succ i =>
   rw [List.drop_succ_cons];have := ih i
   simp only [nmV,List.flatMap_cons,nmC] at this ⊢
   rw [this,show (i + 1) * 2 = i * 2 + 1 + 1 by omega]
   simp
theorem St.swap1 {W : World} {F : Nat → Prop} {r s : Res} {rs : List Res} {w : World} (hS : St W F (r :: s :: rs) w) : St W F (s :: r :: rs) w := hS.imp fun _ h => h.swap
theorem Zfh {b j e c : Nat} (h : j < c) : Cr.sub (some ⟨b,0,none⟩) j e c = some ⟨b,j * e,none⟩ := by
 unfold Cr.sub
 rw [if_neg (by omega)];simp [Zbn]
theorem Ztq {cs r : List Value} {k : Nat} {u v p q : Value} (hk : k ≤ cs.length) : Zal (Zal (cs ++ u :: v :: r) (k + 2) (cs.drop k)) k [p,q] = cs.take k ++ [p,q] ++ cs.drop k ++ r := by
 have h1 : ((cs ++ u :: v :: r).take (k + 2)).length = k + 2 := by simp; omega
 have h2 : (cs ++ u :: v :: r).drop (k + 2 + (cs.drop k).length) = r := by
  rw [List.length_drop,show k + 2 + (cs.length - k) = cs.length + 2 by omega,List.drop_append,List.drop_of_length_le (by omega)]
  simp
 unfold Zal
 rw [h2];have h3 : (((cs ++ u :: v :: r).take (k + 2) ++ cs.drop k) ++ r).take k = cs.take k := by
  rw [List.append_assoc,List.take_append_of_le_length (by omega),List.take_take,Nat.min_eq_left (by omega),List.take_append_of_le_length hk]
 have h4 : (((cs ++ u :: v :: r).take (k + 2) ++ cs.drop k) ++ r).drop (k + [p,q].length) = cs.drop k ++ r := by
  rw [List.append_assoc,show k + [p,q].length = ((cs ++ u :: v :: r).take (k + 2)).length by rw [h1]; rfl,List.drop_left]
 rw [h3,h4]; simp
theorem Zto {A Z R D : List Value} {p q : Value} (hz : Z.length = D.length + 2) : Zal (Zal (A ++ Z ++ R) A.length [p,q]) (A.length + 2) D = A ++ [p,q] ++ D ++ R := by
 match Z,hz with
 | u :: v :: Z',hz =>
  have hz' : Z'.length = D.length := by simpa using hz
  have e1 : Zal (A ++ (u :: v :: Z') ++ R) A.length [p,q] = A ++ [p,q] ++ (Z' ++ R) := by
   rw [show A ++ (u :: v :: Z') ++ R = A ++ (u :: v :: (Z' ++ R)) by simp]
   unfold Zal
   rw [List.take_left,show A.length + [p,q].length = A.length + 2 from rfl,List.drop_append,List.drop_of_length_le (by omega)]
   simp
  rw [e1];have hl : A.length + 2 = (A ++ [p,q]).length := by simp
  unfold Zal
  rw [hl,List.take_left,List.drop_append,List.drop_of_length_le (by omega),← hz'];simp
theorem Z3f (a : Option Addr) (c : Nat) (l : List Nm) (i : Nat) (y : Nm) (vb : Nat) (W : World) (F : Nat → Prop) (hi : i ≤ l.length) (hlc : l.length ≤ c) (hl : l.length ≤ 1048576) (hS : St W F [own 93 2 a c (nmV l),own 93 2 (some ⟨vb,0,none⟩) 1 (nmC y)] W) :
  Calls Tryz.prog 96 #[.slice a l.length c,.int .i64 (i : Nat),.slice (some ⟨vb,0,none⟩) 1 1] W (Ret fun v w => ∃ a' c',v = .slice a' (l.length + 1) c' ∧ l.length + 1 ≤ c' ∧ St W F [own 93 2 a' c' (nmV (l.take i ++ [y] ++ l.drop i))] w) := by
 have hnl := Zkd l
 refine Zab Tryz.func96 rfl Tryz.ntmps96 rfl ?_
 repeat (first|refine Yeb ?_|refine Yeq ?_|refine Yec ?_|refine Yab ?_)
 refine X_yl (Zaq (l := i) (h := l.length) rfl rfl rfl rfl (.inl ⟨rfl,rfl⟩) (.inr ⟨_,_,rfl,by omega,by omega,by omega⟩)) rfl rfl ?_
 by_cases hil : i = l.length
 ·subst hil
  repeat (first|refine Yeb ?_|(refine X_id ?_;first|refine Yaf ?_|refine Yag ?_|refine Yat ?_|refine Ybg ?_|refine Ybh ?_)|refine Yfi ?_|refine Yab ?_)
  have hnw := (hS.rd (r := own 93 2 (some ⟨vb,0,none⟩) 1 (nmC y)) (by simp)).own_row
  refine Zas rfl rfl rfl rfl rfl hS hnl hlc hnw rfl (by simp [Value.oneCell',nmC]) (by omega) (by simp only [maxLen]; omega) (fun b' q' w hS hq' _ => ?_)
  repeat (first|refine Yeb ?_|refine Yag ?_|refine Yah ?_|refine Yeu ?_)
  refine ⟨b',q',rfl,hq',?_⟩
  rw [List.take_length,List.drop_length,List.append_nil,Zm0,show nmV [y] = nmC y by simp [nmV]]
  exact hS.took
 ·have hlt : i < l.length := by omega
  have hne : nmV l ≠ [] := fun e => by rw [e] at hnl; simp at hnl; omega
  have hdl : (nmV l).drop (i * 2) = nmV (l.drop i) := (Zsa l i).symm
  have h1d : ∀ u ∈ (nmV l).drop (i * 2),u.oneCell' = true := fun u hu => Zqn l u (List.mem_of_mem_drop hu)
  have h1y : ∀ u ∈ nmC y,u.oneCell' = true := fun u hu => Zqn [y] u (by simpa [nmV] using hu)
  have hfin : nmV (l.take i ++ [y] ++ l.drop i) = (nmV l).take (i * 2) ++ [.string (str y.1),.int .i64 y.2] ++ (nmV l).drop (i * 2) := by
   rw [Zm0,Zm0,Zzt,Zsa]; simp [nmV,nmC]
  by_cases hroom : l.length + 1 ≤ c
  ·obtain ⟨b,cells,rfl,hcl,hct,hcm,hS⟩ := hS.openOwn hne
   have hS := hS.sel [false,true]
   obtain ⟨vb',vl,hvb,hvl,hvt,_,hS⟩ := hS.openOwn (by simp [nmC])
   obtain rfl : vb = vb' := by injection hvb with hvb; injection hvb
   obtain rfl : vl = nmC y := by rw [← hvt,List.take_of_length_le (by rw [hvl]; simp [nmC])]
   have hnev := hS.ptsNe
   repeat (first|refine Yeb ?_|(refine X_id ?_;first|refine Yaf ?_|refine Yag ?_|refine Yat ?_|refine Ydi ?_|refine Ybh ?_|refine Ybr ?_|refine Yaw ?_)|refine Yen ?_|refine Yab ?_)
   refine X_yl (Zaq (l := 0) (h := l.length + 1) rfl rfl rfl rfl (.inr ⟨_,_,rfl,by omega,by omega,by omega⟩) (.inl ⟨rfl,rfl⟩)) rfl rfl ?_
   rw [Zfh (show 0 < c by omega)]
   simp only [Nat.zero_mul,Nat.sub_zero]
   repeat (first|refine Yeb ?_|refine Yer ?_|refine Yec ?_|refine Yab ?_)
   refine X_yl (Zaq (l := i + 1) (h := l.length + 1) rfl rfl rfl rfl (.inl ⟨rfl,rfl⟩) (.inr ⟨_,_,rfl,by omega,by omega,by omega⟩)) rfl rfl ?_
   rw [Zfh (show i + 1 < c by omega)]
   repeat (first|refine Yaa ?_)
   refine Znx rfl rfl rfl (EOver.run (T := 93) hnev hS.get (hS.swap1.get) (by intro e; rw [e] at hcl; simp at hcl; omega)) rfl rfl ?_
   obtain ⟨u,v,r,hcr⟩ : ∃ u v r,cells = nmV l ++ u :: v :: r := by
    have h1 := List.take_append_drop (nmV l).length cells
    rw [hct] at h1;have h2 : (cells.drop (nmV l).length).length = (c - l.length) * 2 := by rw [List.length_drop,hcl,hnl]; omega
    match hh : cells.drop (nmV l).length with
    | [] => rw [hh] at h2; simp at h2; omega
    | [_] => rw [hh] at h2; simp at h2; omega
    | u :: v :: r => exact ⟨u,v,r,by rw [← hh,h1]⟩
   have hS : St W F [pts b (.cells cells.toArray 93 (0,0)),pts vb (.cells (nmC y).toArray 93 (0,0))] _ := hS.swap1
   repeat (first|refine Yeb ?_|refine Ybo ?_|refine Yae ?_|refine Yaj ?_|refine Yab ?_)
   refine Zao (.s 0 (.s 1 (.s 2 (.s 3 (.s 4 (.s 5 (.s 6 (.s 7 (.h 8 .nil .no))))))))) mixed (by kernel_rfl) rfl ?_
   have hS := hS.drew
   repeat (first|(refine Zaf ?_;first|refine Ya6 ?_|refine Ycl ?_))
   refine Zai rfl rfl (fun _ => Zaq (l := i + 1) (h := l.length + 1) rfl rfl rfl rfl (.inl ⟨rfl,rfl⟩) (.inr ⟨_,_,rfl,by omega,by omega,by omega⟩)) rfl rfl ?_
   rw [Zfh (show i + 1 < c by omega)]
   repeat (first|(refine Zaf ?_;first|refine Ya6 ?_))
   refine Zai rfl rfl (fun _ => Zaq (l := i) (h := l.length + 1) rfl rfl rfl rfl (.inl ⟨rfl,rfl⟩) (.inr ⟨_,_,rfl,by omega,by omega,by omega⟩)) rfl rfl ?_
   rw [Zfh (show i < c by omega)]
   repeat (first|(refine Zaf ?_;first|refine Yax ?_))
   have hrd := (hS.rd (List.mem_cons_self ..)).mono (r' := row (some ⟨b,i * 2,none⟩) ((nmV l).drop (i * 2))) (by
    refine fun g hg => ⟨g,.inr ⟨b,i * 2,cells.toArray,_,(0,0),rfl,hg,fun j v hv => ?_⟩,fun _ _ e => e⟩
    rw [List.getElem?_drop] at hv;rw [hcr];simp only [List.getElem?_toArray]
    rw [List.getElem?_append_left (List.getElem?_eq_some_iff.1 hv).1];exact hv)
   refine Zn0 rfl rfl rfl rfl rfl hS hrd (by rw [List.length_drop,hnl]; omega) h1d (by rw [List.length_drop,hnl,hcl]; omega) (fun w hS => ?_)
   repeat (first|refine Yaa ?_|refine Yaf ?_|refine Yec ?_|refine Yab ?_|(refine Zaf ?_;first|refine Ya2 ?_)|(refine Zad ?_;first|refine Yay ?_))
   refine X_yl (Zaq (l := i) (h := l.length + 1) rfl rfl rfl rfl (.inl ⟨rfl,rfl⟩) (.inr ⟨_,_,rfl,by omega,by omega,by omega⟩)) rfl rfl ?_
   rw [Zfh (show i < c by omega)]
   repeat (first|refine Yaa ?_|refine Yaf ?_)
   have hvd := (hS.rd (r := pts vb (.cells (nmC y).toArray 93 (0,0))) (by simp)).mono (r' := row (some ⟨vb,0,none⟩) (nmC y)) fun g hg => ⟨g,.inr ⟨vb,0,_,_,(0,0),rfl,hg,fun j v hv => by simpa using hv⟩,fun _ _ e => e⟩
   have hsl : (Zal cells ((i + 1) * 2) ((nmV l).drop (i * 2))).length = cells.length := Zck (by rw [List.length_drop,hnl,hcl]; omega)
   refine Zn0 rfl rfl rfl rfl rfl hS hvd (by simp [nmC]; omega) h1y (by rw [hsl,hcl]; simp [nmC]; omega) (fun w hS => ?_)
   repeat (first|refine Yeb ?_|refine Yeq ?_|refine Yep ?_|refine Yeu ?_)
   refine ⟨_,_,rfl,by omega,?_⟩
   have hS : St W F [pts b (.cells (Zal (Zal cells ((i + 1) * 2) ((nmV l).drop (i * 2))) (i * 2) (nmC y)).toArray 93 (0,0))] _ := hS.took
   have hin : Zal (Zal cells ((i + 1) * 2) ((nmV l).drop (i * 2))) (i * 2) (nmC y) = nmV (l.take i ++ [y] ++ l.drop i) ++ r := by
    rw [hfin,hcr,show (i + 1) * 2 = i * 2 + 2 by omega]
    exact Ztq (by omega)
   rw [hin] at hS;refine hS.head fun g hg => Zbi (c := c) (l := nmV (l.take i ++ [y] ++ l.drop i) ++ r) ?_ hcm List.take_left g hg
   rw [← hin,Zck (by rw [hsl,hcl]; simp [nmC]; omega),hsl,hcl]
  ·obtain ⟨b,hab⟩ := St.ownBase hS hne
   subst hab
   repeat (first|refine Yeb ?_|(refine X_id ?_;first|refine Yaf ?_|refine Yag ?_|refine Yat ?_|refine Ydi ?_|refine Ybh ?_|refine Ybx ?_|refine Yaw ?_)|refine Yfi ?_|refine Yab ?_)
   refine X_yl (Zaq (l := 0) (h := i) rfl rfl rfl rfl (.inr ⟨_,_,rfl,by omega,by omega,by omega⟩) (.inl ⟨rfl,rfl⟩)) rfl rfl ?_
   rw [Zfh (show 0 < c by omega)]
   simp only [Nat.zero_mul,Nat.sub_zero]
   repeat (first|refine Yaa ?_|refine Yaf ?_|refine Yaw ?_|refine Ybv ?_)
   rw [show ((l.length : Int) + ((1 : Nat) : Int) - (i : Int)) = ((l.length + 1 - i : Nat) : Int) by omega]
   have hrd0 := ((hS.rd (List.mem_cons_self ..)).own_row.sub (l := 0) (h := i) (e := 2) (c := c) (by omega) (Nat.zero_le _))
   rw [Zfh (show 0 < c by omega)] at hrd0
   simp only [Nat.zero_mul,Nat.sub_zero,List.drop_zero] at hrd0
   refine Zk9 (n := i) (m := l.length + 1 - i) rfl rfl rfl rfl rfl hS hrd0 (by rw [List.length_take,hnl]; omega) (by omega) (by omega) (by decide) (by omega) (by simp only [maxLen]; omega) (fun g c' zs w hzs hS hc' => ?_)
   rw [show i + (l.length + 1 - i) = l.length + 1 by omega] at hc' ⊢
   have hAl : ((nmV l).take (i * 2)).length = i * 2 := by rw [List.length_take,hnl]; omega
   have hDl : ((nmV l).drop (i * 2)).length = (l.length - i) * 2 := by rw [List.length_drop,hnl]; omega
   obtain ⟨g',cells,hg',hcl,hct,hcm,hS⟩ := St.openOwn hS (by
    intro e
    have := congrArg List.length e
    rw [List.length_append,hAl,hzs] at this;simp only [List.length_nil] at this; omega)
   obtain rfl : g = g' := by injection hg' with h; injection h
   obtain ⟨R,hcr⟩ : ∃ R,cells = (nmV l).take (i * 2) ++ zs ++ R := ⟨_,by
    have h1 := List.take_append_drop ((nmV l).take (i * 2) ++ zs).length cells
    rw [hct] at h1; exact h1.symm⟩
   repeat (first|refine Yeb ?_|refine Yeq ?_|refine Yec ?_|refine Yab ?_)
   refine X_yl (Zaq (l := i) (h := l.length + 1) rfl rfl rfl rfl (.inl ⟨rfl,rfl⟩) (.inr ⟨_,_,rfl,by omega,by omega,by omega⟩)) rfl rfl ?_
   rw [Zfh (show i < c' by omega)]
   repeat (first|refine Yaa ?_|refine Yaf ?_)
   have hvd := (hS.rd (r := own 93 2 (some ⟨vb,0,none⟩) 1 (nmC y)) (by simp)).own_row
   refine Zn0 rfl rfl rfl rfl rfl hS hvd (by simp [nmC]; omega) h1y (by rw [hcl]; simp [nmC]; omega) (fun w hS => ?_)
   repeat (first|refine Yac ?_|refine Yae ?_|refine Yab ?_)
   refine Zao (.s 0 (.s 1 (.s 2 (.s 3 (.s 4 (.s 5 (.s 6 (.s 7 (.h 8 .nil .no))))))))) mixed (by kernel_rfl) rfl ?_
   have hS := hS.drew
   repeat (first|(refine Zaf ?_;first|refine Ya6 ?_|refine Ycl ?_))
   refine Zai rfl rfl (fun _ => Zaq (l := i + 1) (h := l.length + 1) rfl rfl rfl rfl (.inl ⟨rfl,rfl⟩) (.inr ⟨_,_,rfl,by omega,by omega,by omega⟩)) rfl rfl ?_
   rw [Zfh (show i + 1 < c' by omega)]
   repeat (first|(refine Zaf ?_;first|refine Ya6 ?_))
   refine Zai rfl rfl (fun _ => Zaq (l := i) (h := l.length) rfl rfl rfl rfl (.inl ⟨rfl,rfl⟩) (.inr ⟨_,_,rfl,by omega,by omega,by omega⟩)) rfl rfl ?_
   rw [Zfh (show i < c by omega)]
   repeat (first|(refine Zaf ?_;first|refine Yax ?_))
   have hrd := (hS.rd (r := own 93 2 (some ⟨b,0,none⟩) c (nmV l)) (by simp)).own_row.sub (l := i) (h := l.length) (e := 2) (c := c) hlc (by omega)
   rw [Zfh (show i < c by omega),List.take_of_length_le (by rw [hDl]; exact Nat.le_refl _)] at hrd
   have hsl : (Zal cells (i * 2) (nmC y)).length = cells.length := Zck (by rw [hcl]; simp [nmC]; omega)
   refine Zn0 rfl rfl rfl rfl rfl hS hrd (by rw [hDl]; omega) h1d (by rw [hsl,hcl,hDl]; omega) (fun w hS => ?_)
   repeat (first|refine Yeb ?_|refine Yeq ?_|refine Yep ?_|refine Yeu ?_|(refine Zaf ?_;first|refine Ya2 ?_)|(refine Zad ?_;first|refine Yay ?_))
   refine ⟨_,_,rfl,hc',?_⟩
   have hS : St W F [pts g (.cells (Zal (Zal cells (i * 2) (nmC y)) ((i + 1) * 2) ((nmV l).drop (i * 2))).toArray 93 (0,0))] _ := hS.took
   have hin : Zal (Zal cells (i * 2) (nmC y)) ((i + 1) * 2) ((nmV l).drop (i * 2)) = nmV (l.take i ++ [y] ++ l.drop i) ++ R := by
    have := Zto (A := (nmV l).take (i * 2)) (Z := zs) (R := R) (D := (nmV l).drop (i * 2)) (p := .string (str y.1)) (q := .int .i64 y.2) (by rw [hzs,hDl]; omega)
    rw [hAl] at this;rw [hfin,hcr,show (i + 1) * 2 = i * 2 + 2 by omega]
    exact this
   rw [hin] at hS;refine hS.head fun g hg => Zbi (c := c') (l := nmV (l.take i ++ [y] ++ l.drop i) ++ R) ?_ hcm List.take_left g hg
   rw [← hin,Zck (by rw [hsl,hcl,hDl]; omega),hsl,hcl]
end Cr
namespace Cr
open Go
set_option maxHeartbeats 64000000

def insN (y : Nm) : List Nm → List Nm
 | [] => [y]
 | x :: l => if ltS x.1 y.1 then x :: insN y l else y :: x :: l
def insT (k : Tn) : List Tn → List Tn
 | [] => [k]
 | x :: l => if ltS x.nm k.nm then x :: insT k l else k :: x :: l
theorem Zim (k : Tn) : ∀ l : List Tn,(insT k l).map (fun k => ((k.nm,k.no) : Nm)) = insN (k.nm,k.no) (l.map fun k => (k.nm,k.no))
 | [] => rfl
 | x :: l => by
  rw [insT,List.map_cons,insN];by_cases h : ltS x.nm k.nm
  ·rw [if_pos h,if_pos h,List.map_cons,Zim k l]
  ·rw [if_neg h,if_neg h]; rfl
theorem Zso {y : Nm} : ∀ {l : List Nm} {i : Nat},i ≤ l.length → (∀ j,j < i → ∀ x,l[j]? = some x → ltS x.1 y.1) → (∀ j,i ≤ j → ∀ x,l[j]? = some x → ¬ ltS x.1 y.1) → l.take i ++ [y] ++ l.drop i = insN y l
 | [],i,_,_,_ => by simp [insN]
 | x :: l,0,_,_,h2 => by
  rw [insN,if_neg (h2 0 (Nat.le_refl _) x rfl)]; rfl
 | x :: l,i + 1,hi,h1,h2 => by
  rw [insN,if_pos (h1 0 (by omega) x rfl)];have ih := Zso (y := y) (l := l) (i := i) (by simpa using hi) (fun j hj z hz => h1 (j + 1) (by omega) z (by simpa using hz)) (fun j hj z hz => h2 (j + 1) (by omega) z (by simpa using hz))
  rw [← ih]; simp
theorem Zfo (y : Nm) : ∀ l : List Nm,(insN y l).Perm (y :: l)
 | [] => .refl _
 | x :: l => by
  rw [insN]
  split
  ·exact ((Zfo y l).cons x).trans (.swap _ _ _)
  ·exact .refl _
theorem Zen (y : Tn) : ∀ l : List Tn,(insT y l).Perm (y :: l)
 | [] => .refl _
 | x :: l => by
  rw [insT]
  split
  ·exact ((Zen y l).cons x).trans (.swap _ _ _)
  ·exact .refl _
theorem Z3g {y : Nm} {l : List Nm} (h : NmOk l) (hl : l.length + 1 ≤ 1024) (hy : y.1.length ≤ 64 ∧ 0 ≤ y.2 ∧ y.2 ≤ 1000000) : NmOk (insN y l) := by
 have hp := Zfo y l
 refine ⟨by rw [hp.length_eq]; simpa using hl,fun x hx => ?_⟩
 rcases List.mem_cons.1 (hp.mem_iff.1 hx) with rfl | hx
 ·exact hy
 ·exact h.2 x hx
theorem Zoz {k : Tn} : ∀ {l : List Tn},(l.Pairwise fun a b => ltS a.nm b.nm) → (∀ x ∈ l,x.nm ≠ k.nm) → (insT k l).Pairwise fun a b => ltS a.nm b.nm
 | [],_,_ => by simp [insT]
 | x :: l,h,hk => by
  rw [List.pairwise_cons] at h;rw [insT]
  split
  ·rename_i hx
   rw [List.pairwise_cons];refine ⟨fun z hz => ?_,Zoz h.2 fun z hz => hk z (List.mem_cons_of_mem _ hz)⟩
   rcases List.mem_cons.1 ((Zen k l).mem_iff.1 hz) with rfl | hz
   ·exact hx
   ·exact h.1 z hz
  ·rename_i hx
   have hkx := Zzx hx (hk x (List.mem_cons_self ..))
   rw [List.pairwise_cons];refine ⟨fun z hz => ?_,List.pairwise_cons.2 h⟩
   rcases List.mem_cons.1 hz with rfl | hz
   ·exact hkx
   ·exact Zot hkx (h.1 z hz)
theorem Zt6 {u : Tn} {n : Nat} (h : TnOk n u) : u.names.Pairwise fun x y => ltS x.1 y.1 := List.pairwise_map.2 h.rise
end Cr
