/-
  Layer 8 (tree): a fresh disk,log,table,tree; a change begun on it.
  Layer 11 (chain): a fresh table for a chain.
  Layer 9 (table): the keys of a table (only that they are told).
  Layer 9 (table): the first key that is none.
  Layer 9 (table): the keys of a table.
  Layer 9 (table): names,Keys.
  Layer 9 (table): Keys.
  Layer 11 (chain): what a chain tells: Len,Head.
  DERIVED: THE SHELF's CONTRACTS AT THIS DUMP,IN PLAIN WORDS (tools/lay-plain.mjs out of 'TryzShelf.lean',which tools/lay-shelf.mjs wrote): THE SAME DECLARATIONS UNDER THE SAME NAMES: 'import','namespace','open','def','theorem' AND NOTHING ELSE: no command of the shelf's: FOR A HAND-IN. Each laying: the table of numbers ('.._ren') and one theorem,a field a fact of the dump's own or the kernel's comparison; each contract: ONE APPLICATION.
  Layer 11 (chain): a record's key.
  Layer 11 (chain): what lies behind a chain's mark.
  Layer 11 (chain): Get.
  Layer 11 (chain): All tells as many.
  Layer 11 (chain) in plain words: the tree of a change whose one table holds so many records,one behind the other; one more record put,a record told.
  The document's answers of layer 11: Key,of one digit.
  Layer 11 (chain) in plain words,0: a record's value.
  Bytes that a text was turned into,appended to: their block bears a frozen range behind its end.
  The document's answers of layer 11: a record's value,as bytes.
  Layer 11 (chain) in plain words,2: one more record put into the table; a record's value told.
  Layer 11 (chain): a record's value read.
-/
import Derived.Test.YtfoigjehifalpaaGreatDoorCda13
import Derived.Test.YtfoigjehifalpaaGreatDoorCda9
import Derived.Test.YtfoigjehifalpaaGreatDoorCda11
import Derived.Shelf.Strings.Builder1
import Derived.Shelf.Strings.Builder2
import Derived.Shelf.Small.Strs
import Derived.Shelf.Strings.BuilderF
import Derived.Shelf.Strconv.Atoi
import Derived.Shelf.Strconv.Itoa0
import Derived.Shelf.Strconv.Itoa1
import Derived.Shelf.LaysM
import Derived.Shelf.Strconv.Itoa2
import Derived.Shelf.Strconv.Itoa3
import Derived.Shelf.Strconv.AtoiErrFast
import Derived.Shelf.Strconv.ParseIntEmpty
import Derived.Shelf.Strconv.AtoiFail
import Derived.Shelf.Strconv.Clone
import Derived.Shelf.Strconv.SyntaxError
import Derived.Shelf.LaysC
import Derived.Shelf.Strconv.ToError
import Derived.Shelf.Strconv.Lower
import Derived.Shelf.Strconv.ParseUint10
import Derived.Shelf.Strconv.ParseUint10Empty
import Derived.Shelf.Strconv.ParseUint10Any
import Derived.Shelf.Strconv.ParseInt10
import Derived.Shelf.Strconv.AtoiLong
import Derived.Shelf.Strconv.AtoiInnerAll
import Derived.Shelf.Strconv.RangeError
import Derived.Shelf.Strconv.ToErrorRange
import Derived.Shelf.Strconv.AtoiAll
import Derived.Shelf.Strconv.ErrVarAll
import Derived.Shelf.Sort.Plain
import Derived.Shelf.Strings.Prefix
import Derived.Shelf.Bits.Mul64
import Derived.Shelf.Strings.Repeat
import Derived.Shelf.Slices.In.SortNone
import Derived.Test.YtfoigjehifalpaaGreatDoorProg
import Derived.Test.YtfoigjehifalpaaGreatDoorCda8
import Derived.Test.YtfoigjehifalpaaGreatDoorCda3
import Derived.Test.YtfoigjehifalpaaGreatDoorCda2
import Derived.Test.YtfoigjehifalpaaGreatDoorCda5
import Derived.Test.YtfoigjehifalpaaGreatDoorCda4
namespace Cr
open Go Go.Proofs
set_option maxRecDepth 100000
set_option maxHeartbeats 8000000
attribute [local irreducible] Calls

theorem Z46 (W : World) : Calls Tryz.prog 41 #[.int .i64 10] W (Ret fun v w => ∃ r,v = .pointer (some ⟨r,0,none⟩) ∧ St W noF [] w) := by
 have hS := St.start W
 refine Zab Tryz.func41 rfl Tryz.ntmps41 rfl ?_
 repeat (first|refine Yd7 ?_|refine Yaf ?_|refine Yag ?_|refine Ybn ?_|refine Ya9 (fun _ _ hS _ => ?_)|refine Yek ?_|refine Yd9 ?_)
 exact ⟨_,rfl,hS.drops⟩
theorem Z08 (rd fs : List Int) : Ztw rd fs (Zbf 112) 60 = ⟨0,Zbf 112,0,false⟩ := by kernel_rfl
theorem Z1q (rd fs : List Int) (W : World) (hG : Gl W noF rd fs) (hL : Lg W noF) : Calls Tryz.prog 6 #[] W (Ret fun v w => ∃ (q lp tp f r : Nat),v = .tuple #[.pointer (some ⟨q,0,none⟩),.pointer (some ⟨f,0,none⟩),.pointer (some ⟨r,0,none⟩)] ∧ St W noF [pts f (.cells (List.toArray [.pointer (some ⟨tp,0,none⟩),.int .i64 0]) 107 (0,0)),itab rd fs tp lp q 60 2 10 40 (Za5 10)] w) := by
 have hS := St.start W
 refine Zab Tryz.func6 rfl Tryz.ntmps6 rfl ?_
 repeat (first|refine Yd7 ?_|refine Yag ?_|refine Yd8 ?_|refine Yab ?_)
 refine Zaa _ rfl rfl rfl rfl rfl (new_ 112 _ (by omega) (by omega)) ?_
 rintro _ w ⟨q,rfl,hS'⟩
 replace hS := hS.plus hS'
 clear hS'
 repeat (first|refine Yd7 ?_|refine Ye3 ?_|refine Yd8 ?_|refine Yab ?_)
 have hopen := Z5c q (Zbf 112) 60 rd fs
 rw [Z08] at hopen
 obtain ⟨_,hc,hr,hw,hbk⟩ := hS.call [true]
 refine Zaa _ rfl rfl rfl rfl rfl (hopen _ _ (hG.mono hw) (by simp [Zbf]) hc) ?_
 rintro _ w (⟨h,_⟩ | ⟨_,lp,rfl,hS⟩)
 ·exact absurd rfl h
 replace hS := hbk hS
 clear hc hr hw hbk hopen
 replace hS : St W noF [qlog lp q 60 0 (List.replicate 51 zero64)] w := St.newLog (k := 51) (by omega) hS
 repeat (first|refine Yd7 ?_|refine Ye3 ?_|refine Yd8 ?_|refine Yab ?_)
 obtain ⟨_,hc,hr,hw,hbk⟩ := hS.call [true]
 refine Zaa _ rfl rfl rfl rfl rfl (Z1r lp q 60 0 10 40 _ rd fs _ _ (hG.mono hw) (by simp) (by omega) (by omega) (by omega) (by omega) (by simp [last]) (Zn2 (by omega)) (fun i hi => Zn2 (by omega)) hc) ?_
 rintro _ w ⟨tp,rfl,hS⟩
 replace hS := hbk hS
 clear hc hr hw hbk
 repeat (first|refine Yd7 ?_|refine Ye3 ?_|refine Yd8 ?_|refine Yab ?_)
 obtain ⟨_,hc,hr,hw,hbk⟩ := hS.call [true]
 refine Zaa _ rfl rfl rfl rfl rfl (Zu0 _ _ (hG.mono hw) (hL.mono hw) (by simp [last]) hc) ?_
 rintro _ w ⟨f,rfl,hS⟩
 replace hS := hbk hS
 clear hc hr hw hbk
 repeat (first|refine Yen ?_|(refine X_id ?_;first|refine Yaf ?_|refine Yag ?_|refine Yay ?_|refine Ya4 ?_|refine Yba ?_)|refine Yei ?_|refine Yab ?_)
 refine Zaa _ rfl rfl rfl rfl rfl (Z46 _) ?_
 rintro _ w ⟨r,rfl,hS'⟩
 replace hS := hS.plus hS'
 clear hS'
 repeat (first|refine Yd7 ?_|refine Yag ?_|refine Yah ?_|refine Yab ?_|refine Ydq ?_)
 exact ⟨q,lp,tp,f,r,rfl,hS.took⟩
end Cr
namespace Cr
open Go Go.Proofs
set_option maxRecDepth 100000
set_option maxHeartbeats 8000000
attribute [local irreducible] Calls

def logN : List UInt8 := [108,111,103]
abbrev tbC (c : Nat) (name : List UInt8) : Obj := .cells (List.toArray [.pointer (some ⟨c,0,none⟩),.string (str name)]) 114 (0,0)
theorem Z1i : nameOk logN := by decide
theorem tof_ (c : Nat) (name : List UInt8) (hn : nameOk name) (W : World) : Calls Tryz.prog 8 #[.pointer (some ⟨c,0,none⟩),.string (str name)] W (Ret fun v w => ∃ tb,v = .tuple #[.pointer (some ⟨tb,0,none⟩),.int .i64 0] ∧ St W noF [pts tb (tbC c name)] w) := by
 have hS := St.start W
 have hN := fun W => Zye name W
 simp only [decide_eq_true hn] at hN
 refine Zab Tryz.func8 rfl Tryz.ntmps8 rfl ?_
 repeat (first|refine Yd7 ?_|refine Yaf ?_|refine Yag ?_|refine Ybq ?_|refine Yet ?_|refine Yab ?_)
 refine Zaa _ rfl rfl rfl rfl rfl (hN _) ?_
 rintro _ w ⟨rfl,hS'⟩
 replace hS := hS.plus hS'
 clear hS'
 repeat (first|refine Yd7 ?_|(refine X_id ?_;first|refine Yaf ?_|refine Yag ?_|refine Ybc ?_|refine Ybn ?_|refine Ya9 (fun _ _ hS _ => ?_))|refine Yew ?_|refine Yab ?_|refine Yav ?_|refine Ybo ?_)
 exact ⟨_,rfl,hS⟩
theorem Zsm (rd fs : List Int) (W : World) (hG : Gl W noF rd fs) (hL : Lg W noF) : Calls Tryz.prog 27 #[] W (Ret fun v w => ∃ (lp tp p f c tb : Nat),v = .tuple #[.pointer (some ⟨c,0,none⟩),.pointer (some ⟨tb,0,none⟩)] ∧
  St W noF [chR c f 0 (atT (Za5 10)) (Nt t0) [],pts tb (tbC c logN),pts f (.cells (List.toArray [.pointer (some ⟨tp,0,none⟩),.int .i64 0]) 107 (0,0)),itab rd fs tp lp p 60 2 10 40 (Za5 10)] w) := by
 have hS := St.start W
 refine Zab Tryz.func27 rfl Tryz.ntmps27 rfl ?_
 repeat (first|refine Yd7 ?_|refine Yag ?_|refine Yd8 ?_|refine Yab ?_)
 refine Zaa _ rfl rfl rfl rfl rfl (Z1q rd fs _ (hG.mono fun _ hr => (hr.rd hS).ro) (hL.at_ hS)) ?_
 rintro _ w ⟨q,lp,tp,f,r,rfl,hS'⟩
 replace hS := hS.plus hS'
 clear hS'
 repeat (first|refine Yd7 ?_|refine Ye3 ?_|refine Yd8 ?_|refine Yab ?_)
 refine Zaa _ rfl rfl rfl rfl rfl (Z0q (T := atT (Za5 10)) _ (hS.rd (r := pts f (.cells (List.toArray [.pointer (some ⟨tp,0,none⟩),.int .i64 0]) 107 (0,0))) (by simp))) ?_
 rintro _ w ⟨c,rfl,hS'⟩
 replace hS := hS.plus hS'
 clear hS'
 repeat (first|refine Yd7 ?_|refine Yel ?_|refine Yd8 ?_|refine Yab ?_)
 refine Zaa _ rfl rfl rfl rfl rfl (tof_ c logN Z1i _) ?_
 rintro _ w ⟨tb,rfl,hS'⟩
 replace hS := hS.plus hS'
 clear hS'
 repeat (first|refine Yd7 ?_|refine Ye3 ?_|refine Yek ?_|refine Yev ?_)
 have hN : Nt t0 = atT (Za5 10) := funext Z5z
 rw [hN]
 exact ⟨lp,tp,q,f,c,tb,rfl,hS.took⟩
theorem Zuz {rd fs : List Int} {tp lp p j m n nb f : Nat} {b : Int} {T : Tb} {W : World} {F : Nat → Prop} (h : Ro W F (pts f (.cells (List.toArray [.pointer (some ⟨tp,0,none⟩),.int .i64 b]) 107 (0,0)))) (hI : Ro W F (itab rd fs tp lp p j m n nb T)) : TreeRo W F f tp n b (atT T) := ⟨h,Zh8 hI⟩
end Cr
namespace Cr
open Go Go.Proofs
set_option maxRecDepth 100000
set_option maxHeartbeats 8000000
attribute [local irreducible] Calls

section
variable {c f tp n : Nat} {b : Int} {T : Int → Option Nd} {t : Tn}
theorem Z3a (ht : TreeOk n t) {X : List RowD} (s : List UInt8) (cb pb kb : Nat) (z1 z2 z3 : Nat × Nat) (pa : Option Addr) (p : List (List UInt8)) (pc : Nat) (k : Int) (W : World) (F : Nat → Prop) (hT : TreeRo W F f tp n b T) (hG : Lg W F) (hp : Ro W F (row pa (strV p))) (hpl : p.length ≤ 1000)
  (h1 : Ro W F (pts cb (.cells (List.toArray [.pointer (some ⟨c,0,none⟩)]) 28 z1))) (h2 : Ro W F (pts pb (.cells (List.toArray [.slice pa p.length pc]) 40 z2))) (h3 : Ro W F (pts kb (.cells (List.toArray [.int .i64 k]) 3 z3))) (hS : St W F [chR c f b T (Nt t) X] W) :
  Calls Tryz.prog 181 #[.string (str s),.pointer (some ⟨cb,0,none⟩),.pointer (some ⟨pb,0,none⟩),.pointer (some ⟨kb,0,none⟩)] W (Ret fun v w => v = .bool (decide (Zb7 t (p ++ [s]) ≠ k)) ∧ ∃ X',(∀ x ∈ X,x ∈ X') ∧ St W F [chR c f b T (Nt t) X'] w) := by
 have hc := h1
 refine Zab Tryz.func181 rfl Tryz.ntmps181 rfl ?_
 repeat (first|refine Yd7 ?_|refine Yag ?_|refine Yd8 ?_|refine Yab ?_)
 refine Zao (.s 0 (.s 1 (.s 3 (.s 7 (.h 2 (.h 4 (.h 5 (.h 6 (.s 8 (.s 9 .nil)) .no) .no) .no) (.h 4 (.h 2 (.h 5 (.h 6 (.s 8 (.s 9 .nil)) .no) .no) .no) .no)))))) mixed (by kernel_rfl) rfl ?_
 have hS := hS.drew
 have hq2 := (h2.rd hS).pts
 have hq3 := (h3.rd hS).pts
 repeat' (first|refine Zep ?_ ?_|refine Ybf (fun _ _ hS _ => ?_)|(refine Zad ?_;first|refine Ya2 ?_|refine Yc0 ?_|refine Yau ?_|refine Ycy ?_)|(refine Zac ?_;first|refine Yc1 ?_))
 ·refine Zaa _ rfl rfl rfl rfl rfl (Zqe pa p pc _ (hp.rd hS) (by omega)) ?_
  rintro _ w ⟨a1,c1,rfl,hc1,hS'⟩
  replace hS := hS.plus hS'
  clear hS'
  repeat (first|refine Ybf (fun _ _ hS _ => ?_)|(refine Zad ?_;first|refine Yau ?_)|(refine Zac ?_;first|refine Yc1 ?_))
  have hnw := (hS.rd (List.mem_cons_self ..)).own_row
  refine Zas rfl rfl rfl rfl rfl hS (by rw [Zef,Nat.mul_one]) hc1 hnw rfl (by simp [Value.oneCell']) (by omega) (by simp only [maxLen]; omega) (fun a2 c2 w hS hc2 _ => ?_)
  repeat (first|(refine Zad ?_;first|refine Yau ?_)|(refine Zac ?_;first|refine Yc1 ?_))
  obtain ⟨_,hcc,hr1,hw,hbk⟩ := hS.call [false,false,true]
  have hps : strV p ++ [Value.string (str s)] = strV (p ++ [s]) := by simp [strV]
  have hrow := hr1 _ (List.mem_cons_self ..)
  rw [hps] at hrow
  have hln : p.length + 1 = (p ++ [s]).length := by simp
  rw [hln]
  refine Zaa _ rfl rfl rfl rfl rfl (Zoe ht _ (p ++ [s]) _ _ _ (hT.mono hw) (hG.mono hw) hrow.own_row (by simp; omega) hcc) ?_
  rintro _ w ⟨rfl,X',hX',hS⟩
  replace hS := hbk hS
  clear hbk hw hcc hr1
  repeat (first|refine Yah ?_|refine Yd9 ?_|(refine Zad ?_;first|refine Yaz ?_|refine Ybk ?_|refine Zak rfl rfl (fun _ => Zmf rfl rfl rfl) rfl rfl ?_)|(refine Zac ?_;first|refine Yc1 ?_))
  exact ⟨rfl,X',hX',hS.took⟩
 ·refine Zaa _ rfl rfl rfl rfl rfl (Zqe pa p pc _ (hp.rd hS) (by omega)) ?_
  rintro _ w ⟨a1,c1,rfl,hc1,hS'⟩
  replace hS := hS.plus hS'
  clear hS'
  repeat (first|(refine Zad ?_;first|refine Yau ?_)|(refine Zac ?_;first|refine Yc1 ?_))
  have hnw := (hS.rd (List.mem_cons_of_mem _ (List.mem_cons_self ..))).own_row
  refine Zas rfl rfl rfl rfl rfl hS (by rw [Zef,Nat.mul_one]) hc1 hnw rfl (by simp [Value.oneCell']) (by omega) (by simp only [maxLen]; omega) (fun a2 c2 w hS hc2 _ => ?_)
  repeat (first|(refine Zad ?_;first|refine Yau ?_)|(refine Zac ?_;first|refine Yc1 ?_))
  obtain ⟨_,hcc,hr1,hw,hbk⟩ := hS.call [false,false,true]
  have hps : strV p ++ [Value.string (str s)] = strV (p ++ [s]) := by simp [strV]
  have hrow := hr1 _ (List.mem_cons_self ..)
  rw [hps] at hrow
  have hln : p.length + 1 = (p ++ [s]).length := by simp
  rw [hln]
  refine Zaa _ rfl rfl rfl rfl rfl (Zoe ht _ (p ++ [s]) _ _ _ (hT.mono hw) (hG.mono hw) hrow.own_row (by simp; omega) hcc) ?_
  rintro _ w ⟨rfl,X',hX',hS⟩
  replace hS := hbk hS
  clear hbk hw hcc hr1
  repeat (first|refine Yah ?_|refine Yd9 ?_|(refine Zad ?_;first|refine Yaz ?_|refine Ybk ?_|refine Zak rfl rfl (fun _ => Zmf rfl rfl rfl) rfl rfl ?_)|(refine Zac ?_;first|refine Yc1 ?_))
  exact ⟨rfl,X',hX',hS.took⟩
end
end Cr
namespace Cr
open Go Go.Proofs
set_option maxRecDepth 100000
set_option maxHeartbeats 8000000
attribute [local irreducible] Calls

section
variable {c f tp n : Nat} {b : Int} {T : Int → Option Nd} {t : Tn}
abbrev nmsF (cb pb kb : Nat) : Value := .func (.func 181) #[] #[.pointer (some ⟨cb,0,none⟩),.pointer (some ⟨pb,0,none⟩),.pointer (some ⟨kb,0,none⟩)]
theorem Z5i (ht : TreeOk n t) {X : List RowD} (a : Option Addr) (l : List (List UInt8)) (lc : Nat) (cb pb kb : Nat) (z1 z2 z3 : Nat × Nat) (pa : Option Addr) (p : List (List UInt8)) (pc : Nat) (k : Int) (W : World) (F : Nat → Prop) (hT : TreeRo W F f tp n b T) (hG : Lg W F) (hp : Ro W F (row pa (strV p))) (hpl : p.length ≤ 1000) (hl : Ro W F (row a (strV l))) (hll : l.length ≤ 1048576)
  (g1 : Ro W F (pts cb (.cells (List.toArray [.pointer (some ⟨c,0,none⟩)]) 28 z1))) (g2 : Ro W F (pts pb (.cells (List.toArray [.slice pa p.length pc]) 40 z2))) (g3 : Ro W F (pts kb (.cells (List.toArray [.int .i64 k]) 3 z3))) (hS : St W F [chR c f b T (Nt t) X] W) :
  Calls Tryz.prog 103 #[.slice a l.length lc,nmsF cb pb kb] W (Ret fun v w => (∃ X',(∀ x ∈ X,x ∈ X') ∧ St W F [chR c f b T (Nt t) X'] w) ∧ ((v = .int .i64 (-1) ∧ ∀ x ∈ l,Zb7 t (p ++ [x]) = k) ∨ ∃ i x,v = .int .i64 (i : Nat) ∧ l[i]? = some x ∧ Zb7 t (p ++ [x]) ≠ k ∧ ∀ j,j < i → ∀ y,l[j]? = some y → Zb7 t (p ++ [y]) = k)) := by
 refine Zab Tryz.func103 rfl Tryz.ntmps103 rfl ?_
 repeat (first|refine Yd7 ?_|refine Ye7 ?_|refine Yea ?_|refine Yab ?_)
 refine Zal (α := Nat × List RowD) (fun z => [(0,.slice a l.length lc),(1,nmsF cb pb kb),(7,.int .i64 (l.length : Nat)),(8,.int .i64 (z.1 : Nat))])
  (fun z w => z.1 ≤ l.length ∧ (∀ j,j < z.1 → ∀ y,l[j]? = some y → Zb7 t (p ++ [y]) = k) ∧ (∀ x ∈ X,x ∈ z.2) ∧ St W F [chR c f b T (Nt t) z.2] w) (fun z => l.length - z.1) (0,X) ⟨rfl,rfl,rfl,rfl,trivial⟩ ⟨Nat.zero_le _,fun j hj => absurd hj (by simp),fun _ h => h,hS⟩ ?_
 clear hS
 rintro ⟨i,X1⟩ w ⟨hi,hne,hX1,hS2⟩
 simp only at hi hne hX1 hS2
 by_cases hlt : i < l.length
 ·have hx0 : l[i]? = some l[i] := List.getElem?_eq_getElem hlt
  generalize l[i] = s at hx0
  have hr := hl
  have hx : (strV l)[i]? = some (.string (str s)) := by unfold strV; rw [List.getElem?_map,hx0]; rfl
  obtain ⟨xb,xo,rfl⟩ := (hr.rd hS2).base (by intro e; rw [e] at hx; simp at hx)
  have hS := hS2
  repeat (first|refine Yd7 ?_|refine Ye8 ?_|refine Yeb ?_|refine Yab ?_)
  obtain ⟨_,hcc,hr1,hw,hbk⟩ := hS.call [true]
  refine Zby (first := []) (captured := [.pointer (some ⟨cb,0,none⟩),.pointer (some ⟨pb,0,none⟩),.pointer (some ⟨kb,0,none⟩)]) rfl rfl rfl rfl rfl (Z3a ht s cb pb kb z1 z2 z3 pa p pc k _ _ (hT.mono hw) (hG.mono hw) (hw _ hp) hpl (hw _ g1) (hw _ g2) (hw _ g3) hcc) ?_
  rintro _ w ⟨rfl,X2,hX2,hS⟩
  replace hS := hbk hS
  clear hbk hw hcc hr1
  by_cases hk : Zb7 t (p ++ [s]) = k
  ·rw [decide_eq_false (fun h => h hk)]
   repeat (first|refine Yd7 ?_|refine Yec ?_|refine Yey ?_|refine Yef ?_)
   refine Zag (z := (i,X1)) (i + 1,X2) ⟨rfl,rfl,rfl,rfl,trivial⟩ ⟨hlt,fun j hj y hy => ?_,fun x hx => hX2 x (hX1 x hx),hS⟩ (by dsimp only; omega)
   by_cases hji : j = i
   ·subst hji; rw [hx0] at hy; cases hy; exact hk
   ·exact hne j (by omega) y hy
  ·rw [decide_eq_true hk]
   repeat (first|refine Yd7 ?_|refine Yel ?_|refine Yeo ?_|refine Yes ?_)
   exact ⟨⟨X2,fun x hx => hX2 x (hX1 x hx),hS⟩,.inr ⟨i,s,rfl,hx0,hk,hne⟩⟩
 ·obtain rfl : i = l.length := by omega
  have hS := hS2
  repeat (first|refine Yd7 ?_|refine Yag ?_|refine Ya3 ?_|refine Yeg ?_|refine Ye2 ?_)
  exact ⟨⟨X1,hX1,hS⟩,.inl ⟨rfl,fun x hx => (by
   obtain ⟨j,hj,he⟩ := List.mem_iff_getElem.1 hx
   exact hne j hj x (by rw [List.getElem?_eq_getElem hj,he]))⟩⟩
end
end Cr
namespace Cr
open Go Go.Proofs
set_option maxRecDepth 100000
set_option maxHeartbeats 8000000
attribute [local irreducible] Calls

def kpN (t : Tn) (p : List (List UInt8)) (k : Int) (l : List (List UInt8)) : List (List UInt8) := l.filter fun s => decide (Zb7 t (p ++ [s]) = k)
section
variable {c f tp n : Nat} {b : Int} {T : Int → Option Nd} {t : Tn}
theorem Z3y (ht : TreeOk n t) {X : List RowD} (a : Option Addr) (l : List (List UInt8)) (lc : Nat) (cb pb kb : Nat) (z1 z2 z3 : Nat × Nat) (pa : Option Addr) (p : List (List UInt8)) (pc : Nat) (k : Int) (W : World) (F : Nat → Prop) (hT : TreeRo W F f tp n b T) (hG : Lg W F) (hp : Ro W F (row pa (strV p))) (hpl : p.length ≤ 1000) (hlc : l.length ≤ lc) (hll : l.length ≤ 1048576)
  (g1 : Ro W F (pts cb (.cells (List.toArray [.pointer (some ⟨c,0,none⟩)]) 28 z1))) (g2 : Ro W F (pts pb (.cells (List.toArray [.slice pa p.length pc]) 40 z2))) (g3 : Ro W F (pts kb (.cells (List.toArray [.int .i64 k]) 3 z3))) (hS : St W F [own 9 1 a lc (strV l),chR c f b T (Nt t) X] W) :
  Calls Tryz.prog 180 #[.slice a l.length lc,nmsF cb pb kb] W (Ret fun v w => ∃ a' c' X',v = .slice a' (kpN t p k l).length c' ∧ (kpN t p k l).length ≤ c' ∧ (∀ x ∈ X,x ∈ X') ∧ St W F [own 9 1 a' c' (strV (kpN t p k l)),chR c f b T (Nt t) X'] w) := by
 have hnl : (strV l).length = l.length := Zef l
 refine Zab Tryz.func180 rfl Tryz.ntmps180 rfl ?_
 repeat (first|refine Yd7 ?_|refine Yel ?_|refine Yd8 ?_|refine Yab ?_)
 obtain ⟨_,hcc,hr1,hw,hbk⟩ := hS.call [false,true]
 refine Zaa _ rfl rfl rfl rfl rfl (Z5i ht a l lc cb pb kb z1 z2 z3 pa p pc k _ _ (hT.mono hw) (hG.mono hw) (hw _ hp) hpl (hr1 _ (List.mem_cons_self ..)).own_row hll (hw _ g1) (hw _ g2) (hw _ g3) hcc) ?_
 rintro v w ⟨⟨X1,hX1,hS⟩,hv⟩
 replace hS := hbk hS
 clear hbk hw hcc hr1
 rcases hv with ⟨rfl,hall⟩ | ⟨i,x,rfl,hx0,hxk,hne⟩
 ·have hkp : kpN t p k l = l := List.filter_eq_self.2 fun x hx => decide_eq_true (hall x hx)
  rw [hkp]
  repeat (first|refine Yd7 ?_|refine Yaf ?_|refine Yag ?_|refine Ybh ?_|refine Yeo ?_|refine Yep ?_)
  exact ⟨a,lc,X1,rfl,hlc,hX1,hS.took⟩
 ·have hil := (List.getElem?_eq_some_iff.1 hx0).1
  have hki : kpN t p k (l.take (i + 1)) = l.take i := by
   obtain ⟨_,hxe⟩ := List.getElem?_eq_some_iff.1 hx0
   unfold kpN
   rw [List.take_succ_eq_append_getElem hil,List.filter_append,List.filter_eq_self.2 fun y hy => ?_]
   ·rw [hxe]; simp [hxk]
   ·obtain ⟨j,hj,he⟩ := List.mem_iff_getElem.1 hy
    rw [List.length_take] at hj
    rw [List.getElem_take] at he
    exact decide_eq_true (hne j (by omega) y (by rw [List.getElem?_eq_getElem (by omega),he]))
  replace hS := hS.took (out := [own 9 1 a lc (strV l),chR c f b T (Nt t) X1])
  obtain ⟨bl,cells,rfl,hcl,hct,hcm,hS⟩ := St.openOwn hS (by intro e; rw [e] at hnl; simp at hnl; omega)
  rw [Nat.mul_one] at hcl
  rw [hnl] at hct
  repeat (first|refine Yd7 ?_|refine Yaf ?_|refine Yag ?_|refine Ybi ?_|refine Yax ?_|refine Yez ?_|refine Yab ?_)
  refine Zbt (α := Nat × List RowD) (fun z => [(0,.slice (some ⟨bl,0,none⟩) l.length lc),(5,.int .i64 (z.1 : Nat))]) (fun z w => z.1 < l.length ∧ z.1 = (kpN t p k l).length ∧ (∀ x ∈ X,x ∈ z.2) ∧ ∃ L : List Value,L.length = lc ∧ L.take z.1 = strV (kpN t p k l) ∧ St W F [pts bl (.cells L.toArray 9 (0,0)),chR c f b T (Nt t) z.2] w) ?_ ?_
  ·refine Zal (α := Nat × Nat × List RowD) (fun z => [(0,.slice (some ⟨bl,0,none⟩) l.length lc),(1,nmsF cb pb kb),(5,.int .i64 (z.1 : Nat)),(6,.int .i64 (z.2.1 : Nat))])
    (fun z w => z.2.1 ≤ l.length ∧ z.1 < z.2.1 ∧ z.1 = (kpN t p k (l.take z.2.1)).length ∧ (∀ x ∈ X,x ∈ z.2.2) ∧ ∃ L : List Value,L.length = lc ∧ L.take z.1 = strV (kpN t p k (l.take z.2.1)) ∧ (L.drop z.2.1).take (l.length - z.2.1) = (strV l).drop z.2.1 ∧ St W F [pts bl (.cells L.toArray 9 (0,0)),chR c f b T (Nt t) z.2.2] w)
    (fun z => l.length - z.2.1) (i,i + 1,X1) ⟨rfl,rfl,rfl,rfl,trivial⟩ ⟨by dsimp only; omega,by dsimp only; omega,by dsimp only; rw [hki,List.length_take]; omega,hX1,cells,hcl,?_,?_,hS⟩ ?_
   ·dsimp only
    rw [hki]
    have := congrArg (List.take i) hct
    rw [List.take_take,Nat.min_eq_left (by omega)] at this
    rw [this]; simp [strV]
   ·dsimp only
    have := congrArg (List.drop (i + 1)) hct
    rw [List.drop_take] at this
    exact this
   clear hS
   rintro ⟨m,j,X2⟩ w ⟨hj,hmj,hm,hX2,L,hL,ht2,hd,hS2⟩
   simp only at hj hmj hm hX2 ht2 hd hS2
   refine Z56 (σ' := [(0,.slice (some ⟨bl,0,none⟩) l.length lc),(1,nmsF cb pb kb),(5,.int .i64 (m : Nat)),(6,.int .i64 (j : Nat))]) ⟨rfl,rfl,rfl,rfl,trivial⟩ ?_
   by_cases hlt : j < l.length
   ·have hy0 : l[j]? = some l[j] := List.getElem?_eq_getElem hlt
    have htk : l.take (j + 1) = l.take j ++ [l[j]] := List.take_succ_eq_append_getElem hlt
    generalize l[j] = y at hy0 htk
    have hLj : L[j]? = some (.string (str y)) := by
     have := congrArg (fun q => q[0]?) hd
     simp only [List.getElem?_take,List.getElem?_drop,Nat.add_zero] at this
     rw [if_pos (by omega),Zms hy0] at this
     exact this
    have hd2 : (L.drop (j + 1)).take (l.length - (j + 1)) = (strV l).drop (j + 1) := by
     have := congrArg (List.drop 1) hd
     rw [List.drop_take,List.drop_drop,List.drop_drop] at this
     rw [show l.length - (j + 1) = l.length - j - 1 by omega]; exact this
    have hS := hS2
    have hr := (hS2.rd (List.mem_cons_self ..)).mono (r' := row (some ⟨bl,0,none⟩) L) (fun g hg => ⟨g,.inr ⟨bl,0,L.toArray,_,(0,0),rfl,hg,fun j v hv => by simpa using hv⟩,fun _ _ e => e⟩)
    have hx := hLj
    repeat (first|refine Yd7 ?_|(refine X_id ?_;first|refine Yaf ?_|refine Yag ?_|refine Yas ?_|refine Ya1 ?_|refine Ybb ?_|refine Ybw ?_)|refine Yeb ?_|refine Yab ?_)
    obtain ⟨_,hcc,hr1,hw,hbk⟩ := hS.call [false,true]
    refine Zby (first := []) (captured := [.pointer (some ⟨cb,0,none⟩),.pointer (some ⟨pb,0,none⟩),.pointer (some ⟨kb,0,none⟩)]) rfl rfl rfl rfl rfl (Z3a ht y cb pb kb z1 z2 z3 pa p pc k _ _ (hT.mono hw) (hG.mono hw) (hw _ hp) hpl (hw _ g1) (hw _ g2) (hw _ g3) hcc) ?_
    rintro _ w ⟨rfl,X3,hX3,hS⟩
    replace hS := hbk hS
    clear hbk hw hcc hr1
    by_cases hk : Zb7 t (p ++ [y]) = k
    ·have hre : kpN t p k (l.take (j + 1)) = kpN t p k (l.take j) ++ [y] := by unfold kpN; rw [htk,List.filter_append]; simp [hk]
     rw [decide_eq_false (fun h => h hk)]
     repeat (first|refine Yd7 ?_|refine Yaf ?_|refine Ybr ?_|refine Ybb ?_|refine Yeh ?_|refine Yab ?_)
     replace hS := hS.pick [1,0]
     rw [show adr (some ⟨bl,0,none⟩) (((m : Nat) : Int).toNat * 1) = ⟨bl,m,none⟩ by simp [adr]]
     refine Zen rfl rfl rfl rfl (by simp [Value.oneCell']) rfl hS (by simp; omega) (fun w hS _ => ?_)
     repeat (first|refine Yd7 ?_|refine Yem ?_|refine Yad ?_|refine Yef ?_)
     have hs1 : (Zai L m [.string (str y)]).length = L.length := Zbe (by simp; omega)
     refine Zag (z := (m,j,X2)) (m + 1,j + 1,X3) ⟨rfl,rfl,rfl,rfl,trivial⟩ ⟨hlt,by dsimp only; omega,by rw [hre,List.length_append,← hm]; rfl,fun x hx => hX3 x (hX2 x hx),Zai L m [.string (str y)],by rw [hs1,hL],?_,?_,hS.took⟩ (by dsimp only; omega)
     ·rw [hre,show strV (kpN t p k (l.take j) ++ [y]) = strV (kpN t p k (l.take j)) ++ [.string (str y)] by simp [strV],← ht2]
      unfold Zai
      rw [List.take_append_of_le_length (by simp; omega),List.take_of_length_le (by simp; omega)]
     ·rw [← hd2]
      unfold Zai
      dsimp only
      rw [List.append_assoc,List.drop_append,List.drop_of_length_le (by simp; omega),List.nil_append,List.drop_append,List.drop_of_length_le (by simp; omega),List.nil_append,List.drop_drop]
      congr 2
      simp; omega
    ·have hre : kpN t p k (l.take (j + 1)) = kpN t p k (l.take j) := by unfold kpN; rw [htk,List.filter_append]; simp [hk]
     rw [decide_eq_true hk]
     repeat (first|refine Yd7 ?_|refine Yaf ?_|refine Yag ?_|refine Ybc ?_|refine Yax ?_|refine Yey ?_|refine Yef ?_)
     exact Zag (z := (m,j,X2)) (m,j + 1,X3) ⟨rfl,rfl,rfl,rfl,trivial⟩ ⟨hlt,by dsimp only; omega,by rw [hre]; exact hm,fun x hx => hX3 x (hX2 x hx),L,hL,by rw [hre]; exact ht2,hd2,hS.took⟩ (by dsimp only; omega)
   ·obtain rfl : j = l.length := by omega
    have hS := hS2
    rw [List.take_length] at hm ht2
    repeat (first|refine Yd7 ?_|refine Yaf ?_|refine Yas ?_|refine Ya3 ?_|refine Yej ?_|refine Yed ?_)
    exact Zbg (α := Nat × List RowD) (m,X2) ⟨rfl,rfl,trivial⟩ ⟨hmj,hm,hX2,L,hL,ht2,hS⟩
  ·rintro ⟨m,X2⟩ w ⟨hml,hm,hX2,L,hL,ht2,hS⟩
   simp only at hml hm hX2 ht2 hS ⊢
   repeat (first|refine Yaa ?_|refine Yaf ?_|refine Yd8 ?_)
   refine X_yl (Zaq (l := m) (h := l.length) rfl rfl rfl rfl (.inl ⟨rfl,rfl⟩) (.inr ⟨_,_,rfl,by omega,by omega,by omega⟩)) rfl rfl ?_
   rw [Zdz (show m < lc by omega)]
   repeat (first|refine Yaa ?_)
   refine Zta rfl rfl (by simp [Value.cells,Value.oneCell']) rfl hS (by omega) (fun w zs hzs hS => ?_)
   have hsl : (Zai L (m * 1) zs).length = L.length := Zbe (by rw [hzs]; omega)
   repeat (first|refine Yd7 ?_|refine Yaf ?_|refine Yd8 ?_|refine Yab ?_)
   refine X_yl (Zaq (l := 0) (h := m) rfl rfl rfl rfl (.inr ⟨_,_,rfl,by omega,by omega,by omega⟩) (.inl ⟨rfl,rfl⟩)) rfl rfl ?_
   rw [Zdz (show 0 < lc by omega)]
   simp only [Nat.zero_mul,Nat.sub_zero]
   repeat (first|refine Yd7 ?_|refine Yag ?_|refine Yah ?_|refine Yd9 ?_)
   refine ⟨some ⟨bl,0,none⟩,lc,X2,by rw [hm],by omega,hX2,?_⟩
   refine hS.head fun g hg => Za4 (c := lc) (l := Zai L (m * 1) zs) (by rw [hsl,hL,Nat.mul_one]) hcm ?_ g hg
   rw [Zef,← hm,← ht2,Nat.mul_one]
   unfold Zai
   rw [List.append_assoc,List.take_append_of_le_length (by rw [List.length_take]; omega),List.take_take,Nat.min_self]
end
end Cr
namespace Cr
open Go Go.Proofs
set_option maxRecDepth 100000
set_option maxHeartbeats 8000000
attribute [local irreducible] Calls

def Zfs (t : Tn) (p : List (List UInt8)) (k : Int) : List (List UInt8) × Int :=
 if Zb7 t p = -1 then ([],0) else if Zb7 t p ≠ 1 then ([],17) else if (lstR t p).2 ≠ 0 then ([],(lstR t p).2) else (kpN t p k (lstR t p).1,0)
section
variable {c f tp n : Nat} {b : Int} {T : Int → Option Nd} {t : Tn}
theorem Z0n (ht : TreeOk n t) {X : List RowD} (pa : Option Addr) (p : List (List UInt8)) (pc : Nat) (k : Int) (W : World) (F : Nat → Prop) (hT : TreeRo W F f tp n b T) (hG : Lg W F) (hp : Ro W F (row pa (strV p))) (hpl : p.length ≤ 1000) (hll : (lstR t p).1.length ≤ 1048576) (hS : St W F [chR c f b T (Nt t) X] W) :
  Calls Tryz.prog 121 #[.pointer (some ⟨c,0,none⟩),.int .i64 k,.slice pa p.length pc] W (Ret fun v w => ∃ X' a q,(∀ x ∈ X,x ∈ X') ∧ v = .tuple #[.slice a (Zfs t p k).1.length q,.int .i64 (Zfs t p k).2] ∧ (Zfs t p k).1.length ≤ q ∧ St W F [own 9 1 a q (strV (Zfs t p k).1),chR c f b T (Nt t) X'] w) := by
 unfold Zfs
 refine Zab Tryz.func121 rfl Tryz.ntmps121 rfl ?_
 repeat (first|refine Yd7 ?_|refine Yag ?_|refine Yap ?_|refine Ya9 (fun _ _ hS _ => ?_)|refine Yd8 ?_|refine Yab ?_)
 rename_i cb _ _ _ kb _ _ _ pb _ _
 obtain ⟨_,hcc,_,hw,hbk⟩ := hS.call [false,false,false,true]
 refine Zaa _ rfl rfl rfl rfl rfl (Zoe ht pa p pc _ _ (hT.mono hw) (hG.mono hw) (hw _ hp) (by omega) hcc) ?_
 rintro _ w ⟨rfl,X1,hX1,hS⟩
 replace hS := hbk hS
 clear hbk hw hcc
 obtain ⟨K,hK⟩ : ∃ K,K = Zb7 t p := ⟨_,rfl⟩
 rw [← hK]
 by_cases k1 : K = -1
 ·subst k1
  rw [if_pos rfl]
  repeat (first|refine Yd7 ?_|refine Yag ?_|refine Ybh ?_|refine Yeu ?_|refine Ye5 ?_)
  exact ⟨X1,none,0,hX1,rfl,Nat.le_refl _,(hS.took (out := [chR c f b T (Nt t) X1])).own_none _ _ _⟩
 rw [if_neg k1]
 by_cases k2 : K = 1
 case neg =>
  rw [if_pos k2]
  repeat (first|refine Yd7 ?_|refine Yag ?_|refine Ybi ?_|refine Yae ?_|refine Yad ?_|refine Yak ?_|refine Yah ?_|refine Yai ?_|refine Ye5 ?_)
  exact ⟨X1,none,0,hX1,rfl,Nat.le_refl _,(hS.took (out := [chR c f b T (Nt t) X1])).own_none _ _ _⟩
 subst k2
 rw [if_neg (fun h => h rfl)]
 repeat (first|refine Yd7 ?_|refine Yag ?_|refine Ybh ?_|refine Ybi ?_|refine Yap ?_|refine Yee ?_|refine Yef ?_)
 obtain ⟨_,hcc,_,hw,hbk⟩ := hS.call [true]
 refine Zaa _ rfl rfl rfl rfl rfl (Z5f ht pa p pc _ _ (hT.mono hw) (hG.mono hw) (hw _ hp) (by omega) hcc) ?_
 rintro _ w ⟨X2,a,q,hX2,rfl,hq,hS⟩
 replace hS := hbk hS
 clear hbk hw hcc
 obtain ⟨E,hE⟩ : ∃ E,E = (lstR t p).2 := ⟨_,rfl⟩
 rw [← hE]
 generalize (lstR t p).1 = l at hll hq hS ⊢
 by_cases e0 : E = 0
 case neg =>
  rw [if_pos e0]
  repeat (first|refine Yd7 ?_|refine Yfd ?_|refine Yeo ?_|refine Yab ?_|refine Yaq ?_|refine Ybo ?_)
  exact ⟨X2,none,0,fun x hx => hX2 x (hX1 x hx),rfl,Nat.le_refl _,(hS.took (out := [chR c f b T (Nt t) X2])).own_none _ _ _⟩
 subst e0
 rw [if_neg (fun h => h rfl)]
 repeat (first|refine Yd7 ?_|(refine X_id ?_;first|refine Yaf ?_|refine Yag ?_|refine Yay ?_|refine Yce ?_|refine Yba ?_)|refine Yei ?_|refine Yab ?_)
 obtain ⟨_,hcc,hr1,hw,hbk⟩ := hS.call [true,true]
 refine Zaa _ rfl rfl rfl rfl rfl (Z3y ht a l q cb pb kb (0,0) (0,0) (0,0) pa p pc k _ _ (hT.mono hw) (hG.mono hw) (hw _ hp) hpl hq hll (hr1 _ (by simp)) (hr1 _ (by simp)) (hr1 _ (by simp)) hcc) ?_
 rintro _ w ⟨a',c',X3,rfl,hc',hX3,hS⟩
 replace hS := hbk hS
 clear hbk hw hcc hr1
 repeat (first|refine Yd7 ?_|refine Yag ?_|refine Yah ?_|refine Yev ?_)
 exact ⟨X3,a',c',fun x hx => hX3 x (hX2 x (hX1 x hx)),rfl,hc',hS.took⟩
end
end Cr
namespace Cr
open Go Go.Proofs
set_option maxRecDepth 100000
set_option maxHeartbeats 8000000
attribute [local irreducible] Calls

section
variable {c f tp n : Nat} {b : Int} {T : Int → Option Nd} {t : Tn}
theorem Z1h (t : Tn) (p : List (List UInt8)) (ht : TreeOk n t) : (lstR t p).1.length ≤ 1048576 := by
 unfold lstR
 split
 ·simp
 ·rename_i x hg
  obtain ⟨_,u,_,hu,hxu⟩ := Zo6 ht hg
  have hlen : x.2.data.length ≤ 512 := by rw [hxu]; exact ht.len hu
  have hrl := Zqm x.2.data
  split
  ·simp; omega
  ·simp
theorem Zzn (ht : TreeOk n t) {X : List RowD} (tb : Nat) (name : List UInt8) (W : World) (F : Nat → Prop) (hT : TreeRo W F f tp n b T) (hG : Lg W F) (htb : Ro W F (pts tb (tbC c name))) (hS : St W F [chR c f b T (Nt t) X] W) :
  Calls Tryz.prog 71 #[.pointer (some ⟨tb,0,none⟩)] W (Ret fun v w => ∃ X' a q,(∀ x ∈ X,x ∈ X') ∧ v = .tuple #[.slice a (Zfs t [dbN,name] 0).1.length q,.int .i64 (Zfs t [dbN,name] 0).2] ∧ (Zfs t [dbN,name] 0).1.length ≤ q ∧ St W F [own 9 1 a q (strV (Zfs t [dbN,name] 0).1),chR c f b T (Nt t) X'] w) := by
 have hc := htb
 refine Zab Tryz.func71 rfl Tryz.ntmps71 rfl ?_
 repeat (first|refine Yd7 ?_|refine Yaf ?_|refine Yag ?_|refine Ybq ?_|refine Yei ?_|refine Yab ?_)
 refine Zao (.s 0 (.s 1 (.s 2 (.s 3 (.s 4 (.s 5 (.s 6 (.s 7 (.h 8 (.h 9 (.s 10 (.s 11 (.s 12 (.s 13 .nil)))) .no) .no))))))))) mixed (by kernel_rfl) rfl ?_
 have hS := hS.drew
 repeat (first|refine Ybf (fun _ _ hS _ => ?_)|(refine Zad ?_;first|refine Ya2 ?_|refine Ybp ?_|refine Ybe ?_|refine Yau ?_|refine Ycy ?_)|(refine Zac ?_;first|refine Ya0 ?_))
 obtain ⟨_,hcc,hr1,hw,hbk⟩ := hS.call [false,true]
 refine Zaa _ rfl rfl rfl rfl rfl (Z0n ht _ [dbN,name] _ 0 _ _ (hT.mono hw) (hG.mono hw) (hr1 _ (List.mem_cons_self ..)).own_row (by simp) (Z1h t _ ht) hcc) ?_
 rintro _ w ⟨X1,a,q,hX1,rfl,hq,hS⟩
 replace hS := hbk hS
 clear hbk hw hcc hr1
 repeat (first|refine Yah ?_|refine Yev ?_|(refine Zad ?_;first|refine Yaz ?_|refine Ybk ?_|refine Yct ?_)|(refine Zac ?_;first|refine Ya0 ?_))
 exact ⟨X1,a,q,hX1,rfl,hq,hS.took⟩
end
end Cr
namespace Cr
open Go Go.Proofs
set_option maxRecDepth 100000
set_option maxHeartbeats 8000000
attribute [local irreducible] Calls

abbrev chnC (n : Nat) (m : List UInt8) (tb : Nat) (ra : Option Addr) (rc : Nat) : Obj := .cells (List.toArray (.int .i64 (n : Nat) :: (bv m ++ [.pointer (some ⟨tb,0,none⟩),.slice ra n rc]))) 150 (0,0)
theorem Zy7 (x n : Nat) (m : List UInt8) (tb : Nat) (ra : Option Addr) (rc : Nat) (W : World) (hx : Rd W (pts x (chnC n m tb ra rc))) :
  Calls Tryz.prog 29 #[.pointer (some ⟨x,0,none⟩)] W (Ret fun v w => v = .int .i64 (n : Nat) ∧ W = w) := by
 have hc := hx.ro
 have hS := St.start W
 refine Zab Tryz.func29 rfl Tryz.ntmps29 rfl ?_
 repeat (first|refine Yd7 ?_|(refine X_id ?_;first|refine Yaf ?_|refine Yag ?_|refine Yat ?_|refine Yan ?_|refine Ybq ?_|refine Yb6 ?_)|refine Yew ?_|refine Yd9 ?_)
 exact ⟨rfl,rfl⟩
theorem Zy8 {x n : Nat} {m : List UInt8} {tb : Nat} {ra : Option Addr} {rc : Nat} {w : World} (h : w.heap[x]? = some (chnC n m tb ra rc)) : CellsAt w ⟨x,1,none⟩ (bv m) := fun j v hv => by
 have hj := (List.getElem?_eq_some_iff.1 hv).1
 have := CellsAt.of_block h (1 + j) v (by rw [Nat.add_comm 1 j,List.getElem?_cons_succ,List.getElem?_append_left hj]; exact hv)
 simp only [Addr.add] at this ⊢
 by_cases h0 : j = 0
 ·subst h0; simpa using this
 ·simpa [h0] using this
theorem Zs0 (x n : Nat) (m : List UInt8) (hm : m.length = 32) (tb : Nat) (ra : Option Addr) (rc : Nat) (W : World) (hx : Rd W (pts x (chnC n m tb ra rc))) :
  Calls Tryz.prog 30 #[.pointer (some ⟨x,0,none⟩)] W (Ret fun v w => v = .agg (bv m).toArray ∧ St W noF [] w) := by
 have hc := hx.ro
 have hS := St.start W
 have hm32 : LenO (bv m) 32 := ⟨by rw [Zaf]; exact hm⟩
 refine Zab Tryz.func30 rfl Tryz.ntmps30 rfl ?_
 repeat (first|refine Yd7 ?_|(refine X_id ?_;first|refine Yaf ?_|refine Yat ?_|refine Yan ?_|refine Ybq ?_|refine Yar (fun _ _ hS _ => ?_))|refine Yei ?_|refine Yab ?_)
 refine X_yl (Zcq rfl rfl (Zy8 (hc.rd hS).pts) (by rw [Zaf]; exact hm)) rfl rfl ?_
 repeat (first|refine Yd7 ?_|refine Yao (fun _ hS _ => ?_)|refine Yah ?_|refine Yab ?_|refine Ybv ?_)
 exact ⟨rfl,hS.drops⟩
end Cr
namespace Go.Proofs
open Go.Shelf
def Tryz.lays105_ren : Go.Shelf.Ren := ⟨fun | 105 => 66 | 212 => 115 | 99 => 116 | 165 => 117 | 166 => 118 | 170 => 119 | 169 => 120 | 263 => 174 | 264 => 175 | 206 => 176 | 240 => 177 | 241 => 178 | 276 => 220 | 277 => 221 | n => n,fun | 9 => 9 | 3 => 3 | 4 => 4 | 20 => 20 | 0 => 0 | 46 => 238 | 109 => 239 | 5 => 5 | 72 => 244 | 76 => 247 | 51 => 164 | 146 => 309 | 53 => 45 | 148 => 311 | 70 => 242 | 37 => 35 | 75 => 246 | 127 => 313 | 164 => 353 | 80 => 249 | n => n,fun | n => n⟩
theorem Tryz.lays105 : Go.Proofs.Lays.n105 Tryz.prog Tryz.lays105_ren := {
 mixed := by kernel_rfl
 f99 := Tryz.func116.trans (congrArg some (by kernel_rfl))
 f105 := Tryz.func66.trans (congrArg some (by kernel_rfl))
 f165 := Tryz.func117.trans (congrArg some (by kernel_rfl))
 f166 := Tryz.func118.trans (congrArg some (by kernel_rfl))
 f169 := Tryz.func120.trans (congrArg some (by kernel_rfl))
 f170 := Tryz.func119.trans (congrArg some (by kernel_rfl))
 f206 := Tryz.func176.trans (congrArg some (by kernel_rfl))
 f212 := Tryz.func115.trans (congrArg some (by kernel_rfl))
 f240 := Tryz.func177.trans (congrArg some (by kernel_rfl))
 f241 := Tryz.func178.trans (congrArg some (by kernel_rfl))
 f263 := Tryz.func174.trans (congrArg some (by kernel_rfl))
 f264 := Tryz.func175.trans (congrArg some (by kernel_rfl))
 f276 := Tryz.func220.trans (congrArg some (by kernel_rfl))
 f277 := Tryz.func221.trans (congrArg some (by kernel_rfl))
 t0 := Tryz.underlying0
 a0 := Tryz.isAgg0
 z0 := Tryz.sizeOf0
 v0 := Tryz.zeroValue0
 t3 := Tryz.underlying3
 a3 := Tryz.isAgg3
 z3 := Tryz.sizeOf3
 v3 := Tryz.zeroValue3
 t4 := Tryz.underlying4
 a4 := Tryz.isAgg4
 z4 := Tryz.sizeOf4
 v4 := Tryz.zeroValue4
 t5 := Tryz.underlying5
 a5 := Tryz.isAgg5
 z5 := Tryz.sizeOf5
 v5 := Tryz.zeroValue5
 t9 := Tryz.underlying9
 a9 := Tryz.isAgg9
 z9 := Tryz.sizeOf9
 v9 := Tryz.zeroValue9
 t20 := Tryz.underlying20
 a20 := Tryz.isAgg20
 z20 := Tryz.sizeOf20
 v20 := Tryz.zeroValue20
 t37 := Tryz.underlying35
 a37 := Tryz.isAgg35
 z37 := Tryz.sizeOf35
 v37 := Tryz.zeroValue35
 t46 := Tryz.underlying238
 a46 := Tryz.isAgg238
 z46 := Tryz.sizeOf238
 v46 := Tryz.zeroValue238
 t51 := Tryz.underlying164
 a51 := Tryz.isAgg164
 z51 := Tryz.sizeOf164
 v51 := Tryz.zeroValue164
 t53 := Tryz.underlying45
 a53 := Tryz.isAgg45
 z53 := Tryz.sizeOf45
 v53 := Tryz.zeroValue45
 t70 := Tryz.underlying242
 a70 := Tryz.isAgg242
 z70 := Tryz.sizeOf242
 v70 := Tryz.zeroValue242
 t72 := Tryz.underlying244
 a72 := Tryz.isAgg244
 z72 := Tryz.sizeOf244
 v72 := Tryz.zeroValue244
 t75 := Tryz.underlying246
 a75 := Tryz.isAgg246
 z75 := Tryz.sizeOf246
 v75 := Tryz.zeroValue246
 t76 := Tryz.underlying247
 a76 := Tryz.isAgg247
 z76 := Tryz.sizeOf247
 v76 := Tryz.zeroValue247
 t109 := Tryz.underlying239
 a109 := Tryz.isAgg239
 z109 := Tryz.sizeOf239
 v109 := Tryz.zeroValue239
 t127 := Tryz.underlying313
 a127 := Tryz.isAgg313
 z127 := Tryz.sizeOf313
 v127 := Tryz.zeroValue313
 t146 := Tryz.underlying309
 a146 := Tryz.isAgg309
 z146 := Tryz.sizeOf309
 v146 := Tryz.zeroValue309
 t148 := Tryz.underlying311
 a148 := Tryz.isAgg311
 z148 := Tryz.sizeOf311
 v148 := Tryz.zeroValue311
 t164 := Tryz.underlying353
 a164 := Tryz.isAgg353
 z164 := Tryz.sizeOf353
 v164 := Tryz.zeroValue353 }
theorem Tryz.Builder_Extra_105 : Builder.Extra Tryz.prog Tryz.lays105_ren := {
 sizeBuilder := by kernel_rfl
 liesBuilder := by kernel_rfl
 t5 := Tryz.underlying5
 a5 := Tryz.isAgg5
 z5 := Tryz.sizeOf5
 v5 := Tryz.zeroValue5
 infoByte := by kernel_rfl
 cellsByte := by kernel_rfl
 sizeByte := by kernel_rfl
 neB5 := by decide }
open Go.RowKit Go.Lib in
theorem Tryz.strings_Repeat (s : ByteArray) (c : Nat) (w : World) (hc : c ≤ 9223372036854775807) (hlen : s.size * c ≤ 140737488355328) :
  Calls Tryz.prog 66 #[.string s,.int .i64 c] w fun e w' => e = .returned (.string ⟨(Lib.repeatL s.data.toList c).toArray⟩) ∧ Below w.heap.size w w' := Any.strings_Repeat Tryz.lays105 Tryz.Builder_Extra_105 s c w hc hlen
end Go.Proofs
namespace Cr
open Go Go.Proofs
set_option maxRecDepth 100000
set_option maxHeartbeats 8000000
attribute [local irreducible] Calls

theorem Z44 (s : List UInt8) (c : Nat) (W : World) (hc : c ≤ 1000) (hs : s.length ≤ 1000) :
  Calls Tryz.prog 66 #[.string (str s),.int .i64 (c : Nat)] W (Ret fun v w => v = .string (str (Lib.repeatL s c)) ∧ St W noF [] w) := by
 have hsz : (str s).size = s.length := by simp [str,ByteArray.size]
 refine (Tryz.strings_Repeat (str s) c W (by omega) (by rw [hsz]; have := Nat.mul_le_mul hs hc; omega)).mono ?_
 rintro e w ⟨rfl,hb⟩
 exact ⟨_,rfl,rfl,(St.start W).below hb⟩
def keyN (n : Nat) : List UInt8 := 114 :: (Lib.repeatL [48] (6 - (Lib.itoa (n : Nat)).length) ++ Lib.itoa (n : Nat))
theorem Z5s (n : Nat) (W : World) (hG : Lg W noF) (hn : n ≤ 999999) (hl : (Lib.itoa (n : Nat)).length ≤ 6) :
  Calls Tryz.prog 22 #[.int .i64 (n : Nat)] W (Ret fun v w => v = .string (str (keyN n)) ∧ St W noF [] w) := by
 have hS := St.start W
 obtain ⟨d,hd⟩ : ∃ d,d = 6 - (Lib.itoa (n : Nat)).length := ⟨_,rfl⟩
 have hlen : (str (Lib.itoa (n : Nat))).size = (Lib.itoa (n : Nat)).length := by simp [str,ByteArray.size]
 have hi := fun W h => Z1m (n : Nat) W noF h (by omega) (by omega)
 unfold keyN
 rw [← hd]
 generalize Lib.itoa (n : Nat) = l at hl hd hlen hi ⊢
 refine Zab Tryz.func22 rfl Tryz.ntmps22 rfl ?_
 repeat (first|refine Yen ?_|(refine X_id ?_;first|refine Yaf ?_|refine Yag ?_|refine Ya4 ?_|refine Ya3 ?_|refine Ybt ?_)|refine Yei ?_|refine Yab ?_)
 refine Zaa _ rfl rfl rfl rfl rfl (hi _ (hG.at_ hS)) ?_
 rintro _ w ⟨rfl,hS'⟩
 replace hS := hS.plus hS'
 clear hS'
 repeat (first|refine Yd7 ?_|refine Yaf ?_|refine Yag ?_|refine Ycl ?_|refine Yb1 ?_|refine Yd8 ?_|refine Yab ?_)
 rw [show (6 : Int) - ((str l).size : Nat) = (d : Nat) by rw [hlen]; omega]
 refine Zaa _ rfl rfl rfl rfl rfl (Z44 [48] d _ (by omega) (by simp)) ?_
 rintro _ w ⟨rfl,hS'⟩
 replace hS := hS.plus hS'
 clear hS'
 have hz : (Lib.repeatL [48] d).length = d := by
  have := Lib.repeatL_length [48] d
  simpa using this
 repeat (first|refine Yd7 ?_|refine Yaf ?_|refine Yag ?_|refine Ydp ?_|refine Yah ?_|refine Yd9 ?_)
 exact ⟨rfl,hS⟩
end Cr
namespace Cr
open Go Go.Proofs
set_option maxRecDepth 100000
set_option maxHeartbeats 8000000
attribute [local irreducible] Calls

theorem Z35 {x n : Nat} {m : List UInt8} {tb : Nat} {ra : Option Addr} {rc : Nat} {w : World} (hm : m.length = 32) (h : w.heap[x]? = some (chnC n m tb ra rc)) {j : Nat} {v : Value} (hv : [Value.pointer (some ⟨tb,0,none⟩),.slice ra n rc][j]? = some v) : w.cell? ⟨x,33 + j,none⟩ = some v := by
 have hl : (bv m).length = 32 := by rw [Zaf]; exact hm
 have := CellsAt.of_block h (33 + j) v (by rw [show 33 + j = (32 + j) + 1 by omega,List.getElem?_cons_succ,List.getElem?_append_right (by omega),hl,Nat.add_sub_cancel_left]; exact hv)
 simp only [Addr.add] at this
 rw [if_neg (by omega)] at this
 simpa using this
theorem Zsx {x n : Nat} {m : List UInt8} {tb : Nat} {ra : Option Addr} {rc : Nat} {w : World} (hm : m.length = 32) (h : w.heap[x]? = some (chnC n m tb ra rc)) : w.cell? ⟨x,34,none⟩ = some (.slice ra n rc) := Z35 hm h (j := 1) rfl
end Cr
namespace Cr
open Go Go.Proofs
set_option maxRecDepth 100000
set_option maxHeartbeats 8000000
attribute [local irreducible] Calls

theorem Z37 (x n : Nat) (m : List UInt8) (hm : m.length = 32) (tb : Nat) (ra : Option Addr) (rc : Nat) (i : Int) (hi : i < 0 ∨ (n : Int) ≤ i) (W : World) (hx : Rd W (pts x (chnC n m tb ra rc))) :
  Calls Tryz.prog 33 #[.pointer (some ⟨x,0,none⟩),.int .i64 i] W (Ret fun v w => v = .tuple #[.slice none 0 0,.int .i64 7] ∧ W = w) := by
 have hc := hx.ro
 have hS := St.start W
 rcases hi with hi | hi
 ·refine Zab Tryz.func33 rfl Tryz.ntmps33 rfl ?_
  repeat (first|refine Yeq ?_|(refine X_id ?_;first|refine Yaf ?_|refine Yag ?_|refine Ybd ?_|refine Ya1 ?_|refine Ybq ?_)|refine Yer ?_|refine Ye5 ?_)
  exact ⟨rfl,rfl⟩
 ·by_cases h0 : i < 0
  ·refine Zab Tryz.func33 rfl Tryz.ntmps33 rfl ?_
   repeat (first|refine Yeq ?_|(refine X_id ?_;first|refine Yaf ?_|refine Yag ?_|refine Ybd ?_|refine Ya1 ?_|refine Ybq ?_)|refine Yer ?_|refine Ye5 ?_)
   exact ⟨rfl,rfl⟩
  ·refine Zab Tryz.func33 rfl Tryz.ntmps33 rfl ?_
   repeat (first|refine Yen ?_|(refine X_id ?_;first|refine Yaf ?_|refine Yag ?_|refine Yat ?_|refine Yan ?_|refine Ya4 ?_|refine Ya3 ?_|refine Yb7 ?_|refine Ybq ?_|refine Yb6 ?_)|refine Yer ?_|refine Ye5 ?_)
   exact ⟨rfl,rfl⟩
theorem Z38 (x n : Nat) (m : List UInt8) (hm : m.length = 32) (tb : Nat) (ra : Option Addr) (rc : Nat) (i : Nat) (hi : i < n) (vs : List Value) (a : Option Addr) (q : Nat) (s : List UInt8) (hv : vs[i]? = some (.slice a s.length q)) (W : World) (hn : n < 1000000) (hx : Rd W (pts x (chnC n m tb ra rc))) (h2 : Rd W (row ra vs)) (h3 : Rd W (bytes a s)) (hs : s.length ≤ 1048576) :
  Calls Tryz.prog 33 #[.pointer (some ⟨x,0,none⟩),.int .i64 (i : Nat)] W (Ret fun v w => ∃ a' q',v = .tuple #[.slice a' s.length q',.int .i64 0] ∧ s.length ≤ q' ∧ St W noF [own 5 1 a' q' (bv s)] w) := by
 have hc := hx.ro
 have hr := h2.ro
 have hb := h3.ro
 have hS := St.start W
 obtain ⟨xb,xo,rfl⟩ := h2.base (by intro e; rw [e] at hv; simp at hv)
 have hxx := hv
 refine Zab Tryz.func33 rfl Tryz.ntmps33 rfl ?_
 repeat (first|refine Yen ?_|(refine X_id ?_;first|refine Yaf ?_|refine Yag ?_|refine Yat ?_|refine Yan ?_|refine Ya4 ?_|refine Ya3 ?_|refine Yb9 ?_|refine Ybq ?_|refine Yb6 ?_)|refine Yez ?_|refine Yef ?_)
 refine X_yl (Zat rfl rfl (Zsx hm (hc.rd hS).pts)) rfl rfl ?_
 have hx := hxx
 repeat (first|refine Yaa ?_|refine Yaf ?_|refine Ybb ?_|refine Ybw ?_)
 refine Zaa _ rfl rfl rfl rfl rfl (Zdj a s.length q s _ (hb.rd hS) rfl (by omega)) ?_
 rintro _ w ⟨a',q',rfl,_,hq',hS'⟩
 replace hS := hS.plus hS'
 clear hS'
 repeat (first|refine Yd7 ?_|refine Yag ?_|refine Yah ?_|refine Yev ?_)
 exact ⟨a',q',rfl,hq',hS.took⟩
end Cr
namespace Cr
open Go Go.Proofs
set_option maxRecDepth 100000
set_option maxHeartbeats 8000000
attribute [local irreducible] Calls

theorem Z5t (x : Nat) (m : List UInt8) (hm : m.length = 32) (tb : Nat) (ra : Option Addr) (rc : Nat) (L : List Bs) (W : World) (hn : L.length ≤ 1000) (hl : ∀ y ∈ L,y.s.length ≤ 1048576) (hx0 : Ro W noF (pts x (chnC L.length m tb ra rc))) (hB : Bss W noF ra L) :
  Calls Tryz.prog 32 #[.pointer (some ⟨x,0,none⟩)] W (Ret fun v w => ∃ a q,v = .slice a L.length q ∧ St W noF [] w) := by
 have hc := hx0
 have hS := St.start W
 refine Zab Tryz.func32 rfl Tryz.ntmps32 rfl ?_
 repeat (first|refine Yd7 ?_|refine Yel ?_|refine Yd8 ?_|refine Yab ?_)
 refine Zaa _ rfl rfl rfl rfl rfl (Zy7 x L.length m tb ra rc _ (hc.rd hS)) ?_
 rintro _ _ ⟨rfl,rfl⟩
 repeat (first|refine Yd7 ?_|refine Yaf ?_|refine Yak ?_|refine Yab ?_)
 refine Zal (α := Nat × Option Addr × Nat × List Value) (fun z => [(0,.pointer (some ⟨x,0,none⟩)),(3,.slice z.2.1 z.1 z.2.2.1),(6,.int .i64 (L.length : Nat)),(7,.int .i64 (z.1 : Nat))])
  (fun z w => z.1 ≤ L.length ∧ z.1 ≤ z.2.2.1 ∧ z.2.2.2.length = z.1 ∧ St W noF [own 35 1 z.2.1 z.2.2.1 z.2.2.2] w) (fun z => L.length - z.1) (0,none,0,[]) ⟨rfl,rfl,rfl,rfl,trivial⟩ ⟨Nat.zero_le _,Nat.le_refl _,rfl,hS.own_none _ _ _⟩ ?_
 clear hS
 rintro ⟨i,a1,c1,vs⟩ w ⟨hi,hc1,hvs,hS⟩
 simp only at hi hc1 hvs hS ⊢
 by_cases hlt : i < L.length
 ·have hx0 : L[i]? = some L[i] := List.getElem?_eq_getElem hlt
  generalize L[i] = y at hx0
  have hym := List.mem_of_getElem? hx0
  have hyl := hl y hym
  have hr := hB.row
  have hb := hB.all y hym
  have hxx : (L.map Bs.val)[i]? = some (.slice y.a y.s.length y.c) := by simp [hx0,Bs.val]
  obtain ⟨ab,ao,rfl⟩ := (hr.rd hS).base (by intro e; rw [e] at hxx; simp at hxx)
  repeat (first|refine Yd7 ?_|(refine X_id ?_;first|refine Yaf ?_|refine Yag ?_|refine Yat ?_|refine Yan ?_|refine Ya1 ?_)|refine Yeb ?_|refine Yab ?_)
  refine X_yl (Zat rfl rfl (Zsx hm (hc.rd hS).pts)) rfl rfl ?_
  have hx := hxx
  repeat (first|refine Yaa ?_|refine Yaf ?_|refine Ybb ?_|refine Ybw ?_)
  refine Zaa _ rfl rfl rfl rfl rfl (Zdj y.a y.s.length y.c y.s _ (hb.rd hS) rfl (by omega)) ?_
  rintro _ w ⟨a',q',rfl,_,hq',hS'⟩
  replace hS := hS.plus hS'
  clear hS'
  repeat (first|refine Yaa ?_|refine Ybf (fun _ _ hS _ => ?_))
  have hnw := (hS.rd (List.mem_cons_self ..)).own_row
  refine Zas rfl rfl rfl rfl rfl hS (by rw [hvs,Nat.mul_one]) hc1 hnw rfl (by simp [Value.oneCell']) (by omega) (by simp only [maxLen]; omega) (fun b' q'' w hS hq'' _ => ?_)
  repeat (first|refine Yd7 ?_|refine Yem ?_|refine Yad ?_|refine Yef ?_)
  exact Zag (z := (i,a1,c1,vs)) (i + 1,b',q'',vs ++ [.slice a' y.s.length q']) ⟨rfl,rfl,rfl,rfl,trivial⟩ ⟨hlt,hq'',by rw [List.length_append,hvs]; rfl,hS.took⟩ (by dsimp only; omega)
 ·obtain rfl : i = L.length := by omega
  repeat (first|refine Yd7 ?_|refine Ye1 ?_|refine Yeg ?_|refine Ye2 ?_)
  exact ⟨a1,c1,rfl,hS.drops⟩
end Cr
namespace Cr
open Go Go.Proofs
set_option maxRecDepth 100000
set_option maxHeartbeats 4000000
attribute [local irreducible] Calls

def keyD (i : Nat) : List UInt8 := [114,48,48,48,48,48,UInt8.ofNat (48 + i)]
theorem Z3j {i : Nat} (h : i < 10) : keyN i = keyD i := by
 unfold keyN
 rw [Zdp,Lib.decDigits_one h]
 rfl
theorem Zvt : ∀ i,i < 10 → ∀ k,k < 10 → keyD i = keyD k → i = k := by decide +kernel
theorem Zse {i k : Nat} (hi : i < 10) (hk : k < 10) (h : keyD i = keyD k) : i = k := Zvt i hi k hk h
theorem Zym : ∀ i,i < 10 → ∀ k,k < 10 → i < k → ltS (keyD i) (keyD k) := by decide +kernel
theorem Z1l {i k : Nat} (hi : i < 10) (hk : k < 10) (h : i < k) : ltS (keyD i) (keyD k) := Zym i hi k hk h
theorem Zyl : ∀ i,i < 10 → nameOk (keyD i) := by decide +kernel
theorem Zqx {i : Nat} (h : i < 10) : nameOk (keyD i) := Zyl i h
def Zik (i : Nat) (v : Mv) : Tn := .mk (keyD i) ((3 + i : Nat) : Int) ⟨0,384,0,0⟩ (encM v) []
def Zcz : Nat → List Mv → List Tn
 | _,[] => []
 | i,v :: l => Zik i v :: Zcz (i + 1) l
def logT (vs : List Mv) : Tn := .mk logN 2 ⟨1,448,0,0⟩ [] (Zcz 0 vs)
def Zcm (vs : List Mv) : Tn := .mk [] 0 ⟨1,493,0,0⟩ [] [.mk dbN 1 ⟨1,448,0,0⟩ [] [logT vs]]
def trV : List Mv → Tn
 | [] => t0
 | v :: l => Zcm (v :: l)
theorem Zlz (v : Mv) : ∀ (l : List Mv) (i : Nat),Zcz i (l ++ [v]) = Zcz i l ++ [Zik (i + l.length) v]
 | [],i => rfl
 | x :: l,i => by
  rw [List.cons_append,Zcz,Zlz v l,Zcz,List.cons_append,List.length_cons,show i + 1 + l.length = i + (l.length + 1) by omega]
theorem Zoz (v : Mv) : ∀ (l : List Mv) (i k : Nat),i + l.length ≤ k → k < 10 → insT (Zik k v) (Zcz i l) = Zcz i l ++ [Zik k v]
 | [],i,k,_,_ => rfl
 | x :: l,i,k,h,hk => by
  rw [List.length_cons] at h
  have hlt : ltS (Zik i x).nm (Zik k v).nm := Z1l (by omega) hk (by omega)
  rw [Zcz,insT,if_pos hlt,Zoz v l (i + 1) k (by omega) hk,List.cons_append]
theorem Zew : ∀ (l : List Mv) (i k : Nat),i + l.length ≤ k → k < 10 → kidT (keyD k) (Zcz i l) = none
 | [],i,k,_,_ => rfl
 | x :: l,i,k,h,hk => by
  rw [List.length_cons] at h
  have hne : ¬ (Zik i x).nm = keyD k := fun e => by have := Zse (by omega) hk e; omega
  rw [Zcz,kidT,List.find?_cons_of_neg (by simpa using hne)]
  exact Zew l (i + 1) k (by omega) hk
theorem Zly : ∀ (l : List Mv) (i k : Nat) (v : Mv),i + l.length ≤ 10 → l[k]? = some v → kidT (keyD (i + k)) (Zcz i l) = some (Zik (i + k) v)
 | [],i,k,v,_,h => by simp at h
 | x :: l,i,0,v,h,hv => by
  obtain rfl : x = v := by simpa using hv
  rw [Zcz,kidT,List.find?_cons_of_pos (by simp [Zik,Tn.nm])]
  rfl
 | x :: l,i,k + 1,v,h,hv => by
  rw [List.length_cons] at h
  have hv' : l[k]? = some v := by simpa using hv
  have hk := (List.getElem?_eq_some_iff.1 hv').1
  have hne : ¬ (Zik i x).nm = keyD (i + (k + 1)) := fun e => by have := Zse (by omega) (by omega) e; omega
  rw [Zcz,kidT,List.find?_cons_of_neg (by simpa using hne),show i + (k + 1) = i + 1 + k by omega]
  exact Zly l (i + 1) k v (by omega) hv'
theorem Zlg : ∀ (l : List Mv) (i : Nat),subL (Zcz i l) = Zcz i l
 | [],_ => rfl
 | x :: l,i => by rw [Zcz,subL,Zlg l]; rfl
theorem Zl0 : ∀ (l : List Mv) (i k : Nat),(getA ((3 + k : Nat) : Int) ((Zcz i l).map ent)).isSome = decide (i ≤ k ∧ k < i + l.length)
 | [],i,k => by simp [Zcz,getA]
 | x :: l,i,k => by
  rw [Zcz,List.map_cons,Zd9]
  by_cases h : k = i
  ·subst h
   rw [if_pos (by rfl)]; simp
  ·rw [if_neg (by show ¬ ((3 + k : Nat) : Int) = ((3 + i : Nat) : Int); omega),Zl0 l (i + 1) k,List.length_cons]
   exact decide_eq_decide.2 (by omega)
theorem Zwc (vs : List Mv) : Zcd (Zcm vs) = ent (Zcm vs) :: ent (.mk dbN 1 ⟨1,448,0,0⟩ [] [logT vs]) :: ent (logT vs) :: (Zcz 0 vs).map ent := by
 have h1 : subT (logT vs) = logT vs :: subL (Zcz 0 vs) := Zd0 _
 have h2 : subT (Zcm vs) = Zcm vs :: .mk dbN 1 ⟨1,448,0,0⟩ [] [logT vs] :: (subT (logT vs) ++ []) ++ [] := rfl
 unfold Zcd
 rw [h2,h1,Zlg]
 simp
theorem Zke (vs : List Mv) (k : Nat) : (Nt (Zcm vs) (k : Int)).isSome = decide (k < 3 + vs.length) := by
 unfold Nt
 rw [Zwc]
 rcases k with _ | _ | _ | k
 ·simp [getA,ent,Zcm,Tn.no]; omega
 ·simp [getA,ent,Zcm,Tn.no]; omega
 ·simp [getA,ent,Zcm,logT,Tn.no]; omega
 ·rw [Zd9,if_neg (by show ¬ ((k + 1 + 1 + 1 : Nat) : Int) = 0; omega),Zd9,if_neg (by show ¬ ((k + 1 + 1 + 1 : Nat) : Int) = 1; omega),Zd9,if_neg (by show ¬ ((k + 1 + 1 + 1 : Nat) : Int) = 2; omega)]
  rw [show ((k + 1 + 1 + 1 : Nat) : Int) = ((3 + k : Nat) : Int) by omega,Zl0]
  exact decide_eq_decide.2 (by omega)
theorem Zt4 {vs : List Mv} (h : vs.length < 7) : Zij 10 (Nt (Zcm vs)) = some (3 + vs.length) :=
 Zgf (by omega) (by have := Zke vs (3 + vs.length); rw [decide_eq_false (by omega)] at this; simpa using this) fun j hj e => by
  have := Zke vs j
  rw [e,decide_eq_true hj] at this
  cases this
theorem Zt3 {vs : List Mv} (h : vs.length = 7) : Zij 10 (Nt (Zcm vs)) = none := Zl2 fun j hj e => by
 have := Zke vs j
 rw [e,decide_eq_true (by omega)] at this
 cases this
theorem Zki : ∀ {l : List Nm},(∀ x ∈ l,x.1.length ≤ 9 ∧ 0 ≤ x.2 ∧ x.2 ≤ 1000000) → (Za0 (l.map Ze1)).length ≤ 40 * l.length
 | [],_ => by simp [Za0]
 | x :: l,h => by
  obtain ⟨h1,h2,h3⟩ := h x (List.mem_cons_self ..)
  have ih := Zki (l := l) fun y hy => h y (List.mem_cons_of_mem _ hy)
  have h4 := Zex (n := (x.1.length : Nat)) (by omega) (by omega)
  have h5 := Zex h2 h3
  have e : (encM (Ze1 x)).length ≤ 40 := by
   rw [Ze1,Zbo,Za0,Za0,Za0,Zdb,Zfe]
   simp only [List.length_cons,List.length_append,List.length_nil]
   omega
  rw [List.map_cons,Za0,List.length_append,List.length_cons]; omega
theorem Zjp {l : List Nm} (h : ∀ x ∈ l,x.1.length ≤ 9 ∧ 0 ≤ x.2 ∧ x.2 ≤ 1000000) (hl : l.length ≤ 12) : ¬ 512 < (wrD l).length := by
 have := Zki h
 rw [wrD,dirM,Zbo]
 simp only [List.length_cons,List.length_append,List.length_nil]
 omega
theorem Zqw (vs : List Mv) : ∀ (i : Nat),(Zcz i vs).map (fun k => ((k.nm,k.no) : Nm)) = (List.range' i vs.length).map fun j => (keyD j,((3 + j : Nat) : Int)) := by
 induction vs with
 | nil => intro i; rfl
 | cons x l ih => intro i; rw [Zcz,List.map_cons,ih,List.length_cons,List.range'_succ,List.map_cons]; rfl
end Cr
namespace Cr
open Go Go.Proofs
set_option maxRecDepth 100000
set_option maxHeartbeats 8000000
attribute [local irreducible] Calls

def tenL : List UInt8 := [48,49,50,51,52,53,54,55,56,57]
theorem Zxr : ∀ d : Fin 10,(tenL.drop d.val).take (d.val + 1 - d.val) = [UInt8.ofNat (48 + d.val)] := by decide
theorem Zu3 {d : Nat} (h : d < 10) : (tenL.drop d).take (d + 1 - d) = [UInt8.ofNat (48 + d)] := Zxr ⟨d,h⟩
def keyQ (k : Nat) : Nat → Nat
 | 0 => k
 | _ + 1 => 0
def keyT (k : Nat) : Nat → List UInt8
 | 0 => []
 | i + 1 => List.replicate i 48 ++ [UInt8.ofNat (48 + k)]
theorem Z48 (k : Nat) (hk : k < 10) (W : World) : Calls Tryz.prog 23 #[.int .i64 (k : Nat)] W (Ret fun v w => v = .string (str (keyD k)) ∧ St W noF [] w) := by
 have hS := St.start W
 refine Zab Tryz.func23 rfl Tryz.ntmps23 rfl ?_
 repeat (first|refine Yen ?_|(refine X_id ?_;first|refine Yaf ?_|refine Yag ?_|refine Ya4 ?_|refine Ya3 ?_|refine Ybt ?_)|refine Yez ?_|refine Yab ?_)
 refine Zal (α := Nat) (fun i => [(0,.int .i64 (keyQ k i : Nat)),(3,.string (str (keyT k i))),(4,.int .i64 (i : Nat))])
  (fun i w => i ≤ 6 ∧ St W noF [] w) (fun i => 6 - i) 0 ⟨rfl,rfl,rfl,trivial⟩ ⟨Nat.zero_le _,hS⟩ ?_
 clear hS
 rintro i w ⟨hi,hS⟩
 by_cases hlt : i < 6
 ·have hq : keyQ k i < 10 := by cases i <;> simp [keyQ,hk]
  have hn : keyQ k (i + 1) = keyQ k i / 10 := by cases i <;> simp [keyQ]; omega
  have ht : keyT k (i + 1) = [UInt8.ofNat (48 + keyQ k i)] ++ keyT k i := by
   cases i with
   | zero => rfl
   | succ i => simp only [keyT,keyQ]; rw [List.replicate_succ]; rfl
  have hl : (keyT k i).length ≤ 6 := by cases i <;> simp [keyT]; omega
  have et := Zu3 hq
  generalize keyQ k i = q at *
  generalize keyT k i = s at *
  have em : ((q : Nat) : Int).tmod 10 = (q : Nat) := by rw [Int.tmod_eq_emod_of_nonneg (by omega)]; omega
  have ed : IntKind.i64.wrap (((q : Nat) : Int).tdiv 10) = ((q / 10 : Nat) : Int) := by
   rw [Int.tdiv_eq_ediv_of_nonneg (by omega),show ((q : Nat) : Int) / 10 = ((q / 10 : Nat) : Int) by omega]
   exact w64 (by omega) (by omega)
  repeat' (first | (refine X_yl (Zmd (v := ((q : Nat) : Int)) rfl rfl rfl (by omega) em) rfl rfl ?_) | (refine X_yl (Zme (v := ((q / 10 : Nat) : Int)) rfl rfl rfl (by omega) ed) rfl rfl ?_) | refine Zep ?_ ?_ | (refine G_id ?_; first | refine Zir ?_ | refine Zcv rfl rfl ?_) | (refine X_id ?_; first | refine X_yl (Zbm rfl rfl) rfl rfl ?_ | refine X_yl (Zjl rfl rfl rfl (by omega)) rfl rfl ?_ | refine X_yl (Zh4 rfl rfl rfl (w64 (by omega) (by omega))) rfl rfl ?_) | (refine C_id ?_; first | refine Zco ?_ | refine Zav ?_ | refine Zcw ?_ | refine Zeq ?_ | refine Zbz rfl ?_) | (refine E_id ?_; first | refine Zci ?_))
  refine X_yl (Zg4 (s := tenL) (l := q) (h := q + 1) rfl rfl rfl rfl (.inr ⟨_,_,rfl,by omega,by omega,by show _ ≤ 10; omega⟩) (.inr ⟨_,_,rfl,by omega,by omega,by omega⟩)) rfl rfl ?_
  rw [et]
  repeat' (first | (refine X_yl (Zmd (v := ((q : Nat) : Int)) rfl rfl rfl (by omega) em) rfl rfl ?_) | (refine X_yl (Zme (v := ((q / 10 : Nat) : Int)) rfl rfl rfl (by omega) ed) rfl rfl ?_) | refine Zep ?_ ?_ | (refine G_id ?_; first | refine Zir ?_ | refine Zcv rfl rfl ?_) | (refine X_id ?_; first | refine X_yl (Zbm rfl rfl) rfl rfl ?_ | refine X_yl (Za3 rfl rfl) rfl rfl ?_ | refine X_yl (Zh4 rfl rfl rfl (w64 (by omega) (by omega))) rfl rfl ?_ | refine X_yl (Zf5 rfl rfl rfl (by first | omega | (simp; omega))) rfl rfl ?_) | (refine C_id ?_; first | refine Zav ?_) | (refine E_id ?_; first | refine Zci ?_ | refine Zis ?_))
  refine Zag (i + 1) ⟨?_,?_,rfl,trivial⟩ ⟨hlt,hS⟩ (by omega)
  ·rw [hn]; rfl
  ·rw [ht]; rfl
 ·obtain rfl : i = 6 := by omega
  have h6 : (keyT k 6).length = 6 := rfl
  have h7 : [114] ++ keyT k 6 = keyD k := rfl
  generalize keyT k 6 = s at *
  repeat (first|refine Yd7 ?_|refine Yaf ?_|refine Yag ?_|refine Ya3 ?_|refine Ydp ?_|refine Yeg ?_|refine Ye2 ?_)
  refine ⟨?_,hS⟩
  rw [← h7]
end Cr
namespace Cr
open Go Go.Proofs
set_option maxRecDepth 100000
set_option maxHeartbeats 4000000

def recV (r m : List UInt8) : Mv := liM [txM r,txM m]
theorem Zm3 (r m : List UInt8) : chkM 8 (recV r m) = 0 := Zjk fun x hx => by
 simp only [List.mem_cons,List.not_mem_nil,or_false] at hx
 rcases hx with rfl | rfl
 ·exact Zgh _ _
 ·exact Zgh _ _
theorem Zrz {r m : List UInt8} (hr : r.length ≤ 1000000) (hm : m.length ≤ 1000000) : fitM (recV r m) := by
 rw [recV,fitM,Ze0,Ze0,Ze0,fitM,fitM,Ze0]
 exact ⟨by omega,by simp,⟨by omega,by omega,trivial⟩,⟨by omega,by omega,trivial⟩,trivial⟩
theorem Zm2 {r m : List UInt8} (hr : r.length ≤ 400) (hm : m.length = 32) : (encM (recV r m)).length ≤ 512 := by
 have h4 := Zex (n := (r.length : Nat)) (by omega) (by omega)
 have h5 := Zex (n := (m.length : Nat)) (by omega) (by omega)
 rw [recV,Zbo,Za0,Za0,Za0,Zdb,Zdb]
 simp only [List.length_cons,List.length_append,List.length_nil]
 omega
theorem Z2y (r m : List UInt8) : wM (recV r m) = 3 + r.length + m.length := by
 simp only [recV,Zk3,wMs,List.length_nil]; omega
def Za2 (rd fs : List Int) (l : List (List UInt8)) : List Mv := (List.range l.length).map fun i => recV (l.getD i []) (Zau rd fs l (i + 1))
theorem Zb0 (rd fs : List Int) (l : List (List UInt8)) : (Za2 rd fs l).length = l.length := by simp [Za2]
theorem Zro {rd fs : List Int} {l : List (List UInt8)} {i : Nat} (h : i < l.length) : (Za2 rd fs l)[i]? = some (recV (l.getD i []) (Zau rd fs l (i + 1))) := by
 simp [Za2,h]
end Cr
namespace Cr
open Go

theorem Zfm (P : Program) (g o : Nat) (t : TypeId) (fz : Nat × Nat) : ∀ (vs : List Value) (i : Nat) (cur : Array Value) (w : World),w.heap[g]? = some (.cells cur t fz) → cur.size ≤ fz.1 → o + i + vs.length ≤ cur.size → (∀ v ∈ vs,v.oneCell' = true) →
  (storeCells ⟨g,o,none⟩ vs i).run P w = .ok () (w.setRow g (cur.toList.take (o + i) ++ vs ++ cur.toList.drop (o + i + vs.length)).toArray)
 | [],i,cur,w,hg,_,_,_ => by
  simp only [storeCells,List.append_nil,List.length_nil,Nat.add_zero,List.take_append_drop,Array.toArray_toList]
  rw [setRow_self w g cur t fz hg]
  rfl
 | v :: rest,i,cur,w,hg,hfz,hl,h1 => by
  have hi : o + i < cur.size := by simp at hl; omega
  have hadd : (⟨g,o,none⟩ : Addr).add i = ⟨g,o + i,none⟩ := by unfold Addr.add; split <;> simp_all
  have hcell : w.cell? ⟨g,o + i,none⟩ = some cur[o + i] := by simp [World.cell?,hg,hi]
  have hfro : w.frozen? ⟨g,o + i,none⟩ = false := by
   obtain ⟨lo,hi'⟩ := fz
   simp only [World.frozen?,hg,Bool.and_eq_false_iff,decide_eq_false_iff_not]
   left
   simp only at hfz
   omega
  have hst : (store ((⟨g,o,none⟩ : Addr).add i) v).run P w = .ok () (w.setRow g (cur.setIfInBounds (o + i) v)) := by
   rw [hadd,run_store P w _ v _ (h1 v (by simp)),hcell]
   simp [hfro,setCell_eq_setRow w g (o + i) cur t fz v hg]
  have ih := Zfm P g o t fz rest (i + 1) (cur.setIfInBounds (o + i) v) (w.setRow g (cur.setIfInBounds (o + i) v)) (setRow_heap w g cur _ t _ hg) (by simpa using hfz) (by simp at hl ⊢; omega) (fun x hx => h1 x (by simp [hx]))
  simp only [storeCells,Sem.run_bind,hst,Result.andThen_ok,ih,setRow_setRow]
  congr 3
  have e := list_seg_step cur.toList (o + i) v rest (by simp at hl ⊢; omega)
  simpa [Array.toList_setIfInBounds,Nat.add_assoc] using e
def ownF (T : TypeId) (a : Option Addr) (c : Nat) (cs : List Value) : Res := fun h =>
 cs.length ≤ c ∧ c ≤ maxLen ∧ ∃ b cells fz,a = some ⟨b,0,none⟩ ∧ h = Zb9 b (.cells cells T fz) ∧ cells.size = c ∧ (fz = (0,0) ∨ c ≤ fz.1) ∧ cells.toList.take cs.length = cs
theorem ownF.row {T : TypeId} {a : Option Addr} {c : Nat} {cs : List Value} {h : Frag} (H : ownF T a c cs h) : row a cs h := by
 obtain ⟨hl,_,b,cells,fz,ha,hh,hs,_,ht⟩ := H
 refine .inr ⟨b,0,cells,T,fz,ha,hh,fun i v hv => ?_⟩
 rw [← ht,List.getElem?_take] at hv
 split at hv
 ·simpa using hv
 ·cases hv
section
variable {P : Program} {o : Oper} {σ : Env} {w : World} {N : Nat} {ds : Md} {K : Env → World → Prop}
variable {x y : Operand} {t e : TypeId}
theorem Zw2 {src dst : TypeId} {s : List UInt8} {d : Nat} {W : World} {F : Nat → Prop} {rs : List Res} (ho : o.op = .convert src dst x) (hx : ev σ x = some (.string (str s))) [hs : Und P src .string] [hd : Und P dst (.slice e)] [he : Und P e (.int .u8)]
  (hsl : s.length ≤ maxLen) (hdst : o.dst = some d) (hN : Nat.blt d N = true) (hS : St W F rs w) (h : ∀ b c w',St W F (ownF e (some ⟨b,0,none⟩) c (bv s) :: rs) w' → s.length ≤ c → K ((d,.slice (some ⟨b,0,none⟩) s.length c) :: σ) w') : X P o N ds σ w K := ⟨fun f ha K' Q' hK => by
 have hr := Lib.run_convert_string_bytes (P := P) w src dst e (str s) hs.und hd.und he.und
 have hexec : (execOp f.eval o).run P w = .ok (.value (.slice (some ⟨w.heap.size,0,none⟩) s.length (grownCap w (str s).size 0 e))) (Lib.bytesWorld w e (str s)) := by
  simp only [execOp,ho,ha.eval hx,Sem.run_bind,hr,Result.andThen_ok,Zbn]
  rfl
 unfold Oper.wp
 rw [hexec]
 have hge : s.length ≤ grownCap w (str s).size 0 e := by have := grownCap_ge w (str s).size 0 e; rw [Zbn] at this; rw [Zbn]; exact this
 have hS' : St W F (ownF e (some ⟨w.heap.size,0,none⟩) (grownCap w (str s).size 0 e) (bv s) :: rs) (Lib.bytesWorld w e (str s)) := by
  have h1 := hS.drew.alloc (.cells (Lib.bytesCells w e (str s)) e)
  have h2 := h1.set (w' := Lib.bytesWorld w e (str s)) (o' := .cells (Lib.bytesCells w e (str s)) e ((Lib.bytesCells w e (str s)).size,(Lib.bytesCells w e (str s)).size + 1))
   ⟨by rw [Lib.bytesWorld_size]; simp [World.alloc,World.drew,-World.alloc_eq,-World.drew_eq],Lib.bytesWorld_at_new w e (str s),fun k hk => by
    have hk : k ≠ w.heap.size := hk
    rcases Nat.lt_or_ge k w.heap.size with h | h
    ·rw [Lib.bytesWorld_at_old w e (str s) k h]
     simp [World.alloc,World.drew,-World.alloc_eq,-World.drew_eq,Array.getElem?_push,hk]
    ·rw [Array.getElem?_eq_none (by rw [Lib.bytesWorld_size]; omega),Array.getElem?_eq_none (by simp [World.alloc,World.drew,-World.alloc_eq,-World.drew_eq]; omega)],
    rfl,rfl,rfl⟩
  have hsz : (Lib.bytesCells w e (str s)).size = grownCap w (str s).size 0 e := by
   unfold Lib.bytesCells
   rw [Zbn] at *
   simp [str]
   omega
  refine h2.head fun h hh => ⟨by rw [Zaf]; exact hge,grownCap_le_maxLen w (str s).size 0 e (by rw [Zbn]; exact hsl),w.heap.size,_,_,rfl,hh,hsz,.inr (by rw [hsz]; exact Nat.le_refl _),?_⟩
  unfold Lib.bytesCells
  rw [Array.toList_append,List.take_append_of_le_length (by simp [str,Zaf])]
  simp only [str,bv,Array.toList_map,List.length_map]
  exact List.take_of_length_le (by simp)
 have := hK _ _ _ (ha.put (Zan hN) (.slice (some ⟨w.heap.size,0,none⟩) s.length (grownCap w (str s).size 0 e))) (h _ _ _ hS' hge)
 rw [← hdst] at this
 exact this⟩
theorem Zqi {T bytes c n m c2 : Nat} {a a2 : Option Addr} {cs news : List Value} {z : Value} {W : World} {F : Nat → Prop} {rest : List Res} {ty : TypeId} (tx : TypeId) [h : Und P t (.slice T)] [hx : Und P tx (.slice T)] [hi : Inf P T z 1 bytes]
  (hS : St W F (ownF T a c cs :: rest) w) (hcs : cs.length = n) (hnews : Rd w (row a2 news)) (hl : news.length = m) (h1 : ∀ u ∈ news,u.oneCell' = true) (hnc : n ≤ c) (hfit : (n + m) * bytes ≤ 140737488355328) (hmax : n + m ≤ maxLen) :
  ∃ a' c' w',(Builtin.append_ #[t,tx] ty #[.slice a n c,.slice a2 m c2]).run P w = .ok (.slice a' (n + m) c') w' ∧ St W F (ownF T a' c' (cs ++ news) :: rest) w' ∧ n + m ≤ c' := by
 obtain ⟨i,hi',hz',hsz,hby⟩ := info_parts hi.inf
 have hz := hi.zs
 rw [← hby] at hfit
 have hf := Zay (P := P) (size := i.size) (m := m) (c := c2) hnews (by rw [hsz,Nat.mul_one]; exact hl)
 obtain ⟨f,⟨f1,f2,ho,hs,hd,hu⟩,s⟩ := hS
 have hlt : ((n + m : Nat) : Int) ≤ 9223372036854775807 := by simp only [maxLen] at hmax; omega
 by_cases hroom : n + m ≤ c
 ·obtain ⟨_,hcm,b,cells,fz,rfl,hf1,hcz,hfz,ht⟩ := ho
  have hb : w.heap[b]? = some (.cells cells T fz) := s.agrees b _ (by rw [hu,hf1,Zam]; rfl)
  have hst : (storeCells ⟨b,n,none⟩ news 0).run P w = .ok () (w.setRow b (cells.toList.take (n + 0) ++ news ++ cells.toList.drop (n + 0 + news.length)).toArray) := by
   rcases hfz with rfl | hfz
   ·exact run_storeCells_at P b n T news 0 cells w hb (by omega) h1
   ·exact Zfm P b n T fz news 0 cells w hb (by omega) (by omega) h1
  simp only [Nat.add_zero] at hst
  have u := Za6 hb (cells.toList.take n ++ news ++ cells.toList.drop (n + news.length)).toArray
  have hlen : (cells.toList.take n ++ news ++ cells.toList.drop (n + news.length)).length = c := by
   simp only [List.length_append,List.length_take,List.length_drop,Array.length_toList]; omega
  refine ⟨some ⟨b,0,none⟩,c,w.setRow b (cells.toList.take n ++ news ++ cells.toList.drop (n + news.length)).toArray,?_,?_,hroom⟩
  ·simp [Builtin.append_,run_underlying h.und,run_underlying hx.und,Go.sizeOf,typeInfo,hi',hsz,Builtin.lenOf,hroom,Zbi]
   rw [hsz] at hf
   simp [hf,hst]
  ·have hS2 : St W F (pts b (.cells cells T fz) :: rest) w := ⟨f,⟨f1,f2,hf1,hs,hd,hu⟩,s⟩
   refine (hS2.set u).head fun g hg => ⟨by rw [List.length_append]; omega,hcm,b,_,fz,rfl,hg,by simpa using hlen,hfz,?_⟩
   rw [hcs] at ht
   rw [ht,List.length_append,hcs]
   simp only
   rw [List.take_append_of_le_length (by simp; omega),List.take_of_length_le (by simp; omega)]
 ·have hge : n + m ≤ grownCap w (n + m) c T := grownCap_ge w (n + m) c T
  have hcm : grownCap w (n + m) c T ≤ maxLen := grownCap_le_maxLen w (n + m) c T hmax
  have hn' : ¬ (n + m ≤ c) := hroom
  have hmin : ¬ (9223372036854775807 < ((n : Int) + (m : Int))) := by omega
  have h48 : ¬ (281474976710656 < Builtin.nextslicecap (n + m) c * i.bytes) := by have := growslice_fits (show c < n + m by omega) hfit; omega
  have hfd : (Builtin.firstCells i.size m (.slice a2 m c2)).run P w.drew = .ok news.toArray w.drew := Zay (P := P) (by
   obtain ⟨g,hg,ha⟩ := hnews; exact ⟨g,hg,ha⟩) (by rw [hsz,Nat.mul_one]; exact hl)
  have hod : (Builtin.firstCells i.size n (.slice a n c)).run P w.drew = .ok cs.toArray w.drew := Zay (P := P) (size := i.size) ⟨f1,ho.row,fun b o e => s.agrees b o (by rw [hu,e]; rfl)⟩ (by rw [hsz,Nat.mul_one]; exact hcs)
  let blk := cs.toArray ++ news.toArray ++ Builtin.zeroCells z.cells (grownCap w (n + m) c T - (n + m))
  have hS2 : St W F rest w := St.drop ⟨f,⟨f1,f2,ho,hs,hd,hu⟩,s⟩
  refine ⟨some ⟨w.heap.size,0,none⟩,grownCap w (n + m) c T,w.drew.alloc (.cells blk T),?_,?_,hge⟩
  ·simp [Builtin.append_,run_underlying h.und,run_underlying hx.und,Go.sizeOf,typeInfo,zeroValue,hi',hz',Builtin.lenOf,hn',hmin,h48,Question.forced,hod,hfd,newRow,grownCap,blk]
  ·have hlen : blk.size = grownCap w (n + m) c T := by
    simp only [blk,Array.size_append,List.size_toArray,size_zeroCells,hz,hcs,hl]
    omega
   have h3 := hS2.drew.alloc (.cells blk T)
   refine h3.head fun g hg => ⟨by rw [List.length_append]; omega,hcm,w.heap.size,blk,(0,0),rfl,hg,hlen,.inl rfl,?_⟩
   simp only [blk,Array.toList_append]
   exact List.take_left
theorem Zh5 {T bytes c n m c2 : Nat} {a a2 : Option Addr} {cs news : List Value} {z : Value} {W : World} {F : Nat → Prop} {rest : List Res} {d : Nat} {tx : TypeId} (ho : o.op = .call { callee := .builtin .append,args := #[x,y],argTypes := #[t,tx] }) (hx : ev σ x = some (.slice a n c)) (hy : ev σ y = some (.slice a2 m c2))
  [h : Und P t (.slice T)] [hx' : Und P tx (.slice T)] [hi : Inf P T z 1 bytes] (hd : o.dst = some d) (hN : Nat.blt d N = true) (hS : St W F (ownF T a c cs :: rest) w) (hcs : cs.length = n) (hnc : n ≤ c) (hnews : Rd w (row a2 news)) (hl : news.length = m) (h1 : ∀ u ∈ news,u.oneCell' = true)
  (hfit : (n + m) * bytes ≤ 140737488355328) (hmax : n + m ≤ maxLen)
  (hk : ∀ a' c' w',St W F (ownF T a' c' (cs ++ news) :: rest) w' → n + m ≤ c' → K ((d,.slice a' (n + m) c') :: σ) w') : X P o N ds σ w K := ⟨fun f ha K' Q' hK => by
 obtain ⟨a',c',w',hr,hS',hc'⟩ := Zqi (P := P) (t := t) (ty := o.type) (c2 := c2) tx hS hcs hnews hl h1 hnc hfit hmax
 unfold Oper.wp
 have hexec : (execOp f.eval o).run P w = .ok (.value (.slice a' (n + m) c')) w' := by
  simp [execOp,ho,resolve,invoke,builtin,ha.eval hx,ha.eval hy,hr]
 rw [hexec]
 have := hK _ _ _ (ha.put (Zan hN) (.slice a' (n + m) c')) (hk a' c' w' hS' hc')
 rw [← hd] at this
 exact this⟩
end
end Cr
namespace Cr
open Go Go.Proofs
set_option maxRecDepth 100000
set_option maxHeartbeats 8000000
attribute [local irreducible] Calls

theorem Zsu {m : Nat} (h : ¬ m < 10) : Lib.decDigits m = Lib.decDigits (m / 10) ++ [UInt8.ofNat (48 + m % 10)] := by
 rw [Lib.decDigits,dif_neg h]
theorem Ztr (b m : List UInt8) (hm : m.length = 32) : encM (recV b m) = [40] ++ Lib.decDigits b.length ++ [58] ++ b ++ [51,50,58] ++ m ++ [41] := by
 have h32 : Lib.itoa ((32 : Nat) : Int) = [51,50] := by
  rw [Zdp,Zsu (by decide),Lib.decDigits_one (by decide)]; rfl
 rw [recV,Zbo,Za0,Za0,Za0,Zdb,Zdb,hm,h32,Zdp]
 simp
theorem Z0y (a : Option Addr) (q : Nat) (b m : List UInt8) (hb4 : b.length ≤ 1000) (hm : m.length = 32) (W : World) (hb0 : Rd W (bytes a b)) : Calls Tryz.prog 36 #[.slice a b.length q,.agg (bv m).toArray] W (Ret fun v w => ∃ a' q',v = .slice a' (encM (recV b m)).length q' ∧ (encM (recV b m)).length ≤ q' ∧ St W noF [bytes a' (encM (recV b m))] w) := by
 have hb := hb0.ro
 have hS := St.start W
 have hm32 : LenO (bv m) 32 := ⟨by rw [Zaf]; exact hm⟩
 rw [Ztr b m hm]
 have hlen : (Lib.decDigits b.length).length ≤ 4 := Zmr 3 _ (by omega)
 refine Zab Tryz.func36 rfl Tryz.ntmps36 rfl ?_
 repeat (first|refine Yd7 ?_|refine Ye7 ?_|refine Ya9 (fun _ _ hS _ => ?_)|refine Yea ?_|refine Yab ?_)
 rename_i bm _ _
 refine Zbt (α := Unit) (fun _ => [(0,.slice a b.length q),(3,.pointer (some ⟨bm,0,none⟩)),(5,.string (str (Lib.decDigits b.length)))]) (fun _ w => St W noF [pts bm (.cells (bv m).toArray 56)] w) ?_ ?_
 ·refine Zal (α := Nat × List UInt8) (fun z => [(0,.slice a b.length q),(3,.pointer (some ⟨bm,0,none⟩)),(5,.string (str z.2)),(6,.int .i64 (z.1 : Nat))])
   (fun z w => z.1 ≤ b.length ∧ Lib.decDigits b.length = Lib.decDigits z.1 ++ z.2 ∧ St W noF [pts bm (.cells (bv m).toArray 56)] w) (fun z => z.1) (b.length,[]) ⟨rfl,rfl,rfl,rfl,trivial⟩ ⟨Nat.le_refl _,by simp,hS⟩ ?_
  clear hS
  rintro ⟨k,s⟩ w ⟨hk,hs,hS⟩
  simp only at hk hs hS
  have em : ((k : Nat) : Int).tmod 10 = ((k % 10 : Nat) : Int) := by rw [Int.tmod_eq_emod_of_nonneg (by omega)]; omega
  have ed : IntKind.i64.wrap (((k : Nat) : Int).tdiv 10) = ((k / 10 : Nat) : Int) := by
   rw [Int.tdiv_eq_ediv_of_nonneg (by omega),show ((k : Nat) : Int) / 10 = ((k / 10 : Nat) : Int) by omega]
   exact w64 (by omega) (by omega)
  have hsl := congrArg List.length hs
  rw [List.length_append] at hsl
  have et := Zu3 (d := k % 10) (by omega)
  have hnew : Lib.decDigits b.length = (if k < 10 then [] else Lib.decDigits (k / 10)) ++ ([UInt8.ofNat (48 + k % 10)] ++ s) := by
   rw [hs]
   by_cases h : k < 10
   ·rw [if_pos h,Lib.decDigits_one h,Nat.mod_eq_of_lt h]; rfl
   ·rw [if_neg h,Zsu h,List.append_assoc]
  repeat' (first | (refine X_yl (Zmd (v := ((k % 10 : Nat) : Int)) rfl rfl rfl (by omega) em) rfl rfl ?_) | (refine X_yl (Zme (v := ((k / 10 : Nat) : Int)) rfl rfl rfl (by omega) ed) rfl rfl ?_) | refine Zep ?_ ?_ | (refine G_id ?_; first | refine Zcv rfl rfl ?_) | (refine X_id ?_; first | refine X_yl (Zbm rfl rfl) rfl rfl ?_ | refine X_yl (Zh4 rfl rfl rfl (w64 (by omega) (by omega))) rfl rfl ?_) | (refine C_id ?_; first | refine Zco ?_ | refine Zav ?_ | refine Zcw ?_))
  refine X_yl (Zg4 (s := tenL) (l := k % 10) (h := k % 10 + 1) rfl rfl rfl rfl (.inr ⟨_,_,rfl,by omega,by omega,by show _ ≤ 10; omega⟩) (.inr ⟨_,_,rfl,by omega,by omega,by omega⟩)) rfl rfl ?_
  rw [et]
  by_cases h : k < 10
  ·rw [if_pos h] at hnew
   repeat' (first | (refine X_yl (Zmd (v := ((k % 10 : Nat) : Int)) rfl rfl rfl (by omega) em) rfl rfl ?_) | (refine X_yl (Zme (v := ((k / 10 : Nat) : Int)) rfl rfl rfl (by omega) ed) rfl rfl ?_) | refine Zep ?_ ?_ | (refine G_id ?_; first | refine Zir ?_ | refine Zcv rfl rfl ?_) | (refine X_id ?_; first | refine X_yl (Zbm rfl rfl) rfl rfl ?_ | refine X_yl (Za3 rfl rfl) rfl rfl ?_ | refine X_yl (Zh3 rfl rfl rfl (by omega)) rfl rfl ?_ | refine X_yl (Zf5 rfl rfl rfl (by first | omega | (simp; omega))) rfl rfl ?_) | (refine C_id ?_; first | refine Zco ?_ | refine Zav ?_ | refine Zte ?_ | refine Zbz rfl ?_) | (refine E_id ?_; first | refine Zci ?_ | refine Zc9 ?_ | refine Zdu ?_ | refine Zn0 rfl ?_))
   rw [List.nil_append] at hnew
   exact Zbg () ⟨rfl,rfl,by rw [hnew]; rfl,trivial⟩ hS
  ·rw [if_neg h] at hnew
   repeat' (first | (refine X_yl (Zmd (v := ((k % 10 : Nat) : Int)) rfl rfl rfl (by omega) em) rfl rfl ?_) | (refine X_yl (Zme (v := ((k / 10 : Nat) : Int)) rfl rfl rfl (by omega) ed) rfl rfl ?_) | refine Zep ?_ ?_ | (refine G_id ?_; first | refine Zir ?_ | refine Zcv rfl rfl ?_) | (refine X_id ?_; first | refine X_yl (Zbm rfl rfl) rfl rfl ?_ | refine X_yl (Za3 rfl rfl) rfl rfl ?_ | refine X_yl (Zgj rfl rfl rfl (by omega)) rfl rfl ?_ | refine X_yl (Zf5 rfl rfl rfl (by first | omega | (simp; omega))) rfl rfl ?_) | (refine C_id ?_; first | refine Zco ?_ | refine Zav ?_ | refine Zeq ?_ | refine Zbj rfl ?_) | (refine E_id ?_; first | refine Zci ?_ | refine Zis ?_))
   exact Zag (z := (k,s)) (k / 10,[UInt8.ofNat (48 + k % 10)] ++ s) ⟨rfl,rfl,rfl,rfl,trivial⟩ ⟨by dsimp only; omega,hnew,hS⟩ (by dsimp only; omega)
 clear hS
 rintro ⟨⟩ w hS
 generalize Lib.decDigits b.length = n at *
 repeat' (first | (refine Zw2 rfl rfl (by simp [maxLen]; omega) rfl rfl hS (fun _ _ _ hS hcz => ?_)) | refine Zep ?_ ?_ | (refine G_id ?_; first | refine Zir ?_ | refine Zcv rfl rfl ?_) | (refine X_id ?_; first | refine X_yl (Zbm rfl rfl) rfl rfl ?_ | refine X_yl (Za3 rfl rfl) rfl rfl ?_ | refine X_yl (Zf5 rfl rfl rfl (by first | omega | (simp; omega))) rfl rfl ?_) | (refine C_id ?_; first | refine Zco ?_ | refine Zav ?_) | (refine E_id ?_; first | refine Zci ?_))
 refine Zh5 rfl rfl rfl rfl rfl hS (Zaf _) hcz (hb.rd hS) (Zaf _) Zcu (by simp; omega) (by simp [maxLen]; omega) (fun a1 c1 w hS hc1 => ?_)
 repeat (first|refine Yaa ?_|refine Ybf (fun _ _ hS _ => ?_))
 refine Zdt rfl rfl rfl rfl hS (by simp) (fun w hS => ?_)
 repeat (first|refine Yaa ?_)
 have hS := hS.pick [1,0,0]
 refine Zh5 rfl rfl rfl rfl rfl hS (by rw [List.length_append,Zaf,Zaf]) hc1 (hS.rd (List.mem_cons_of_mem _ (List.mem_cons_self ..))) (m := 3) rfl (by simp [Value.oneCell']) (by simp; omega) (by simp [maxLen]; omega) (fun a2 c2 w hS hc2 => ?_)
 repeat (first|refine Yd7 ?_|refine Yaf ?_|refine Yag ?_|refine Yc6 ?_|refine Yd8 ?_|refine Yab ?_)
 refine Zh5 rfl rfl rfl rfl rfl hS (by simp [Zaf]; omega) hc2 (Zgx (hS.rd (r := pts bm (.cells (bv m).toArray 56)) (by simp))) (m := 32) (by rw [Zaf]; exact hm) Zcu (by simp; omega) (by simp [maxLen]; omega) (fun a3 c3 w hS hc3 => ?_)
 repeat (first|refine Yaa ?_|refine Ybf (fun _ _ hS _ => ?_))
 have hS := hS.pick [1,0]
 refine Zh5 rfl rfl rfl rfl rfl hS (by simp [Zaf]; omega) hc3 (hS.rd (List.mem_cons_of_mem _ (List.mem_cons_self ..))).own_row (m := 1) rfl (by simp [Value.oneCell']) (by simp; omega) (by simp [maxLen]; omega) (fun a4 c4 w hS hc4 => ?_)
 repeat (first|refine Yd7 ?_|refine Yag ?_|refine Yah ?_|refine Yd9 ?_)
 have hlb : bv ([40] ++ n ++ [58] ++ b ++ [51,50,58] ++ m ++ [41]) = bv ([40] ++ n ++ [58]) ++ bv b ++ [.int .u8 51,.int .u8 50,.int .u8 58] ++ bv m ++ [.int .u8 41] := by simp [bv]
 have hll : ([40] ++ n ++ [58] ++ b ++ [51,50,58] ++ m ++ [41]).length = ([40] ++ n ++ [58]).length + b.length + 3 + 32 + 1 := by simp; omega
 rw [hll]
 refine ⟨a4,c4,rfl,hc4,?_⟩
 unfold bytes
 rw [hlb]
 have hS := hS.head (r' := row a4 (bv ([40] ++ n ++ [58]) ++ bv b ++ [.int .u8 51,.int .u8 50,.int .u8 58] ++ bv m ++ [.int .u8 41])) fun h hh => ownF.row hh
 exact hS.pick [0]
end Cr
namespace Cr
open Go Go.Proofs
set_option maxRecDepth 100000
set_option maxHeartbeats 4000000
attribute [local irreducible] Calls

theorem Z1p (vs : List Mv) : goT (Zcm vs) [dbN,logN] = .ok (logT vs) := rfl
theorem Ztp : ∀ k,k < 10 → Zb6 [dbN,logN,keyD k] := by decide +kernel
theorem Zev {k : Nat} (h : k < 10) : Zb6 [dbN,logN,keyD k] := Ztp k h
theorem Zox (vs : List Mv) {k : Nat} (hk : k < 10) : Zfb (Zcm vs) [dbN,logN,keyD k] = .ok (logT vs,keyD k) := by
 unfold Zfb
 rw [if_pos (Zev hk)]
 rfl
theorem Zvw {vs : List Mv} (k : Nat) : goT (Zcm vs) [dbN,logN,keyD k] = Zcr (logT vs) (keyD k) := by
 have := Zjh [dbN,logN] (Zcm vs) (keyD k)
 rw [Z1p] at this
 exact this
theorem Zna (vs : List Mv) (s : List UInt8) : Zcr (logT vs) s = match kidT s (Zcz 0 vs) with | some k => .ok k | none => .error 7 := by
 unfold Zcr
 rw [if_pos (show (logT vs).st.kind = 1 from rfl)] <;> rfl
theorem Zee {n : Nat} {t t' : Tn} {d : List (List (List UInt8))} {nd : Nd} {p : List (List UInt8)} {e : Int} (h : Zdo n t nd p = (e,t')) : Zb5 n (0,t,d) nd p = if e = 0 then (0,t',d ++ [p]) else (e,t',d) := by
 unfold Zb5
 show (if (0 : Int) = 0 then if (Zdo n t nd p).1 = 0 then (0,(Zdo n t nd p).2,d ++ [p]) else ((Zdo n t nd p).1,(Zdo n t nd p).2,d) else _) = _
 rw [if_pos rfl,h]
theorem Zlu {b : List UInt8} (h : b.length ≤ 512) : Zj6 (Zcy b) = 0 := by
 unfold Zj6
 rw [if_neg (by simp [Zcy]),if_neg (by simp only [Zcy]; decide),if_neg (by simp only [Zcy]; omega)]
theorem Zlv (vs : List Mv) : (logT vs).names = (List.range' 0 vs.length).map fun j => (keyD j,((3 + j : Nat) : Int)) := Zqw vs 0
theorem Z17 (vs : List Mv) (v : Mv) (h : vs.length < 10) : addF (Zik vs.length v) (logT vs) = logT (vs ++ [v]) := by
 have h1 := Zoz v vs 0 vs.length (by omega) h
 have h2 := Zlz v vs 0
 rw [Nat.zero_add] at h2
 show Tn.mk logN 2 ⟨1,448,0,0⟩ [] (insT (Zik vs.length v) (Zcz 0 vs)) = Tn.mk logN 2 ⟨1,448,0,0⟩ [] (Zcz 0 (vs ++ [v]))
 rw [h1,h2]
theorem Zr8 {vs : List Mv} {v : Mv} (h : vs.length < 7) (hl : (encM v).length ≤ 512) : Zdo 10 (Zcm vs) (Zcy (encM v)) [dbN,logN,keyD vs.length] = (0,Zcm (vs ++ [v])) := by
 unfold Zdo
 rw [if_neg (fun e => e.elim (fun e => e (Zev (by omega))) (fun e => by cases e)),if_neg (fun e => e (Zlu hl)),Zox vs (by omega)]
 simp only
 have hn : kidT (keyD vs.length) (logT vs).kids = none := Zew vs 0 vs.length (by omega) (by omega)
 rw [hn,if_neg (by simp),Zt4 h]
 simp only
 rw [if_neg (Zjp (l := insN (keyD vs.length,((3 + vs.length : Nat) : Int)) (logT vs).names) ?_ ?_)]
 ·have := Z17 vs v (by omega)
  show ((0 : Int),Tn.mk [] 0 ⟨1,493,0,0⟩ [] [.mk dbN 1 ⟨1,448,0,0⟩ [] [addF (Zik vs.length v) (logT vs)]]) = _
  rw [this]
  rfl
 ·intro x hx
  rcases List.mem_cons.1 ((Zfu _ _).mem_iff.1 hx) with rfl | hx
  ·exact ⟨by simp [keyD],by simp only; omega,by simp only; omega⟩
  ·rw [Zlv] at hx
   obtain ⟨j,hj,rfl⟩ := List.mem_map.1 hx
   rw [List.mem_range'_1] at hj
   exact ⟨by simp [keyD],by simp only; omega,by simp only; omega⟩
 ·rw [(Zfu _ _).length_eq,List.length_cons,Zlv,List.length_map,List.length_range']; omega
theorem Zvp {vs : List Mv} {v : Mv} (h : vs.length = 7) (hl : (encM v).length ≤ 512) : Zdo 10 (Zcm vs) (Zcy (encM v)) [dbN,logN,keyD vs.length] = (6,Zcm vs) := by
 unfold Zdo
 rw [if_neg (fun e => e.elim (fun e => e (Zev (by omega))) (fun e => by cases e)),if_neg (fun e => e (Zlu hl)),Zox vs (by omega)]
 simp only
 have hn : kidT (keyD vs.length) (logT vs).kids = none := Zew vs 0 vs.length (by omega) (by omega)
 rw [hn,if_neg (by simp),Zt3 h]
def t1 : Tn := .mk [] 0 ⟨1,493,0,0⟩ [] [.mk dbN 1 ⟨1,448,0,0⟩ [] []]
theorem Zot : Zj6 Zph = 0 := by decide
theorem Z1g : Zdo 10 t0 Zph [dbN] = (0,t1) := by
 unfold Zdo
 rw [if_neg (by decide),if_neg (fun e => e Zot)]
 have h1 : Zfb t0 [dbN] = .ok (t0,dbN) := by
  unfold Zfb
  rw [if_pos (by decide)]; rfl
 rw [h1]
 simp only
 have hn : kidT dbN t0.kids = none := rfl
 have hf : Zij 10 (Nt t0) = some 1 := Zgf (by omega) rfl fun j hj e => by
  obtain rfl : j = 0 := by omega
  cases e
 rw [hn,if_neg (by simp),hf]
 simp only
 rw [if_neg (Zjp (fun x hx => by
  rw [show t0.names = [] from rfl,insN,List.mem_singleton] at hx
  subst hx; decide) (by decide))]
 rfl
theorem Zyg : Zdo 10 t1 Zph [dbN,logN] = (0,Zcm []) := by
 unfold Zdo
 rw [if_neg (by decide),if_neg (fun e => e Zot)]
 have h1 : Zfb t1 [dbN,logN] = .ok (.mk dbN 1 ⟨1,448,0,0⟩ [] [],logN) := by
  unfold Zfb
  rw [if_pos (by decide)]; rfl
 rw [h1]
 simp only
 have hn : kidT logN (Tn.mk dbN 1 ⟨1,448,0,0⟩ [] []).kids = none := rfl
 have hf : Zij 10 (Nt t1) = some 2 := Zgf (by omega) rfl fun j hj e => by
  rcases j with _ | _ | j
  ·cases e
  ·cases e
  ·omega
 rw [hn,if_neg (by simp),hf]
 simp only
 rw [if_neg (Zjp (fun x hx => by
  rw [show (Tn.mk dbN 1 ⟨1,448,0,0⟩ [] []).names = [] from rfl,insN,List.mem_singleton] at hx
  subst hx; decide) (by decide))]
 rfl
theorem Zut : Zdv t0 (wayL logN) = some [[dbN],[dbN,logN]] := by
 have h1 : Zb7 t0 [dbN] = -1 := by
  unfold Zb7 getR goR
  rw [if_pos (by decide)]; rfl
 have h2 : Zb7 t0 [dbN,logN] = -1 := by
  unfold Zb7 getR goR
  rw [if_pos (by decide)]; rfl
 unfold wayL
 rw [Zdv,if_neg (by rw [h1]; decide),if_pos h1,Zdv,if_neg (by rw [h2]; decide),if_pos h2,Zdv]
 rfl
theorem Zuu (vs : List Mv) : Zdv (Zcm vs) (wayL logN) = some [] := by
 have h1 : Zb7 (Zcm vs) [dbN] = 1 := by
  unfold Zb7 getR goR
  rw [if_pos (by decide)]; rfl
 have h2 : Zb7 (Zcm vs) [dbN,logN] = 1 := by
  unfold Zb7 getR goR
  rw [if_pos (by decide)]; rfl
 unfold wayL
 rw [Zdv,if_pos h1,Zdv,if_pos h2,Zdv]
theorem Zue : Zcb 10 t0 [[dbN],[dbN,logN]] = (0,Zcm [],[[dbN],[dbN,logN]]) := by
 unfold Zcb
 simp only [List.foldl_cons,List.foldl_nil]
 rw [Zee Z1g,if_pos rfl,Zee Zyg,if_pos rfl]
 rfl
theorem Zsc {vs : List Mv} {k : Nat} (h : vs.length ≤ k) (hk : k < 10) : Zb7 (trV vs) [dbN,logN,keyD k] = -1 := by
 unfold Zb7 getR goR
 rw [if_pos (Zev hk)]
 cases vs with
 | nil => rfl
 | cons v l =>
  show (match (match (match goT (Zcm (v :: l)) [dbN,logN,keyD k] with | .ok u => Except.ok (u.no,u.nd) | .error e => .error e) with | .ok x => Except.ok (shN x.2) | .error e => .error e) with | .error _ => -1 | .ok nd => nd.st.kind : Int) = -1
  rw [Zvw,Zna,Zew (v :: l) 0 k (by omega) hk]
theorem Zrr {vs : List Mv} {v : Mv} (hk : vs.length ≤ 7) (hc : chkM 8 v = 0) (hl : (encM v).length ≤ 512) :
  Zp9 10 (trV vs) logN (keyD vs.length) v = if vs.length < 7 then (0,trV (vs ++ [v])) else (6,trV vs) := by
 unfold Zp9
 rw [if_neg (fun e => e (Zqx (by omega))),if_neg (fun e => e hc),if_neg (by omega),Zsc (Nat.le_refl _) (by omega)]
 cases vs with
 | nil =>
  rw [show trV [] = t0 from rfl,Zut]
  simp only
  rw [if_neg (by decide),if_neg (by decide),Zue]
  have := Zr8 (vs := []) (v := v) (by decide) hl
  rw [show ([] : List Mv).length = 0 from rfl] at *
  rw [Zee this,if_pos rfl]
  rfl
 | cons x l =>
  rw [show trV (x :: l) = Zcm (x :: l) from rfl,Zuu]
  simp only
  rw [if_neg (by decide),if_neg (by decide),show Zcb 10 (Zcm (x :: l)) [] = (0,Zcm (x :: l),[]) from rfl]
  by_cases h7 : (x :: l).length < 7
  ·rw [Zee (Zr8 h7 hl),if_pos rfl,if_pos rfl,if_pos h7]
   rfl
  ·rw [Zee (Zvp (by omega) hl),if_neg (show ¬ (6 : Int) = 0 by decide)]
   show (if (6 : Int) = 0 then _ else (6,Zoa (Zcm (x :: l)) [])) = _
   rw [if_neg (by decide),if_neg h7]
   rfl
theorem Zvz {vs : List Mv} {k : Nat} {v : Mv} (hk : vs.length ≤ 7) (hv : vs[k]? = some v) : getR (trV vs) [dbN,logN,keyD k] = .ok ⟨⟨0,384,0,0⟩,encM v⟩ := by
 have h := (List.getElem?_eq_some_iff.1 hv).1
 unfold getR goR
 rw [if_pos (Zev (by omega))]
 cases vs with
 | nil => cases hv
 | cons x l =>
  rw [show trV (x :: l) = Zcm (x :: l) from rfl,Zvw,Zna]
  have := Zly (x :: l) 0 k v (by omega) hv
  rw [Nat.zero_add] at this
  rw [this]
  rfl
theorem Zxq {vs : List Mv} {k : Nat} {v : Mv} (hk : vs.length ≤ 7) (hv : vs[k]? = some v) (hc : chkM 8 v = 0) (hf : fitM v) : Zth (trV vs) logN (keyD k) = .ok v := by
 have h := (List.getElem?_eq_some_iff.1 hv).1
 unfold Zth
 rw [if_pos (Zqx (by omega)),Zvz hk hv]
 simp only
 rw [if_pos trivial,Zsw hc hf]
theorem Zu1 {vs : List Mv} {k : Nat} (h : vs.length ≤ k) (hk : k < 10) : Zth (trV vs) logN (keyD k) = .error 7 := by
 unfold Zth
 rw [if_pos (Zqx hk)]
 have hg : ∃ e,getR (trV vs) [dbN,logN,keyD k] = .error e := by
  have hq := Zsc h hk
  unfold Zb7 at hq
  unfold getR goR at hq ⊢
  rw [if_pos (Zev hk)] at hq ⊢
  cases vs with
  | nil => exact ⟨_,rfl⟩
  | cons v l =>
   rw [show trV (v :: l) = Zcm (v :: l) from rfl,Zvw,Zna,Zew (v :: l) 0 k (by omega) hk]
   exact ⟨_,rfl⟩
 obtain ⟨e,hg⟩ := hg
 rw [hg]
end Cr
namespace Cr
open Go Go.Proofs
set_option maxRecDepth 100000
set_option maxHeartbeats 8000000
attribute [local irreducible] Calls

theorem Z00 {R : Option Addr → List Value → Prop} (W : World) (hR : ∀ a cs,R a cs → Ro W noF (row a cs)) (r m : List UInt8) (hr4 : r.length ≤ 400) (hm : m.length = 32) (cs : List Value) (hv : Mrd R (recV r m) cs) :
  Calls Tryz.prog 122 #[.agg (List.toArray cs)] W (Ret fun v w => ∃ a c,v = .tuple #[.slice a r.length c,.agg (bv m).toArray,.bool true] ∧ r.length ≤ c ∧ R a (bv r) ∧ St W noF [] w) := by
 have hS := St.start W
 obtain ⟨a1,c1,a2,c2,rows,rfl,hc1,_,hrow,hM⟩ := hv.lit
 have hM' : Mrds R [txM r,txM m] rows := hM
 obtain ⟨cs0,hxs0,hy0⟩ := hM'.at_ (i := 0) (y := txM r) rfl
 obtain ⟨cs1,hxs1,hy1⟩ := hM'.at_ (i := 1) (y := txM m) rfl
 obtain ⟨d1,e1,d2,e2,_,rfl,he1,hb0,_,_⟩ := hy0.lit
 obtain ⟨d3,e3,d4,e4,_,rfl,he3,hb1,_,_⟩ := hy1.lit
 clear hM hy0 hy1
 simp only [recV,Mv.kind,Mv.num,Mv.txt,Mv.lst,List.length_nil,List.length_cons,Nat.zero_add,Nat.reduceAdd] at *
 have hr := hR _ _ hrow
 have hbm := hR _ _ hb1
 obtain ⟨xb,xo,rfl⟩ := hr.start.base (by intro e; rw [e] at hxs0; simp at hxs0)
 obtain ⟨mb,mo,rfl⟩ := hbm.start.base (by intro e; have := congrArg List.length e; rw [Zaf,hm] at this; cases this)
 have hm32 : LenO (bv m) 32 := ⟨by rw [Zaf]; exact hm⟩
 refine Zab Tryz.func122 rfl Tryz.ntmps122 rfl ?_
 repeat (first|refine Yen ?_|(refine X_id ?_;first|refine Yaf ?_|refine Yag ?_|refine Yan ?_|refine Ya4 ?_|refine Yas ?_|refine Yba ?_|refine Yap ?_|refine Ya9 (fun _ _ hS _ => ?_)|refine Yar (fun _ _ hS _ => ?_))|refine Yei ?_|refine Yab ?_)
 refine Zao (.s 0 (.s 1 (.s 2 (.s 3 (.s 4 (.s 5 (.s 6 (.s 7 (.h 8 (.h 9 (.h 10 (.h 11 .nil .no) .no) .no) (.h 9 (.h 8 (.h 10 (.h 11 .nil .no) .no) .no) .no)))))))))) mixed (by kernel_rfl) rfl ?_
 have hS := hS.drew
 repeat (first|(refine Zad ?_;first|refine Ybe ?_|refine Yb3 ?_|refine Ybm ?_))
 refine Zba (fun w' => Zdm w' _ _ _) rfl rfl ((hr.rd hS).cellsX (by omega) hxs0 rfl) (fun _ hc => Zcj rfl rfl hc) rfl rfl ?_
 repeat (first|(refine Zad ?_;first|refine Ybe ?_|refine Yb3 ?_|refine Ybm ?_))
 refine Zba (fun w' => Zdm w' _ _ _) rfl rfl ((hr.rd hS).cellsX (by omega) hxs1 rfl) (fun _ hc => Zcj rfl rfl hc) rfl rfl ?_
 repeat' (first|refine Zep ?_ ?_|refine Yen ?_|(refine X_id ?_;first|refine Yaf ?_|refine Yan ?_|refine Ya4 ?_|refine Yas ?_|refine Yba ?_|refine Ybt ?_|refine Yap ?_|refine Yao (fun _ hS _ => ?_)|refine Yar (fun _ _ hS _ => ?_))|refine Yei ?_|refine Yab ?_|(refine Zad ?_;first|refine Yaz ?_|refine Yau ?_)|(refine Zac ?_;first|refine Yd6 ?_))
 all_goals
  refine Zao (.s 0 (.s 1 (.s 2 (.s 3 (.s 4 (.s 5 (.s 6 (.h 7 (.s 8 .nil) .no)))))))) mixed (by kernel_rfl) rfl ?_
  have hS := hS.drew
  repeat (first|(refine Zad ?_;first|refine Ybe ?_|refine Zak rfl rfl (fun _ => Zmg rfl rfl (by omega)) rfl rfl ?_|refine Ybm ?_))
  refine Zba (fun w' => Zdm w' _ _ _) rfl rfl ⟨(hbm.rd hS).cellsAt rfl,by rw [Zaf]; exact hm⟩ (fun _ hc => Zcj rfl rfl hc) rfl rfl ?_
  repeat (first|refine Yao (fun _ hS _ => ?_)|refine Yah ?_|refine Yab ?_|refine Yd0 ?_|(refine Zad ?_;first|refine Yaz ?_|refine Ybk ?_|refine Yau ?_)|(refine Zac ?_;first|refine Yd6 ?_))
  exact ⟨_,_,rfl,he1,hb0,hS.drops⟩
end Cr
