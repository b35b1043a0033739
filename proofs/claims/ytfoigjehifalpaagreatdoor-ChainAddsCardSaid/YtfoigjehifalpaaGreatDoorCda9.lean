/-
  Layer 11 (chain): begun,more,Marks.
  Layer 11 (chain): one more record,at a chain's own end.
  Package codec in plain words: what bytes say (parse),how leaves are written (encL),and that the two fit.
  Package codec's values as resources: leaves,lists of leaves; what can be read of them. No program is in sight.
  Package codec in plain words,lists in lists too: values as they stand in memory (Mv),what is wrong with them (chkM),their bytes (encM),what bytes say (decM),and that these fit.
  Package codec's values,lists in lists too,in memory: to be read,among rows of a bag. No program is in sight.
  Layer 8 (tree): a change in memory as a resource: which nodes it has by now (N),over a table that tells T. Nodes told,set,freed.
  Layer 8 (tree) in plain words,1: a directory's bytes. No program is in sight.
  DERIVED: THE SHELF's CONTRACTS AT THIS DUMP,IN PLAIN WORDS (tools/lay-plain.mjs out of 'TryzShelf.lean',which tools/lay-shelf.mjs wrote): THE SAME DECLARATIONS UNDER THE SAME NAMES: 'import','namespace','open','def','theorem' AND NOTHING ELSE: no command of the shelf's: FOR A HAND-IN. Each laying: the table of numbers ('.._ren') and one theorem,a field a fact of the dump's own or the kernel's comparison; each contract: ONE APPLICATION.
  The library's functions that packages codec and command call: numbers as text and back,bytes copied and compared.
  Package codec: a reader's small steps: more,is,wrong,take,digits.
-/
import Derived.Test.YtfoigjehifalpaaGreatDoorCda5
import Derived.Test.YtfoigjehifalpaaGreatDoorCda8
import Derived.Lib.ItoaNum
import Derived.Lib.AtoiAll
import Derived.Test.YtfoigjehifalpaaGreatDoorCda3
import Derived.Test.YtfoigjehifalpaaGreatDoorCda4
import Derived.Shelf.Strings.Builder1
import Derived.Shelf.Strings.Builder2
import Derived.Shelf.Small.Strs
import Derived.Shelf.Strings.BuilderF
import Derived.Shelf.Strconv.Atoi
import Derived.Shelf.Strconv.Itoa0
import Derived.Shelf.Strconv.Itoa1
import Derived.Shelf.LaysM
import Derived.Shelf.Strconv.Itoa2
import Derived.Shelf.Strconv.Itoa3
import Derived.Shelf.Strconv.AtoiErrFast
import Derived.Shelf.Strconv.ParseIntEmpty
import Derived.Shelf.Strconv.AtoiFail
import Derived.Shelf.Strconv.Clone
import Derived.Shelf.Strconv.SyntaxError
import Derived.Shelf.LaysC
import Derived.Shelf.Strconv.ToError
import Derived.Shelf.Strconv.Lower
import Derived.Shelf.Strconv.ParseUint10
import Derived.Shelf.Strconv.ParseUint10Empty
import Derived.Shelf.Strconv.ParseUint10Any
import Derived.Shelf.Strconv.ParseInt10
import Derived.Shelf.Strconv.AtoiLong
import Derived.Shelf.Strconv.AtoiInnerAll
import Derived.Shelf.Strconv.RangeError
import Derived.Shelf.Strconv.ToErrorRange
import Derived.Shelf.Strconv.AtoiAll
import Derived.Shelf.Strconv.ErrVarAll
import Derived.Shelf.Sort.Plain
import Derived.Shelf.Strings.Prefix
import Derived.Shelf.Bits.Mul64
import Derived.Shelf.Strings.Repeat
import Derived.Shelf.Slices.In.SortNone
import Derived.Test.YtfoigjehifalpaaGreatDoorProg
import Derived.Test.YtfoigjehifalpaaGreatDoorCda7
import Derived.Lib.LaidTab
import Derived.KernelRfl
namespace Cr
open Go Go.Proofs
set_option maxRecDepth 100000
set_option maxHeartbeats 16000000
attribute [local irreducible] Calls

def Zau (rd fs : List Int) (l : List (List UInt8)) : Nat → List UInt8
 | 0 => Zc5 rd fs Zec
 | i + 1 => digest rd fs [Zau rd fs l i,be8 (i : Nat),l.getD i []]
theorem Za1 (rd fs : List Int) (l : List (List UInt8)) : ∀ i,(Zau rd fs l i).length = 32
 | 0 => Zbx _ _ _
 | _ + 1 => Zap _ _ _
abbrev endV (n : Nat) (m : List UInt8) : List Value := .int .i64 (n : Nat) :: bv m
theorem Z0a (rd fs : List Int) (W : World) (hG : Gl W noF rd fs) : Calls Tryz.prog 62 #[] W (Ret fun v w => v = .agg (endV 0 (Zc5 rd fs Zec)).toArray ∧ St W noF [] w) := by
 have hS := St.start W
 have hl32 : LenO (bv (Zc5 rd fs Zec)) 32 := ⟨by rw [Zaf]; exact Zbx _ _ _⟩
 refine Zab Tryz.func62 rfl Tryz.ntmps62 rfl ?_
 repeat (first|refine Yd7 ?_|(refine X_id ?_;first|(refine Zae 21 rfl rfl rfl rfl rfl hS (Zzo rd fs _ (hG.mono fun r hr => (hr.rd hS).ro)) ?_;rintro _ _ rfl hS)|refine Ybn ?_|refine Yao (fun _ hS _ => ?_)|refine Yar (fun _ _ hS _ => ?_))|refine Yek ?_|refine Yab ?_|refine Ybv ?_)
 exact ⟨rfl,hS.drops⟩
theorem Z5d (p : Nat) (n : Nat) (m : List UInt8) (a : Option Addr) (c : Nat) (b : List UInt8) (rd fs : List Int) (W : World) (F : Nat → Prop) (hm : m.length = 32) (hn : n < 1000000) (hG : Gl W F rd fs) (hb : Ro W F (bytes a b)) (hbl : b.length < 1000000000) (hS0 : St W F [pts p (.cells (endV n m).toArray 136)] W) :
  Calls Tryz.prog 63 #[.pointer (some ⟨p,0,none⟩),.slice a b.length c] W (Ret fun v w => v = .agg (bv (digest rd fs [m,be8 (n : Nat),b])).toArray ∧ St W F [pts p (.cells (endV (n + 1) (digest rd fs [m,be8 (n : Nat),b])).toArray 136)] w) := by
 have hS := hS0
 have hm32 : LenO (bv m) 32 := ⟨by rw [Zaf]; exact hm⟩
 have hd32 : LenO (bv (digest rd fs [m,be8 (n : Nat),b])) 32 := ⟨by rw [Zaf]; exact Zap _ _ _⟩
 refine Zab Tryz.func63 rfl Tryz.ntmps63 rfl ?_
 repeat (first|refine Yd7 ?_|refine Yar (fun _ _ hS _ => ?_)|refine Yd8 ?_|refine Yab ?_)
 refine Zao (.s 0 (.s 1 (.s 2 (.s 3 (.s 4 (.s 5 (.s 6 (.s 7 (.s 8 (.s 9 (.h 10 (.s 11 (.s 12 (.h 13 .nil .no))) .no))))))))))) mixed (by kernel_rfl) rfl ?_
 have hS := hS.drew
 repeat (first|(refine Zad ?_;first|refine Ya2 ?_|refine Ybp ?_|refine Ybe ?_|refine Ybm ?_|refine Yb0 ?_|refine Yau ?_))
 refine Zae 26 rfl rfl rfl rfl rfl hS (Zvo m (n : Nat) a c b rd fs _ hm (hG.mono fun r hr => (hr.rd hS).ro) (hb.rd hS).ro hbl) ?_
 rintro _ w rfl hS
 repeat (first|(refine Zad ?_;first|refine Ybp ?_|refine Ybe ?_|refine Yau ?_)|(refine Zac ?_;first|refine Ya0 ?_))
 have hsp : Zai (endV n m) 1 (bv (digest rd fs [m,be8 (n : Nat),b])) = endV n (digest rd fs [m,be8 (n : Nat),b]) := by
  simp [Zai,Zaf,hm,Zap]
 refine Zen rfl rfl rfl (by rw [Zaf,Zap]) Zcu rfl hS (by simp [Zaf,hm,Zap]) (fun w hS _ => ?_)
 rw [hsp] at hS
 repeat (first|refine Yd7 ?_|(refine X_id ?_;first|refine Yaf ?_|refine Yat ?_|refine Yan ?_|refine Yax ?_|refine Yap ?_|refine Ybg ?_|refine Yao (fun _ hS _ => ?_))|refine Yek ?_|refine Yab ?_|refine Ybv ?_|(refine Zad ?_;first|refine Yaz ?_)|(refine Zac ?_;first|refine Ya0 ?_))
 refine ⟨rfl,?_⟩
 have h := hS.pick [1]
 exact h
def Zd4 (rd fs : List Int) (l : List (List UInt8)) (n : Nat) : List Value := (List.range n).flatMap fun i => bv (Zau rd fs l (i + 1))
theorem Zhr (rd fs : List Int) (l : List (List UInt8)) : ∀ n,(Zd4 rd fs l n).length = n * 32
 | 0 => rfl
 | n + 1 => by
  have ih := Zhr rd fs l n
  unfold Zd4 at ih ⊢
  rw [List.range_succ,List.flatMap_append,List.length_append,ih,List.flatMap_cons,List.flatMap_nil,List.append_nil,Zaf,Za1]
  omega
theorem Z3e (a : Option Addr) (c : Nat) (l : List Bs) (rd fs : List Int) (W : World) (hG : Gl W noF rd fs) (hB : Bss W noF a l) (hl : l.length ≤ 1000) (hbl : ∀ x ∈ l,x.s.length < 1000000000) :
  Calls Tryz.prog 20 #[.slice a l.length c] W (Ret fun v w => ∃ (a' : Option Addr) (c' : Nat),v = .slice a' l.length c' ∧ l.length ≤ c' ∧ St W noF [own 56 32 a' c' (Zd4 rd fs (Zar l) l.length)] w) := by
 have hS := St.start W
 have hl33 : LenO (endV 0 (Zc5 rd fs Zec)) 33 := ⟨by rw [List.length_cons,Zaf,Zbx]⟩
 refine Zab Tryz.func20 rfl Tryz.ntmps20 rfl ?_
 repeat (first|refine Yd7 ?_|(refine X_id ?_;first|(refine Zae 62 rfl rfl rfl rfl rfl hS (Z0a rd fs _ (hG.mono fun r hr => (hr.rd hS).ro)) ?_;rintro _ _ rfl hS)|refine Ye7 ?_|refine Ycd (fun _ hS => ?_)|refine Yar (fun _ _ hS _ => ?_))|refine Yea ?_|refine Yab ?_)
 rename_i b3 _ _ _ _
 have hS0 := hS.own_none 56 32 none
 refine Zal (α := Nat × Option Addr × Nat) (fun z => [(3,.pointer (some ⟨b3,0,none⟩)),(4,.slice z.2.1 z.1 z.2.2),(8,.slice a l.length c),(9,.int .i64 (l.length : Nat)),(10,.int .i64 (z.1 : Nat))])
  (fun z w => z.1 ≤ l.length ∧ z.1 ≤ z.2.2 ∧ St W noF [own 56 32 z.2.1 z.2.2 (Zd4 rd fs (Zar l) z.1),pts b3 (.cells (endV z.1 (Zau rd fs (Zar l) z.1)).toArray 136)] w) (fun z => l.length - z.1) (0,none,0) ⟨rfl,rfl,rfl,rfl,rfl,trivial⟩ ⟨Nat.zero_le _,Nat.le_refl _,hS0⟩ ?_
 clear hS hS0
 rintro ⟨i,a2,c2⟩ w ⟨hi,hc2,hS⟩
 simp only at hi hc2 hS ⊢
 obtain ⟨m,hm⟩ : ∃ m,m = Zau rd fs (Zar l) i := ⟨_,rfl⟩
 have hm32 : m.length = 32 := by rw [hm]; exact Za1 _ _ _ _
 rw [← hm] at hS
 by_cases hlt : i < l.length
 ·have hx0 : l[i]? = some l[i] := List.getElem?_eq_getElem hlt
  generalize l[i] = x at hx0
  have hxm := List.mem_of_getElem? hx0
  have hr := hB.row
  have hx : (l.map Bs.val)[i]? = some (.slice x.a x.s.length x.c) := by simp [hx0,Bs.val]
  obtain ⟨ab,ao,rfl⟩ := (hr.rd hS).base (by intro e; rw [e] at hx; simp at hx)
  have hnext : Zau rd fs (Zar l) (i + 1) = digest rd fs [m,be8 (i : Nat),x.s] := by
   show digest rd fs [Zau rd fs (Zar l) i,be8 (i : Nat),(Zar l).getD i []] = _
   rw [← hm]
   simp [Zar,List.getD,hx0]
  repeat (first|refine Yd7 ?_|refine Ye8 ?_|refine Yeb ?_|refine Yab ?_)
  obtain ⟨F2,hc,hro,hw,hbk⟩ := hS.call [false,true]
  refine Zaa 63 rfl rfl rfl rfl rfl (Z5d b3 i m x.a x.c x.s rd fs _ _ hm32 (by omega) (hG.mono hw) (hw _ (hB.all x hxm)) (hbl x hxm) hc) ?_
  rintro _ w ⟨rfl,hS⟩
  replace hS := hbk hS
  clear hc hro hw hbk
  rw [← hnext] at hS ⊢
  have hn32 : LenO (bv (Zau rd fs (Zar l) (i + 1))) 32 := ⟨by rw [Zaf]; exact Za1 _ _ _ _⟩
  repeat (first|refine Yaa ?_|refine Ybf (fun _ _ hS _ => ?_))
  refine Zas (T := 56) (a := a2) (m := 1) rfl rfl rfl rfl rfl hS (by rw [Zhr]) hc2 ((hS.rd (List.mem_cons_self ..)).own_row) (by rw [Zaf,Za1]) Zcu (by omega) (by simp only [maxLen]; omega) (fun a3 c3 w hS hc3 _ => ?_)
  repeat (first|refine Yd7 ?_|refine Yem ?_|refine Yad ?_|refine Yef ?_)
  refine Zag (α := Nat × Option Addr × Nat) (z := (i,a2,c2)) (i + 1,a3,c3) ⟨rfl,rfl,rfl,rfl,rfl,trivial⟩ ⟨by simp only; omega,by simp only; omega,?_⟩ (by simp only; omega)
  have hS := hS.pick [0,1]
  have e : Zd4 rd fs (Zar l) (i + 1) = Zd4 rd fs (Zar l) i ++ bv (Zau rd fs (Zar l) (i + 1)) := by
   unfold Zd4
   rw [List.range_succ,List.flatMap_append,List.flatMap_cons,List.flatMap_nil,List.append_nil]
  simp only [e]
  exact hS
 ·obtain rfl : i = l.length := by omega
  repeat (first|refine Yd7 ?_|refine Ye1 ?_|refine Yeg ?_|refine Ye2 ?_)
  exact ⟨a2,c2,rfl,hc2,by have h := hS.pick [0]; exact h⟩
end Cr
namespace Cr
open Go Go.Proofs
set_option maxRecDepth 100000
set_option maxHeartbeats 8000000
attribute [local irreducible] Calls

abbrev endX (n : Nat) (m : List UInt8) (rest : List Value) : List Value := .int .i64 (n : Nat) :: (bv m ++ rest)
theorem Zhw {x n : Nat} {m : List UInt8} {rest : List Value} {T : TypeId} {w : World} (hm : m.length = 32) (h : w.heap[x]? = some (.cells (endX n m rest).toArray T (0,0))) : Zdm w ⟨x,1,none⟩ 32 (bv m) := by
 refine ⟨fun j v hv => ?_,by rw [Zaf]; exact hm⟩
 have hj := (List.getElem?_eq_some_iff.1 hv).1
 have := CellsAt.of_block h (1 + j) v (by rw [Nat.add_comm 1 j,List.getElem?_cons_succ,List.getElem?_append_left hj]; exact hv)
 simp only [Addr.add] at this ⊢
 by_cases h0 : j = 0
 ·subst h0; simpa using this
 ·simpa [h0] using this
theorem Zpe {x n : Nat} {m : List UInt8} {rest : List Value} {T : TypeId} {w : World} (hm : m.length = 32) (h : w.heap[x]? = some (.cells (endX n m rest).toArray T (0,0))) {j : Nat} {v : Value} (hv : rest[j]? = some v) : w.cell? ⟨x,33 + j,none⟩ = some v := by
 have hl : (bv m).length = 32 := by rw [Zaf]; exact hm
 have := CellsAt.of_block h (33 + j) v (by rw [show 33 + j = (32 + j) + 1 by omega,List.getElem?_cons_succ,List.getElem?_append_right (by omega),hl,Nat.add_sub_cancel_left]; exact hv)
 simp only [Addr.add] at this
 rw [if_neg (by omega)] at this
 simpa using this
theorem Zq3 {n : Nat} {m d : List UInt8} {rest : List Value} (hm : m.length = 32) (hd : d.length = 32) : Zai (endX n m rest) 1 (bv d) = endX n d rest := by
 have h1 : (bv m).length = 32 := by rw [Zaf]; exact hm
 have h2 : (bv d).length = 32 := by rw [Zaf]; exact hd
 show (endX n m rest).take 1 ++ bv d ++ (endX n m rest).drop (1 + (bv d).length) = _
 rw [h2,Nat.add_comm 1 32]
 show [Value.int .i64 (n : Nat)] ++ bv d ++ (bv m ++ rest).drop 32 = _
 rw [List.drop_append_of_le_length (by omega),← h1,List.drop_length]
 rfl
theorem Zz6 (x n : Nat) (m : List UInt8) (rest : List Value) (T : TypeId) (a : Option Addr) (c : Nat) (b : List UInt8) (rd fs : List Int) (W : World) (F : Nat → Prop) (hm : m.length = 32) (hn : n < 1000000) (hG : Gl W F rd fs) (hb : Ro W F (bytes a b)) (hbl : b.length < 1000000000) (hS0 : St W F [pts x (.cells (endX n m rest).toArray T (0,0))] W) :
  Calls Tryz.prog 63 #[.pointer (some ⟨x,0,none⟩),.slice a b.length c] W (Ret fun v w => v = .agg (bv (digest rd fs [m,be8 (n : Nat),b])).toArray ∧ St W F [pts x (.cells (endX (n + 1) (digest rd fs [m,be8 (n : Nat),b]) rest).toArray T (0,0))] w) := by
 have hS := hS0
 have hd : (digest rd fs [m,be8 (n : Nat),b]).length = 32 := Zap _ _ _
 have hd32 : LenO (bv (digest rd fs [m,be8 (n : Nat),b])) 32 := ⟨by rw [Zaf]; exact hd⟩
 refine Zab Tryz.func63 rfl Tryz.ntmps63 rfl ?_
 repeat (first|refine Yd7 ?_|refine Yar (fun _ _ hS _ => ?_)|refine Yd8 ?_|refine Yab ?_)
 refine Zao (.s 0 (.s 1 (.s 2 (.s 3 (.s 4 (.s 5 (.s 6 (.s 7 (.s 8 (.s 9 (.h 10 (.s 11 (.s 12 (.h 13 .nil .no))) .no))))))))))) mixed (by kernel_rfl) rfl ?_
 have hS := hS.drew
 repeat (first|(refine Zad ?_;first|refine Ya2 ?_|refine Ybp ?_|refine Ybe ?_))
 refine Zba (fun w' => Zdm w' _ _ _) rfl rfl (Zhw hm (hS.rd (r := pts x (.cells (endX n m rest).toArray T (0,0))) (by simp)).pts) (fun _ hc => Zcj rfl rfl hc) rfl rfl ?_
 repeat (first|(refine Zad ?_;first|refine Ya2 ?_|refine Ybp ?_|refine Ybe ?_|refine Ybm ?_|refine Yau ?_))
 refine Zae 26 rfl rfl rfl rfl rfl hS (Zvo m (n : Nat) a c b rd fs _ hm (hG.mono fun r hr => (hr.rd hS).ro) (hb.rd hS).ro hbl) ?_
 rintro _ w rfl hS
 repeat (first|(refine Zad ?_;first|refine Ybp ?_|refine Ybe ?_|refine Yau ?_)|(refine Zac ?_;first|refine Ya0 ?_))
 refine Zen rfl rfl rfl (by rw [Zaf]; exact hd) Zcu rfl hS (by simp [Zaf,hm,hd]) (fun w hS _ => ?_)
 rw [Zq3 hm hd] at hS
 repeat (first|refine Yd7 ?_|(refine X_id ?_;first|refine Yaf ?_|refine Yat ?_|refine Yan ?_|refine Yax ?_|refine Yap ?_|refine Ybg ?_|refine Yao (fun _ hS _ => ?_))|refine Yek ?_|refine Yab ?_|refine Ybv ?_|(refine Zad ?_;first|refine Yaz ?_)|(refine Zac ?_;first|refine Ya0 ?_))
 exact ⟨rfl,hS.pick [1]⟩
end Cr
namespace Cr
open Go

inductive Leaf where
 | num (n : Int)
 | txt (b : List UInt8)
 | oth
inductive Top where
 | leaf (x : Leaf)
 | list (l : List Leaf)
def Top.shut : Top → Leaf
 | .leaf x => x
 | .list _ => .oth

def dig (c : UInt8) : Bool := decide (48 ≤ c.toNat) && decide (c.toNat ≤ 57)
theorem dig_iff {c : UInt8} : dig c = true ↔ 48 ≤ c.toNat ∧ c.toNat ≤ 57 := by simp [dig]
def sgn (below : Bool) (l : List UInt8) : List UInt8 := if below = true ∧ l.head? = some 45 then [45] else []
def numS (below : Bool) (l : List UInt8) : List UInt8 := sgn below l ++ (l.drop (sgn below l).length).takeWhile dig
def badN (s : List UInt8) : Prop := s = [] ∨ s = [45] ∨ s = [45,48] ∨ (s.head? = some 48 ∧ 1 < s.length) ∨ (2 < s.length ∧ s.take 2 = [45,48])
instance (s : List UInt8) : Decidable (badN s) := by unfold badN; infer_instance
def num (below : Bool) (e : UInt8) (l : List UInt8) : Option (Int × List UInt8) :=
 match l.drop (numS below l).length with
 | [] => none
 | c :: r => if badN (numS below l) ∨ c ≠ e then none else
  match Lib.atoiAll (numS below l) with
  | .ok v => some (v,r)
  | _ => none

/-! ### digits and numbers -/
def val (d : List UInt8) (acc : Nat) : Nat := d.foldl (fun a c => a * 10 + (c.toNat - 48)) acc
theorem Zux (a : Nat) : val [] a = a := rfl
theorem Zhb (c : UInt8) (d : List UInt8) (a : Nat) : val (c :: d) a = val d (a * 10 + (c.toNat - 48)) := by simp [val]
theorem Zrp (c : UInt8) (d : List UInt8) (a : Nat) : val (d ++ [c]) a = val d a * 10 + (c.toNat - 48) := by simp [val]
theorem Zuy : ∀ (d : List UInt8) (a : Nat),a ≤ val d a
 | [],a => Nat.le_refl _
 | c :: d,a => by rw [Zhb]; have := Zuy d (a * 10 + (c.toNat - 48)); omega
theorem Z06 (c : UInt8) (d : List UInt8) (a : Nat) : (Lib.parseUint10 a (c :: d) = Lib.parseUint10 (a * 10 + (c.toNat - 48)) d ∧ dig c = true) ∨ ∀ u,Lib.parseUint10 a (c :: d) ≠ .ok u := by
 by_cases h1 : 48 ≤ c.toNat ∧ c.toNat ≤ 57
 ·by_cases h2 : 1844674407370955162 ≤ a
  ·refine .inr fun u => ?_
   rw [Lib.parseUint10,if_pos h1,if_pos h2]; exact fun h => nomatch h
  ·by_cases h3 : 18446744073709551616 ≤ a * 10 + (c.toNat - 48)
   ·refine .inr fun u => ?_
    rw [Lib.parseUint10,if_pos h1,if_neg h2,if_pos h3]; exact fun h => nomatch h
   ·refine .inl ⟨?_,dig_iff.2 h1⟩
    rw [Lib.parseUint10,if_pos h1,if_neg h2,if_neg h3]
 ·refine .inr fun u => ?_
  rw [Lib.parseUint10,if_neg h1]; exact fun h => nomatch h
theorem Z21 (d : List UInt8) : ∀ (a u : Nat),Lib.parseUint10 a d = .ok u → u = val d a ∧ ∀ c ∈ d,dig c = true := by
 induction d with
 | nil => intro a u h; rw [Lib.parseUint10] at h; injection h with h; exact ⟨h.symm,fun _ hc => by cases hc⟩
 | cons c d ih =>
  intro a u h
  rcases Z06 c d a with ⟨h1,h2⟩ | h1
  ·rw [h1] at h
   obtain ⟨h3,h4⟩ := ih _ u h
   refine ⟨h3,fun x hx => ?_⟩
   rcases List.mem_cons.1 hx with rfl | hx
   ·exact h2
   ·exact h4 x hx
  ·exact absurd h (h1 u)
theorem Z07 : ∀ (d : List UInt8) (a : Nat),(∀ c ∈ d,dig c = true) → val d a ≤ 9223372036854775808 → Lib.parseUint10 a d = .ok (val d a)
 | [],a,_,_ => rfl
 | c :: d,a,hd,hv => by
  have hc := dig_iff.1 (hd c (List.mem_cons_self ..))
  rw [Zhb] at hv ⊢
  have := Zuy d (a * 10 + (c.toNat - 48))
  simp only [Lib.parseUint10]
  rw [if_pos hc,if_neg (by omega),if_neg (by omega)]
  exact Z07 d _ (fun x hx => hd x (List.mem_cons_of_mem _ hx)) hv
theorem Zuw {d : List UInt8} (hd : ∀ c ∈ d,dig c = true) (h0 : d ≠ []) (h1 : d.head? ≠ some 48) : 1 ≤ val d 0 := by
 cases d with
 | nil => exact absurd rfl h0
 | cons c d =>
  rw [Zhb]
  have hc := dig_iff.1 (hd c (List.mem_cons_self ..))
  have := Zuy d (0 * 10 + (c.toNat - 48))
  have : c.toNat ≠ 48 := fun e => h1 (by rw [List.head?_cons,show c = 48 from UInt8.toNat_inj.1 e])
  omega
theorem Zoo {c : UInt8} (hc : 48 ≤ c.toNat) : UInt8.ofNat (48 + (c.toNat - 48)) = c := by
 rw [show 48 + (c.toNat - 48) = c.toNat by omega]; exact UInt8.ofNat_toNat
theorem Zq4 : ∀ (n : Nat) (d : List UInt8),d.length = n + 1 → (∀ c ∈ d,dig c = true) → (d.head? ≠ some 48 ∨ n = 0) → Lib.decDigits (val d 0) = d
 | 0,d,hl,hd,_ => by
  obtain ⟨c,rfl⟩ : ∃ c,d = [c] := List.length_eq_one_iff.1 hl
  have hc := dig_iff.1 (hd c (List.mem_cons_self ..))
  rw [Zhb,Zux,Lib.decDigits,dif_pos (by omega),Nat.zero_mul,Nat.zero_add,Zoo hc.1]
 | n + 1,d,hl,hd,hh => by
  obtain ⟨d',c,rfl⟩ : ∃ d' c,d = d' ++ [c] := (List.eq_nil_or_concat d).resolve_left (fun e => by rw [e] at hl; cases hl) |>.imp fun _ h => h.imp fun _ h => by simpa using h
  have hl' : d'.length = n + 1 := by simpa using hl
  have hn0 : d' ≠ [] := fun e => by rw [e] at hl'; cases hl'
  have hh' : d'.head? ≠ some 48 := by
   rcases hh with hh | hh
   ·cases d' with
    | nil => exact absurd rfl hn0
    | cons x y => exact hh
   ·cases hh
  have hd' : ∀ c ∈ d',dig c = true := fun x hx => hd x (List.mem_append_left _ hx)
  have hc := dig_iff.1 (hd c (List.mem_append_right _ (List.mem_cons_self ..)))
  have hp := Zuw hd' hn0 hh'
  have ih := Zq4 n d' hl' hd' (.inl hh')
  rw [Zrp,Lib.decDigits,dif_neg (by omega)]
  rw [show (val d' 0 * 10 + (c.toNat - 48)) / 10 = val d' 0 by omega,show (val d' 0 * 10 + (c.toNat - 48)) % 10 = c.toNat - 48 by omega,ih,Zoo hc.1]
theorem Zb1 {k : Nat} (h : k < 10) : (UInt8.ofNat (48 + k)).toNat = 48 + k := by
 rw [UInt8.toNat_ofNat']; exact Nat.mod_eq_of_lt (by omega)
theorem Zfz (u : Nat) : (∀ c ∈ Lib.decDigits u,dig c = true) ∧ Lib.decDigits u ≠ [] ∧ ((Lib.decDigits u).head? = some 48 → u = 0) ∧ val (Lib.decDigits u) 0 = u := by
 induction u using Nat.strongRecOn with
 | _ u ih =>
  rw [Lib.decDigits]
  by_cases h : u < 10
  ·rw [dif_pos h]
   refine ⟨fun c hc => ?_,by simp,fun hh => ?_,?_⟩
   ·obtain rfl := List.mem_singleton.1 hc
    rw [dig_iff,Zb1 h]; omega
   ·have h1 : UInt8.ofNat (48 + u) = 48 := by simpa using hh
    have := congrArg UInt8.toNat h1
    rw [Zb1 h] at this
    have h48 : (48 : UInt8).toNat = 48 := rfl
    omega
   ·rw [Zhb,Zux,Zb1 h]; omega
  ·rw [dif_neg h]
   obtain ⟨h1,h2,h3,h4⟩ := ih (u / 10) (by omega)
   refine ⟨fun c hc => ?_,by simp,fun hh => ?_,?_⟩
   ·rcases List.mem_append.1 hc with hc | hc
    ·exact h1 c hc
    ·obtain rfl := List.mem_singleton.1 hc
     rw [dig_iff,Zb1 (by omega)]; omega
   ·exfalso
    cases e : Lib.decDigits (u / 10) with
    | nil => exact h2 e
    | cons x y =>
     rw [e] at hh h3
     have := h3 (by simpa using hh)
     omega
   ·rw [Zrp,h4,Zb1 (by omega)]; omega

theorem Ze9 {p : UInt8 → Bool} {e : UInt8} {r : List UInt8} : ∀ {d : List UInt8},(∀ c ∈ d,p c = true) → p e = false → (d ++ e :: r).takeWhile p = d
 | [],_,he => by simp [he]
 | c :: d,hd,he => by
  rw [List.cons_append,List.takeWhile_cons,if_pos (hd c (List.mem_cons_self ..)),Ze9 (fun x hx => hd x (List.mem_cons_of_mem _ hx)) he]
theorem Zhq {p : UInt8 → Bool} : ∀ {l : List UInt8} {c : UInt8},c ∈ l.takeWhile p → p c = true
 | [],_,h => by cases h
 | x :: l,c,h => by
  rw [List.takeWhile_cons] at h
  split at h
  ·rename_i hx
   rcases List.mem_cons.1 h with rfl | h
   ·exact hx
   ·exact Zhq h
  ·cases h
theorem Zgn {p : UInt8 → Bool} : ∀ (l : List UInt8),l.take (l.takeWhile p).length = l.takeWhile p
 | [] => rfl
 | x :: l => by
  rw [List.takeWhile_cons]
  split
  ·simp [Zgn l]
  ·rfl
theorem Zx0 (below : Bool) (l : List UInt8) : l.take (sgn below l).length = sgn below l := by
 unfold sgn
 split
 ·rename_i h
  cases l with
  | nil => simp at h
  | cons c l => have := h.2; simp at this; simp [this]
 ·rfl
theorem Zhl (below : Bool) (l : List UInt8) : l.take (numS below l).length = numS below l := by
 unfold numS
 generalize hs : sgn below l = s
 have h1 : l.take s.length = s := by rw [← hs]; exact Zx0 below l
 rw [List.length_append,List.take_add,h1,Zgn]
theorem Z1b (below : Bool) (l : List UInt8) : (numS below l).length ≤ l.length := by
 have h := congrArg List.length (Zhl below l)
 rw [List.length_take] at h; omega

theorem Zhk {below : Bool} {e : UInt8} {l r : List UInt8} {v : Int} (h : num below e l = some (v,r)) :
  l = numS below l ++ e :: r ∧ ¬ badN (numS below l) ∧ Lib.atoiAll (numS below l) = .ok v := by
 unfold num at h
 split at h
 ·cases h
 ·rename_i c r' hd
  split at h
  ·cases h
  ·rename_i hb
   split at h
   ·rename_i v' hv
    obtain ⟨rfl,rfl⟩ : v' = v ∧ r' = r := by simpa using h
    have hc : c = e := Decidable.not_not.1 fun hc => hb (.inr hc)
    have hn := fun hbad => hb (.inl hbad)
    refine ⟨?_,hn,hv⟩
    have := List.take_append_drop (numS below l).length l
    rw [Zhl,hd,hc] at this
    exact this.symm
   ·cases h
theorem Zie (below : Bool) (l : List UInt8) : ∃ d,(∀ c ∈ d,dig c = true) ∧ (numS below l = d ∨ numS below l = 45 :: d ∧ below = true) := by
 refine ⟨(l.drop (sgn below l).length).takeWhile dig,fun c hc => Zhq hc,?_⟩
 unfold numS
 by_cases h : below = true ∧ l.head? = some 45
 ·right; rw [show sgn below l = [45] from if_pos h]; exact ⟨rfl,h.1⟩
 ·left; rw [show sgn below l = [] from if_neg h]; rfl
theorem Z1c {c : UInt8} (hc : dig c = true) : ¬ c.toNat = 45 ∧ ¬ (c.toNat = 43 ∨ c.toNat = 45) := by
 have := dig_iff.1 hc; omega
theorem Zs4 {d : List UInt8} {v : Int} (hd : ∀ c ∈ d,dig c = true) (h : Lib.atoiAll d = .ok v) : d ≠ [] ∧ v = (val d 0 : Nat) := by
 cases d with
 | nil => cases h
 | cons c d =>
  refine ⟨by simp,?_⟩
  have hc := Z1c (hd c (List.mem_cons_self ..))
  unfold Lib.atoiAll at h
  simp only at h
  rw [if_neg hc.2] at h
  unfold Lib.parseMag at h
  rw [if_neg (by simp)] at h
  rcases hp : Lib.parseUint10 0 (c :: d) with u | _ | _
  ·rw [hp] at h
   simp only at h
   split at h
   ·cases h
   ·split at h
    ·cases h
    ·rw [if_neg hc.1] at h
     injection h with h
     rw [← h,(Z21 _ _ _ hp).1]
  ·rw [hp] at h; cases h
  ·rw [hp] at h; cases h
theorem Zzd {d : List UInt8} {v : Int} (h : Lib.atoiAll (45 :: d) = .ok v) : d ≠ [] ∧ v = - ((val d 0 : Nat) : Int) := by
 unfold Lib.atoiAll at h
 simp only at h
 rw [if_pos (.inr rfl)] at h
 unfold Lib.parseMag at h
 by_cases hd : d = []
 ·rw [if_pos hd] at h; cases h
 ·rw [if_neg hd] at h
  refine ⟨hd,?_⟩
  rcases hp : Lib.parseUint10 0 d with u | _ | _
  ·rw [hp] at h
   simp only at h
   split at h
   ·cases h
   ·split at h
    ·cases h
    ·rw [if_pos (show UInt8.toNat 45 = 45 from rfl)] at h
     injection h with h
     rw [← h,(Z21 _ _ _ hp).1]
  ·rw [hp] at h; cases h
  ·rw [hp] at h; cases h
theorem Zdp (u : Nat) : Lib.itoa (u : Int) = Lib.decDigits u := by
 unfold Lib.itoa; rw [if_neg (by omega),Int.toNat_natCast]
theorem Zm8 {u : Nat} (h : 1 ≤ u) : Lib.itoa (-(u : Int)) = 45 :: Lib.decDigits u := by
 unfold Lib.itoa; rw [if_pos (by omega)]; congr 2; omega
theorem Zoq {below : Bool} {e : UInt8} {l r : List UInt8} {v : Int} (h : num below e l = some (v,r)) : l = Lib.itoa v ++ e :: r := by
 obtain ⟨hl,hb,hv⟩ := Zhk h
 have key : numS below l = Lib.itoa v := by
  obtain ⟨d,hd,hs | ⟨hs,_⟩⟩ := Zie below l
  ·rw [hs] at hb hv ⊢
   obtain ⟨h0,rfl⟩ := Zs4 hd hv
   rw [Zdp]
   refine (Zq4 (d.length - 1) d (by have := List.length_pos_iff.2 h0; omega) hd ?_).symm
   by_cases h1 : d.length - 1 = 0
   ·exact .inr h1
   ·refine .inl fun hh => hb ?_
    exact .inr (.inr (.inr (.inl ⟨hh,by omega⟩)))
  ·rw [hs] at hb hv ⊢
   obtain ⟨h0,rfl⟩ := Zzd hv
   have hh : d.head? ≠ some 48 := fun hh => by
    cases d with
    | nil => exact h0 rfl
    | cons c d =>
     obtain rfl : c = 48 := by simpa using hh
     cases d with
     | nil => exact hb (.inr (.inr (.inl rfl)))
     | cons x y => exact hb (.inr (.inr (.inr (.inr ⟨by simp,rfl⟩))))
   rw [Zm8 (Zuw hd h0 hh),Zq4 (d.length - 1) d (by have := List.length_pos_iff.2 h0; omega) hd (.inl hh)]
 rw [key] at hl
 exact hl
theorem Zlo {e : UInt8} {l r : List UInt8} {v : Int} (h : num false e l = some (v,r)) : 0 ≤ v := by
 obtain ⟨_,_,hv⟩ := Zhk h
 obtain ⟨d,hd,hs | ⟨_,hs⟩⟩ := Zie false l
 ·rw [hs] at hv
  rw [(Zs4 hd hv).2]; omega
 ·cases hs
theorem Zvk {below : Bool} {e : UInt8} {l r : List UInt8} {v : Int} (h : num below e l = some (v,r)) : r.length < l.length := by
 obtain ⟨hl,_,_⟩ := Zhk h
 have := congrArg List.length hl
 simp at this; omega

theorem Zwo {v : Int} (h1 : -9223372036854775808 ≤ v) (h2 : v ≤ 9223372036854775807) : Lib.atoiAll (Lib.itoa v) = .ok v := by
 by_cases h : v < 0
 ·obtain ⟨u,rfl⟩ : ∃ u : Nat,v = -(u : Int) := ⟨v.natAbs,by omega⟩
  rw [Zm8 (by omega)]
  obtain ⟨f1,f2,_,f4⟩ := Zfz u
  unfold Lib.atoiAll
  simp only
  rw [if_pos (.inr rfl)]
  unfold Lib.parseMag
  rw [if_neg f2,Z07 _ _ f1 (by rw [f4]; omega),f4]
  simp only
  rw [if_neg (by intro h; exact h.1 rfl),if_neg (by omega),if_pos (show UInt8.toNat 45 = 45 from rfl)]
 ·obtain ⟨u,rfl⟩ : ∃ u : Nat,v = (u : Int) := ⟨v.toNat,by omega⟩
  rw [Zdp]
  obtain ⟨f1,f2,_,f4⟩ := Zfz u
  cases hd : Lib.decDigits u with
  | nil => exact absurd hd f2
  | cons c d =>
   have hc := Z1c (f1 c (by rw [hd]; exact List.mem_cons_self ..))
   unfold Lib.atoiAll
   simp only
   rw [if_neg hc.2,← hd]
   unfold Lib.parseMag
   rw [if_neg f2,Z07 _ _ f1 (by rw [f4]; omega),f4]
   simp only
   rw [if_neg (by omega),if_neg (by intro h; exact hc.1 h.1),if_neg hc.1]
theorem Zr2 {below : Bool} {e : UInt8} {r : List UInt8} {v : Int} (h1 : -9223372036854775808 ≤ v) (h2 : v ≤ 9223372036854775807) (hs : below = true ∨ 0 ≤ v) (he : dig e = false) : num below e (Lib.itoa v ++ e :: r) = some (v,r) := by
 have key : numS below (Lib.itoa v ++ e :: r) = Lib.itoa v ∧ ¬ badN (Lib.itoa v) := by
  by_cases h : v < 0
  ·obtain ⟨u,rfl⟩ : ∃ u : Nat,v = -(u : Int) := ⟨v.natAbs,by omega⟩
   rw [Zm8 (by omega)]
   obtain ⟨f1,f2,f3,f4⟩ := Zfz u
   obtain rfl : below = true := hs.resolve_right (by omega)
   constructor
   ·unfold numS
    rw [show sgn true (45 :: Lib.decDigits u ++ e :: r) = [45] by simp [sgn]]
    simp only [List.length_cons,List.length_nil,Nat.zero_add,List.cons_append,List.drop_succ_cons,List.drop_zero,List.nil_append]
    rw [Ze9 f1 he]
   ·rintro (h | h | h | ⟨h,_⟩ | ⟨h,h'⟩)
    ·cases h
    ·injection h with _ h; exact f2 h
    ·injection h with _ h
     have := f3 (by rw [h]; rfl)
     omega
    ·cases h
    ·cases hd : Lib.decDigits u with
     | nil => exact f2 hd
     | cons x y =>
      rw [hd] at h' f3
      have hx : x = 48 := by simpa using h'
      have := f3 (by rw [hx]; rfl)
      omega
  ·obtain ⟨u,rfl⟩ : ∃ u : Nat,v = (u : Int) := ⟨v.toNat,by omega⟩
   rw [Zdp]
   obtain ⟨f1,f2,f3,f4⟩ := Zfz u
   have hne : (Lib.decDigits u).head? ≠ some 45 := fun hh => by
    cases hd : Lib.decDigits u with
    | nil => exact f2 hd
    | cons x y =>
     rw [hd] at hh f1
     have := dig_iff.1 (f1 x (List.mem_cons_self ..))
     obtain rfl : x = 45 := by simpa using hh
     exact absurd this (by decide)
   constructor
   ·unfold numS
    rw [show sgn below (Lib.decDigits u ++ e :: r) = [] by
     unfold sgn; rw [if_neg]; rintro ⟨_,hh⟩
     cases hd : Lib.decDigits u with
     | nil => exact f2 hd
     | cons x y => rw [hd] at hh hne; exact hne (by simpa using hh)]
    simp only [List.length_nil,List.drop_zero,List.nil_append]
    rw [Ze9 f1 he]
   ·rintro (h | h | h | ⟨h,h'⟩ | ⟨h,h'⟩)
    ·exact f2 h
    ·exact hne (by rw [h]; rfl)
    ·exact hne (by rw [h]; rfl)
    ·have h0 := f3 h
     subst h0
     rw [Lib.decDigits_one (by omega)] at h'
     simp at h'
    ·refine hne ?_
     cases hd : Lib.decDigits u with
     | nil => exact absurd hd f2
     | cons x y => rw [hd] at h'; simp at h'; simp [h'.1]
 unfold num
 rw [key.1,List.drop_left]
 simp only
 rw [if_neg (by rintro (h | h); exact key.2 h; exact h rfl),Zwo h1 h2]

/-! ### values -/
mutual
def pv : Nat → Nat → List UInt8 → Option (Top × List UInt8)
 | 0,_,_ => none
 | _ + 1,_,[] => none
 | f + 1,deep,c :: r =>
  if c = 40 then
   if 8 < deep then none else
   match pl f deep r with
   | some (x,r') => some (.list x,r')
   | none => none
  else if c = 105 then
   match num true 59 r with
   | some (v,r') => some (.leaf (.num v),r')
   | none => none
  else
   match num false 58 (c :: r) with
   | some (v,r') => if v.toNat ≤ r'.length then some (.leaf (.txt (r'.take v.toNat)),r'.drop v.toNat) else none
   | none => none
def pl : Nat → Nat → List UInt8 → Option (List Leaf × List UInt8)
 | 0,_,_ => none
 | _ + 1,_,[] => none
 | f + 1,deep,c :: r =>
  if c = 41 then some ([],r) else
  match pv f (deep + 1) (c :: r) with
  | none => none
  | some (t,r') =>
   match pl f deep r' with
   | none => none
   | some (x,r'') => some (t.shut :: x,r'')
end
theorem Zo2 {u : Nat} : ∃ c r,Lib.itoa (u : Int) = c :: r ∧ dig c = true := by
 rw [Zdp]
 obtain ⟨f1,f2,_,_⟩ := Zfz u
 cases hd : Lib.decDigits u with
 | nil => exact absurd hd f2
 | cons c r => exact ⟨c,r,rfl,f1 c (by rw [hd]; exact List.mem_cons_self ..)⟩
end Cr
namespace Cr
open Go

def z0 : Value := .slice none 0 0
/-! ### laying together,taking apart -/
theorem Zy2 : emp (fun _ => none) := fun _ => rfl
/-! ### reading -/
theorem Zsn : ∀ {rows : List (List Value)} {i : Nat} {cs : List Value},(∀ r ∈ rows,r.length = 4) → rows[i]? = some cs → (rows.flatten.drop (i * 4)).take 4 = cs
 | [],_,_,_,h => by cases h
 | r :: rs,i,cs,hl,h => by
  have h4 := hl r (List.mem_cons_self ..)
  cases i with
  | zero =>
   obtain rfl : r = cs := by simpa using h
   simp [← h4]
  | succ i =>
   have ih := Zsn (fun z hz => hl z (List.mem_cons_of_mem _ hz)) (show rs[i]? = some cs by simpa using h)
   rw [List.flatten_cons,List.drop_append,h4,show (i + 1) * 4 - 4 = i * 4 by omega,List.drop_of_length_le (by omega),List.nil_append]
   exact ih
theorem Zi2 : ∀ {rows : List (List Value)},(∀ r ∈ rows,r.length = 4) → rows.flatten.length = rows.length * 4
 | [],_ => rfl
 | r :: rs,hl => by
  have h4 := hl r (List.mem_cons_self ..)
  have := Zi2 (fun z hz => hl z (List.mem_cons_of_mem _ hz)) (rows := rs)
  simp only [List.flatten_cons,List.length_append,List.length_cons]; omega
end Cr
namespace Cr
open Go

inductive Mv where
 | mk (k n : Int) (b : List UInt8) (l : List Mv)
 deriving Inhabited
abbrev nuM (n : Int) : Mv := .mk 0 n [] []
abbrev txM (b : List UInt8) : Mv := .mk 1 0 b []
abbrev liM (l : List Mv) : Mv := .mk 2 0 [] l
def Mv.kind : Mv → Int | .mk k _ _ _ => k
def Mv.num : Mv → Int | .mk _ n _ _ => n
def Mv.txt : Mv → List UInt8 | .mk _ _ b _ => b
def Mv.lst : Mv → List Mv | .mk _ _ _ l => l
def Zdq : Nat → Mv → Mv
 | 0,.mk k n b _ => .mk k n b []
 | d + 1,.mk k n b l => .mk k n b (l.map (Zdq d))
def kdM (k n : Int) (b : List UInt8) (l : List Mv) : Bool :=
 (decide (k = 0) && b.isEmpty && l.isEmpty) || (decide (k = 1) && decide (n = 0) && l.isEmpty) || (decide (k = 2) && decide (n = 0) && b.isEmpty)
def Zhv : List Int → Int
 | [] => 0
 | e :: r => if e = 0 then Zhv r else e
def chkM : Nat → Mv → Int
 | 0,.mk k n b l => if kdM k n b l = true then (if k = 2 then 18 else 0) else 17
 | m + 1,.mk k n b l => if kdM k n b l = true then Zhv (l.map (chkM m)) else 17
theorem Zg1 : ∀ {l : List Int},Zhv l = 0 ↔ ∀ e ∈ l,e = 0
 | [] => by simp [Zhv]
 | e :: r => by
  unfold Zhv
  split
  ·rename_i h; rw [Zg1]; simp [h]
  ·rename_i h; simp [h]
mutual
def encM : Mv → List UInt8
 | .mk k n b l => if k = 0 then 105 :: Lib.itoa n ++ [59] else if k = 1 then Lib.itoa (b.length : Nat) ++ 58 :: b else 40 :: Za0 l ++ [41]
def Za0 : List Mv → List UInt8
 | [] => []
 | x :: l => encM x ++ Za0 l
end
mutual
def fitM : Mv → Prop
 | .mk _ n b l => (-9223372036854775808 ≤ n ∧ n ≤ 9223372036854775807) ∧ b.length ≤ 9223372036854775807 ∧ Ze0 l
def Ze0 : List Mv → Prop
 | [] => True
 | x :: l => fitM x ∧ Ze0 l
end
theorem Zfx : ∀ (l m : List Mv),Za0 (l ++ m) = Za0 l ++ Za0 m
 | [],m => by simp [Za0]
 | x :: l,m => by rw [List.cons_append,Za0,Za0,Zfx l m,List.append_assoc]
theorem fitMs_mem : ∀ {l : List Mv},Ze0 l ↔ ∀ x ∈ l,fitM x
 | [] => by simp [Ze0]
 | x :: l => by rw [Ze0,fitMs_mem]; simp
theorem Zfe (n : Int) (b : List UInt8) (l : List Mv) : encM (.mk 0 n b l) = 105 :: Lib.itoa n ++ [59] := by rw [encM,if_pos rfl]
theorem Zdb (n : Int) (b : List UInt8) (l : List Mv) : encM (.mk 1 n b l) = Lib.itoa (b.length : Nat) ++ 58 :: b := by rw [encM,if_neg (by decide),if_pos rfl]
theorem Zbo (n : Int) (b : List UInt8) (l : List Mv) : encM (.mk 2 n b l) = 40 :: Za0 l ++ [41] := by rw [encM,if_neg (by decide),if_neg (by decide)]
mutual
def wM : Mv → Nat
 | .mk _ _ b l => 1 + b.length + wMs l
def wMs : List Mv → Nat
 | [] => 0
 | x :: l => wM x + wMs l
end
theorem Zk3 (k n : Int) (b : List UInt8) (l : List Mv) : wM (.mk k n b l) = 1 + b.length + wMs l := by rw [wM]
theorem Zju : ∀ {l : List Mv} {x : Mv},x ∈ l → wM x ≤ wMs l
 | y :: l,x,h => by
  rw [wMs]
  rcases List.mem_cons.1 h with rfl | h
  ·omega
  ·have := Zju h; omega
theorem Zjv : ∀ (l : List Mv),l.length ≤ wMs l
 | [] => by simp
 | ⟨k,n,b,m⟩ :: l => by
  rw [wMs,Zk3]
  have := Zjv l
  simp only [List.length_cons]; omega
theorem Zo1 {k n : Int} {b : List UInt8} {l : List Mv} (h : kdM k n b l = true) : (k = 0 ∧ b = [] ∧ l = []) ∨ (k = 1 ∧ n = 0 ∧ l = []) ∨ (k = 2 ∧ n = 0 ∧ b = []) := by
 unfold kdM at h
 simp only [Bool.or_eq_true,Bool.and_eq_true,decide_eq_true_eq,List.isEmpty_iff] at h
 rcases h with (⟨⟨h1,h2⟩,h3⟩ | ⟨⟨h1,h2⟩,h3⟩) | ⟨⟨h1,h2⟩,h3⟩
 ·exact .inl ⟨h1,h2,h3⟩
 ·exact .inr (.inl ⟨h1,h2,h3⟩)
 ·exact .inr (.inr ⟨h1,h2,h3⟩)
theorem Z1y {m : Nat} {k n : Int} {b : List UInt8} {l : List Mv} (h : chkM m (.mk k n b l) = 0) : kdM k n b l = true := by
 cases m <;> (rw [chkM] at h; split at h; assumption; cases h)
theorem Zc6 {m : Nat} {v : Mv} (h : chkM m v = 0) : (∃ n,v = nuM n) ∨ (∃ b,v = txM b) ∨ ∃ l m',v = liM l ∧ m = m' + 1 ∧ ∀ x ∈ l,chkM m' x = 0 := by
 obtain ⟨k,n,b,l⟩ := v
 rcases Zo1 (Z1y h) with ⟨rfl,rfl,rfl⟩ | ⟨rfl,rfl,rfl⟩ | ⟨rfl,rfl,rfl⟩
 ·exact .inl ⟨n,rfl⟩
 ·exact .inr (.inl ⟨b,rfl⟩)
 ·refine .inr (.inr ?_)
  cases m with
  | zero => rw [chkM,if_pos (by rfl),if_pos rfl] at h; cases h
  | succ m =>
   rw [chkM,if_pos (by rfl),Zg1] at h
   exact ⟨l,m,rfl,rfl,fun x hx => h _ (List.mem_map.2 ⟨x,hx,rfl⟩)⟩
theorem Zjk {m : Nat} {l : List Mv} (h : ∀ x ∈ l,chkM m x = 0) : chkM (m + 1) (liM l) = 0 := by
 rw [chkM,if_pos (by rfl),Zg1]
 intro e he
 obtain ⟨x,hx,rfl⟩ := List.mem_map.1 he
 exact h x hx
theorem Zsz (m : Nat) (n : Int) : chkM m (nuM n) = 0 := by cases m <;> rfl
theorem Zgh (m : Nat) (b : List UInt8) : chkM m (txM b) = 0 := by cases m <;> rfl
theorem Zni : ∀ (m : Nat) (v : Mv),chkM m v = 0 → Zdq m v = v
 | 0,v,h => by
  rcases Zc6 h with ⟨n,rfl⟩ | ⟨b,rfl⟩ | ⟨l,m',_,h',_⟩
  ·rfl
  ·rfl
  ·cases h'
 | m + 1,v,h => by
  rcases Zc6 h with ⟨n,rfl⟩ | ⟨b,rfl⟩ | ⟨l,m',rfl,h',hl⟩
  ·rfl
  ·rfl
  ·obtain rfl : m = m' := by omega
   show Mv.mk 2 0 [] (l.map (Zdq m)) = _
   congr 1
   conv => rhs; rw [← List.map_id l]
   exact List.map_congr_left fun x hx => Zni m x (hl x hx)

theorem Znn {s : List UInt8} {v : Int} (h : Lib.atoiAll s = .ok v) : -9223372036854775808 ≤ v ∧ v ≤ 9223372036854775807 := by
 cases s with
 | nil => cases h
 | cons c r =>
  unfold Lib.atoiAll at h
  simp only at h
  generalize Lib.parseMag _ = p at h
  rcases p with u | _ | _
  ·simp only at h
   split at h
   ·cases h
   ·split at h
    ·cases h
    ·injection h with h
     rename_i h1 h2
     split at h <;> omega
  ·cases h
  ·cases h
theorem Zop {below : Bool} {e : UInt8} {l r : List UInt8} {v : Int} (h : num below e l = some (v,r)) : -9223372036854775808 ≤ v ∧ v ≤ 9223372036854775807 := Znn (Zhk h).2.2
/-! ### reading -/
mutual
def pvM : Nat → Nat → List UInt8 → Option (Mv × List UInt8)
 | 0,_,_ => none
 | _ + 1,_,[] => none
 | f + 1,deep,c :: r =>
  if c = 40 then
   if 8 < deep then none else
   match plM f deep r with
   | some (x,r') => some (liM x,r')
   | none => none
  else if c = 105 then
   match num true 59 r with
   | some (v,r') => some (nuM v,r')
   | none => none
  else
   match num false 58 (c :: r) with
   | some (v,r') => if v.toNat ≤ r'.length then some (txM (r'.take v.toNat),r'.drop v.toNat) else none
   | none => none
def plM : Nat → Nat → List UInt8 → Option (List Mv × List UInt8)
 | 0,_,_ => none
 | _ + 1,_,[] => none
 | f + 1,deep,c :: r =>
  if c = 41 then some ([],r) else
  match pvM f (deep + 1) (c :: r) with
  | none => none
  | some (t,r') =>
   match plM f deep r' with
   | none => none
   | some (x,r'') => some (t :: x,r'')
end
theorem Z23 (f : Nat) : (∀ deep l t r,pvM f deep l = some (t,r) → r.length < l.length) ∧ (∀ deep l x r,plM f deep l = some (x,r) → r.length < l.length) := by
 induction f with
 | zero => exact ⟨fun _ _ _ _ h => by simp [pvM] at h,fun _ _ _ _ h => by simp [plM] at h⟩
 | succ f ih =>
  obtain ⟨ihv,ihl⟩ := ih
  refine ⟨fun deep l t r h => ?_,fun deep l x r h => ?_⟩
  ·cases l with
   | nil => simp [pvM] at h
   | cons c l =>
    rw [pvM] at h
    split at h
    ·split at h
     ·cases h
     ·split at h
      ·rename_i x r' hp
       have := ihl _ _ _ _ hp
       obtain ⟨_,rfl⟩ : _ ∧ r' = r := by simpa using h
       simp; omega
      ·cases h
    ·split at h
     ·split at h
      ·rename_i v r' hp
       have := Zvk hp
       obtain ⟨_,rfl⟩ : _ ∧ r' = r := by simpa using h
       simp; omega
      ·cases h
     ·split at h
      ·rename_i v r' hp
       have := Zvk hp
       split at h
       ·obtain ⟨_,rfl⟩ : _ ∧ r'.drop v.toNat = r := by simpa using h
        simp at this ⊢; omega
       ·cases h
      ·cases h
  ·cases l with
   | nil => simp [plM] at h
   | cons c l =>
    rw [plM] at h
    split at h
    ·obtain ⟨_,rfl⟩ : _ ∧ l = r := by simpa using h
     simp
    ·split at h
     ·cases h
     ·rename_i t r' hp
      have h1 := ihv _ _ _ _ hp
      split at h
      ·cases h
      ·rename_i x' r'' hp'
       have h2 := ihl _ _ _ _ hp'
       obtain ⟨_,rfl⟩ : _ ∧ r'' = r := by simpa using h
       omega
theorem Zyc (f : Nat) : (∀ deep m l t r,deep + m = 9 → pvM f deep l = some (t,r) → l = encM t ++ r ∧ chkM m t = 0 ∧ fitM t) ∧ (∀ deep m l x r,deep + m = 8 → plM f deep l = some (x,r) → l = Za0 x ++ 41 :: r ∧ (∀ t ∈ x,chkM m t = 0) ∧ Ze0 x) := by
 induction f with
 | zero => exact ⟨fun _ _ _ _ _ _ h => by simp [pvM] at h,fun _ _ _ _ _ _ h => by simp [plM] at h⟩
 | succ f ih =>
  obtain ⟨ihv,ihl⟩ := ih
  refine ⟨fun deep m l t r hm h => ?_,fun deep m l x r hm h => ?_⟩
  ·cases l with
   | nil => simp [pvM] at h
   | cons c l =>
    rw [pvM] at h
    split at h
    ·rename_i hc
     split at h
     ·cases h
     ·rename_i hd
      split at h
      ·rename_i x r' hp
       obtain ⟨m,rfl⟩ : ∃ k,m = k + 1 := ⟨m - 1,by omega⟩
       obtain ⟨h1,h2,h3⟩ := ihl deep m l x r' (by omega) hp
       obtain ⟨rfl,rfl⟩ : liM x = t ∧ r' = r := by simpa using h
       refine ⟨?_,Zjk h2,by rw [fitM]; exact ⟨⟨by omega,by omega⟩,by simp,h3⟩⟩
       rw [Zbo,hc,h1]; simp
      ·cases h
    ·split at h
     ·rename_i hc
      split at h
      ·rename_i v r' hp
       obtain ⟨rfl,rfl⟩ : nuM v = t ∧ r' = r := by simpa using h
       refine ⟨?_,Zsz _ _,?_⟩
       ·rw [Zfe,hc,Zoq hp]; simp
       ·rw [fitM]; exact ⟨Zop hp,by simp,by rw [Ze0]; trivial⟩
      ·cases h
     ·split at h
      ·rename_i v r' hp
       split at h
       ·rename_i hle
        obtain ⟨rfl,rfl⟩ : txM (r'.take v.toNat) = t ∧ r'.drop v.toNat = r := by simpa using h
        have h0 := Zlo hp
        have hr := Zop hp
        refine ⟨?_,Zgh _ _,?_⟩
        ·rw [Zdb,Zoq hp]
         simp only [List.length_take]
         rw [show ((min v.toNat r'.length : Nat) : Int) = v by omega]
         simp
        ·rw [fitM]; exact ⟨⟨by omega,by omega⟩,by simp; omega,by rw [Ze0]; trivial⟩
       ·cases h
      ·cases h
  ·cases l with
   | nil => simp [plM] at h
   | cons c l =>
    rw [plM] at h
    split at h
    ·rename_i hc
     obtain ⟨rfl,rfl⟩ : [] = x ∧ l = r := by simpa using h
     refine ⟨by rw [hc,Za0]; rfl,fun t ht => (by cases ht),by rw [Ze0]; trivial⟩
    ·split at h
     ·cases h
     ·rename_i t r' hp
      obtain ⟨h1,h2,h3⟩ := ihv (deep + 1) m _ t r' (by omega) hp
      split at h
      ·cases h
      ·rename_i x' r'' hp'
       obtain ⟨h4,h5,h6⟩ := ihl deep m _ x' r'' hm hp'
       obtain ⟨rfl,rfl⟩ : t :: x' = x ∧ r'' = r := by simpa using h
       refine ⟨by rw [h1,h4,Za0]; simp,fun y hy => ?_,by rw [Ze0]; exact ⟨h3,h6⟩⟩
       rcases List.mem_cons.1 hy with rfl | hy
       ·exact h2
       ·exact h5 y hy
theorem Zng {m : Nat} {v : Mv} (h : chkM m v = 0) : 2 ≤ (encM v).length := by
 rcases Zc6 h with ⟨n,rfl⟩ | ⟨b,rfl⟩ | ⟨l,m',rfl,_,_⟩
 ·rw [Zfe]; simp
 ·rw [Zdb]
  obtain ⟨c,l,hc,_⟩ := Zo2 (u := b.length)
  rw [hc]; simp; omega
 ·rw [Zbo]; simp
theorem Z24 (f : Nat) : (∀ deep m v r,deep + m = 9 → chkM m v = 0 → fitM v → 2 * (encM v).length ≤ f → ∃ c t,encM v ++ r = c :: t ∧ c ≠ 41 ∧ pvM f deep (encM v ++ r) = some (v,r)) ∧
  (∀ deep m l r,deep + m = 8 → (∀ x ∈ l,chkM m x = 0) → Ze0 l → 2 * (Za0 l).length + 1 ≤ f → plM f deep (Za0 l ++ 41 :: r) = some (l,r)) := by
 induction f with
 | zero =>
  refine ⟨fun deep m v r _ hc _ hf => ?_,fun _ _ _ _ _ _ _ hf => by omega⟩
  have := Zng hc; omega
 | succ f ih =>
  obtain ⟨ihv,ihl⟩ := ih
  refine ⟨fun deep m v r hm hc hfit hf => ?_,fun deep m l r hm hc hfit hf => ?_⟩
  ·rcases Zc6 hc with ⟨n,rfl⟩ | ⟨b,rfl⟩ | ⟨l,m',rfl,rfl,hl⟩
   ·rw [fitM] at hfit
    refine ⟨105,Lib.itoa n ++ 59 :: r,by rw [Zfe]; simp,by decide,?_⟩
    rw [show encM (nuM n) ++ r = 105 :: (Lib.itoa n ++ 59 :: r) by rw [Zfe]; simp,pvM,if_neg (by decide),if_pos rfl,Zr2 hfit.1.1 hfit.1.2 (.inl rfl) (by decide)]
   ·rw [fitM] at hfit
    obtain ⟨c,l,hc,hd⟩ := Zo2 (u := b.length)
    have hd' := dig_iff.1 hd
    have e : encM (txM b) ++ r = c :: (l ++ 58 :: (b ++ r)) := by rw [Zdb,hc]; simp
    have e2 : c :: (l ++ 58 :: (b ++ r)) = Lib.itoa (b.length : Nat) ++ 58 :: (b ++ r) := by rw [hc]; simp
    have ne : ∀ k : Nat,k < 48 ∨ 57 < k → k < 256 → c ≠ UInt8.ofNat k := fun k hk hk2 h => by
     have := congrArg UInt8.toNat h
     rw [UInt8.toNat_ofNat',Nat.mod_eq_of_lt hk2] at this
     omega
    refine ⟨c,l ++ 58 :: (b ++ r),e,ne 41 (by omega) (by omega),?_⟩
    rw [e,pvM,if_neg (show ¬ c = 40 from ne 40 (by omega) (by omega)),if_neg (show ¬ c = 105 from ne 105 (by omega) (by omega)),e2,Zr2 (by omega) (by omega) (.inr (by omega)) (by decide)]
    simp only [Int.toNat_natCast]
    rw [if_pos (by simp),List.take_left,List.drop_left]
   ·rw [fitM] at hfit
    rw [Zbo] at hf ⊢
    simp only [List.length_cons,List.length_append,List.length_nil] at hf
    refine ⟨40,Za0 l ++ 41 :: r,by simp,by decide,?_⟩
    rw [show 40 :: Za0 l ++ [41] ++ r = 40 :: (Za0 l ++ 41 :: r) by simp,pvM,if_pos rfl,if_neg (by omega),ihl deep m' l r (by omega) hl hfit.2.2 (by omega)]
  ·cases l with
   | nil => rw [show Za0 [] ++ 41 :: r = 41 :: r by rw [Za0]; rfl,plM,if_pos rfl]
   | cons x l =>
    rw [Ze0] at hfit
    rw [Za0] at hf ⊢
    rw [List.length_append] at hf
    have hx := hc x (List.mem_cons_self ..)
    have hp := Zng hx
    obtain ⟨c,t,h1,h2,h3⟩ := ihv (deep + 1) m x (Za0 l ++ 41 :: r) (by omega) hx hfit.1 (by omega)
    rw [List.append_assoc,h1,plM,if_neg h2,← h1,h3]
    simp only
    rw [ihl deep m l r hm (fun y hy => hc y (List.mem_cons_of_mem _ hy)) hfit.2 (by omega)]
def decM (b : List UInt8) : Option Mv :=
 match pvM (2 * b.length + 1) 1 b with
 | some (t,[]) => some t
 | _ => none
theorem Zud {b : List UInt8} {v : Mv} (h : decM b = some v) : b = encM v ∧ chkM 8 v = 0 ∧ fitM v := by
 unfold decM at h
 split at h
 ·rename_i t hp
  injection h with h
  subst h
  have := (Zyc _).1 1 8 _ _ _ rfl hp
  rwa [List.append_nil] at this
 ·cases h
theorem Zsw {v : Mv} (h : chkM 8 v = 0) (hf : fitM v) : decM (encM v) = some v := by
 obtain ⟨_,_,_,_,h3⟩ := (Z24 (2 * (encM v).length + 1)).1 1 8 v [] rfl h hf (by omega)
 rw [List.append_nil] at h3
 unfold decM
 rw [h3]
end Cr
namespace Cr
open Go

inductive Mrd (R : Option Addr → List Value → Prop) : Mv → List Value → Prop
 | mk {k n : Int} {b : List UInt8} {l : List Mv} {a a2 : Option Addr} {c c2 : Nat} {rows : List (List Value)} (hc : b.length ≤ c) (hb : R a (bv b)) (hr : R a2 rows.flatten) (hl : rows.length = l.length) (h : ∀ (i : Nat) (y : Mv) (cs : List Value),l[i]? = some y → rows[i]? = some cs → Mrd R y cs) :
  Mrd R (.mk k n b l) [.int .i64 k,.int .i64 n,.slice a b.length c,.slice a2 l.length c2]
theorem Mrd.mk' {R : Option Addr → List Value → Prop} {k n : Int} {b : List UInt8} {l : List Mv} {a a2 : Option Addr} {c c2 nb nl : Nat} {rows : List (List Value)} (hnb : b.length = nb) (hnl : l.length = nl) (hc : nb ≤ c) (hb : R a (bv b)) (hr : R a2 rows.flatten) (hl : rows.length = l.length) (h : ∀ (i : Nat) (y : Mv) (cs : List Value),l[i]? = some y → rows[i]? = some cs → Mrd R y cs) : Mrd R (.mk k n b l) [.int .i64 k,.int .i64 n,.slice a nb c,.slice a2 nl c2] := by
 subst hnb hnl; exact .mk hc hb hr hl h
def Mrds (R : Option Addr → List Value → Prop) (l : List Mv) (rows : List (List Value)) : Prop :=
 rows.length = l.length ∧ ∀ (i : Nat) (y : Mv) (cs : List Value),l[i]? = some y → rows[i]? = some cs → Mrd R y cs
section
variable {R R' : Option Addr → List Value → Prop}
theorem Mrd.mono {v : Mv} {cs : List Value} (h : Mrd R v cs) (hm : ∀ a cs,R a cs → R' a cs) : Mrd R' v cs := by
 induction h with
 | mk hc hb hr hl h ih => exact .mk hc (hm _ _ hb) (hm _ _ hr) hl ih
theorem Mrds.mono {l : List Mv} {rows : List (List Value)} (h : Mrds R l rows) (hm : ∀ a cs,R a cs → R' a cs) : Mrds R' l rows := ⟨h.1,fun i y cs h1 h2 => (h.2 i y cs h1 h2).mono hm⟩
theorem Mrds.nil : Mrds R [] [] := ⟨rfl,fun i y cs h => by simp at h⟩
theorem Mrds.snoc {l : List Mv} {rows : List (List Value)} {y : Mv} {r : List Value} (h : Mrds R l rows) (hy : Mrd R y r) : Mrds R (l ++ [y]) (rows ++ [r]) := by
 refine ⟨by simp [h.1],fun i z cs h1 h2 => ?_⟩
 by_cases hi : i < l.length
 ·rw [List.getElem?_append_left hi] at h1
  rw [List.getElem?_append_left (by have := h.1; omega)] at h2
  exact h.2 i z cs h1 h2
 ·rw [List.getElem?_append_right (by omega)] at h1
  rw [List.getElem?_append_right (by have := h.1; omega),h.1] at h2
  cases hk : i - l.length with
  | zero =>
   rw [hk] at h1 h2
   obtain rfl : y = z := by simpa using h1
   obtain rfl : r = cs := by simpa using h2
   exact hy
  | succ k => rw [hk] at h1; simp at h1
theorem Mrd.lit {v : Mv} {cs : List Value} (h : Mrd R v cs) : ∃ a1 c1 a2 c2 rows,cs = [.int .i64 v.kind,.int .i64 v.num,.slice a1 v.txt.length c1,.slice a2 v.lst.length c2] ∧ v.txt.length ≤ c1 ∧ R a1 (bv v.txt) ∧ R a2 rows.flatten ∧ Mrds R v.lst rows := by
 cases h with
 | mk hc hb hr hl h => exact ⟨_,_,_,_,_,rfl,hc,hb,hr,hl,h⟩
theorem Mrd.len {v : Mv} {cs : List Value} (h : Mrd R v cs) : cs.length = 4 := by cases h; rfl
theorem Mrds.four {l : List Mv} {rows : List (List Value)} (H : Mrds R l rows) : ∀ r ∈ rows,r.length = 4 := fun r hr => by
 obtain ⟨i,hi,he⟩ := List.mem_iff_getElem.1 hr
 have hix : i < l.length := by have := H.1; omega
 exact (H.2 i l[i] r (List.getElem?_eq_getElem hix) (by rw [List.getElem?_eq_getElem hi,he])).len
theorem Mrds.flat {l : List Mv} {rows : List (List Value)} (H : Mrds R l rows) : rows.flatten.length = l.length * 4 := by rw [Zi2 H.four,H.1]
theorem Mrds.at_ {l : List Mv} {rows : List (List Value)} (H : Mrds R l rows) {i : Nat} {y : Mv} (hy : l[i]? = some y) : ∃ cs,(rows.flatten.drop (i * 4)).take 4 = cs ∧ Mrd R y cs := by
 have hi := (List.getElem?_eq_some_iff.1 hy).1
 have hir : i < rows.length := by have := H.1; omega
 exact ⟨rows[i],Zsn H.four (List.getElem?_eq_getElem hir),H.2 i y _ hy (List.getElem?_eq_getElem hir)⟩
end
abbrev RoR (W : World) (F : Nat → Prop) : Option Addr → List Value → Prop := fun a cs => Ro W F (row a cs)
def RX (X : List RowD) : Option Addr → List Value → Prop := fun a cs => cs = [] ∨ (a,cs) ∈ X
theorem RX.nil {X : List RowD} {a : Option Addr} : RX X a [] := .inl rfl
theorem RX.mem {X : List RowD} {a : Option Addr} {cs : List Value} (h : (a,cs) ∈ X) : RX X a cs := .inr h
theorem RX.sub {X Y : List RowD} (h : ∀ x ∈ X,x ∈ Y) {a : Option Addr} {cs : List Value} (hx : RX X a cs) : RX Y a cs := hx.imp id (h _)
theorem RX.left {X Y : List RowD} {a : Option Addr} {cs : List Value} (hx : RX X a cs) : RX (X ++ Y) a cs := hx.sub fun _ h => List.mem_append_left _ h
theorem RX.right {X Y : List RowD} {a : Option Addr} {cs : List Value} (hx : RX Y a cs) : RX (X ++ Y) a cs := hx.sub fun _ h => List.mem_append_right _ h
theorem RX.tail {X : List RowD} {x : RowD} {a : Option Addr} {cs : List Value} (hx : RX X a cs) : RX (x :: X) a cs := hx.sub fun _ h => List.mem_cons_of_mem _ h
theorem RX.ro {W : World} {F : Nat → Prop} {X : List RowD} (H : Ro W F (bag X)) {a : Option Addr} {cs : List Value} (hx : RX X a cs) : Ro W F (row a cs) := by
 rcases hx with rfl | hx
 ·exact Zh6 _ _ _
 ·exact H.bag hx
theorem RX.rd {w : World} {X : List RowD} (H : Rd w (bag X)) {a : Option Addr} {cs : List Value} (hx : RX X a cs) : Rd w (row a cs) := by
 rcases hx with rfl | hx
 ·exact Zmi _ _
 ·exact H.bag hx
theorem Mrd.ro {W : World} {F : Nat → Prop} {X : List RowD} {v : Mv} {cs : List Value} (h : Mrd (RX X) v cs) (H : Ro W F (bag X)) : Mrd (RoR W F) v cs := h.mono fun _ _ hx => hx.ro H
end Cr
namespace Cr
open Go Go.Proofs
set_option maxRecDepth 100000
set_option maxHeartbeats 8000000
attribute [local irreducible] Calls

section
variable {β : Type} {k : Int} (f : β → Value)
theorem Znc : ∀ l : List (Int × β),getM k (l.map fun x => (x.1,f x.2)) = (getA k l).map f
 | [] => rfl
 | x :: l => by
  have ih := Znc l
  simp only [List.map_cons,getM,getA] at ih ⊢
  split
  ·rfl
  ·exact ih
theorem Zmv {v : β} : ∀ l : List (Int × β),setM k (f v) (l.map fun x => (x.1,f x.2)) = (setA k v l).map fun x => (x.1,f x.2)
 | [] => rfl
 | x :: l => by
  have ih := Zmv (v := v) l
  simp only [List.map_cons,setM,setA] at ih ⊢
  split
  ·rfl
  ·rw [ih]; rfl
theorem Znh : ∀ l : List (Int × β),delM k (l.map fun x => (x.1,f x.2)) = (delA k l).map fun x => (x.1,f x.2)
 | [] => rfl
 | x :: l => by
  have ih := Znh l
  simp only [List.map_cons,delM,delA] at ih ⊢
  split
  ·rfl
  ·rw [ih]; rfl
theorem Zlp {v : β} {l : List (Int × β)} (h : (Zaw l).Nodup) : (Zaw (setA k v l)).Nodup := by
 induction l with
 | nil => simp [setA,Zaw]
 | cons x l ih =>
  have h' : x.1 ∉ Zaw l ∧ (Zaw l).Nodup := List.nodup_cons.1 h
  unfold setA
  split
  ·rename_i e; simp only [Zaw,List.map_cons] at h' ⊢; rw [e]; exact List.nodup_cons.2 h'
  ·rename_i e
   refine List.nodup_cons.2 ⟨fun hm => ?_,ih h'.2⟩
   have : getA x.1 (setA k v l) ≠ none := fun hn => (getA_none.1 hn) hm
   rw [Zd7,if_neg (fun q => e q.symm)] at this
   exact this (getA_none.2 h'.1)
theorem Zlq {l : List (Int × β)} (h : (Zaw l).Nodup) : (Zaw (delA k l)).Nodup := h.sublist Zif
theorem Zod {v : β} : ∀ {l : List (Int × β)} {x : Int × β},x ∈ setA k v l → x = (k,v) ∨ x ∈ l
 | [],x,h => by simp [setA] at h; exact .inl h
 | y :: l,x,h => by
  unfold setA at h
  split at h
  ·rcases List.mem_cons.1 h with h | h
   ·exact .inl h
   ·exact .inr (List.mem_cons_of_mem _ h)
  ·rcases List.mem_cons.1 h with h | h
   ·exact .inr (by rw [h]; exact List.mem_cons_self ..)
   ·exact (Zod h).imp id (List.mem_cons_of_mem _)
end
structure PN where
 nd : Nd
 a : Option Addr
 c : Nat
abbrev PN.val (x : PN) : Value := .agg (ndV x.nd x.a x.c).toArray
abbrev PV := List (Int × PN)
abbrev DV := List (Int × Bool)
def eff (T : Int → Option Nd) (P : PV) (D : DV) (no : Int) : Option Nd :=
 match getA no P with
 | some x => some x.nd
 | none => if (getA no D).getD false = true then none else T no
structure ChOk (T N : Int → Option Nd) (X : List RowD) (P : PV) (D : DV) : Prop where
 kp : (Zaw P).Nodup
 kd : (Zaw D).Nodup
 eff : ∀ no,Cr.eff T P D no = N no
 row : ∀ x ∈ P,RX X x.2.a (bv x.2.nd.data) ∧ x.2.nd.data.length ≤ x.2.c
abbrev chC (f : Nat) (b : Int) (pm dm : Nat) : Obj := .cells (List.toArray [.pointer (some ⟨f,0,none⟩),.int .i64 b,.bool false,.map (some pm),.map (some dm)]) 112 (0,0)
def PV.vals (P : PV) : List (Int × Value) := P.map fun x => (x.1,PN.val x.2)
def DV.vals (D : DV) : List (Int × Value) := D.map fun x => (x.1,Value.bool x.2)
theorem Z3p {k : Int} (P : PV) : getM k P.vals = (getA k P).map PN.val := Znc _ _
theorem Z3q {k : Int} (D : DV) : getM k D.vals = (getA k D).map Value.bool := Znc _ _
theorem Z2s {k : Int} {v : PN} (P : PV) : setM k v.val P.vals = PV.vals (setA k v P) := Zmv PN.val P
theorem Z2t {k : Int} {v : Bool} (D : DV) : setM k (.bool v) D.vals = DV.vals (setA k v D) := Zmv Value.bool D
theorem Z3z {k : Int} (P : PV) : delM k P.vals = PV.vals (delA k P) := Znh PN.val P
theorem Z30 {k : Int} (D : DV) : delM k D.vals = DV.vals (delA k D) := Znh Value.bool D
def chR (c f : Nat) (b : Int) (T N : Int → Option Nd) (X : List RowD) : Res := fun h => ∃ (P : PV) (D : DV) (pm dm : Nat),ChOk T N X P D ∧
 Sep [bag X,pts c (chC f b pm dm),mapq (Value.int .i64) pm P.vals,mapq (Value.int .i64) dm D.vals] h
structure TabOf (W : World) (F : Nat → Prop) (tp n : Nat) (T : Int → Option Nd) : Prop where
 nodes : ∀ w,(∀ r,Ro W F r → Rd w r) → Calls Tryz.prog 158 #[.pointer (some ⟨tp,0,none⟩)] w (Ret fun v w' => v = .int .i64 (n : Nat) ∧ w = w')
 get : ∀ w no,(∀ r,Ro W F r → Rd w r) → Calls Tryz.prog 86 #[.pointer (some ⟨tp,0,none⟩),.int .i64 no] w (Ret fun v w' => match T no with
  | none => v = .tuple #[nd0,.int .i64 7] ∧ St w noF [] w'
  | some x => ∃ a c,v = .tuple #[.agg (ndV x a c).toArray,.int .i64 0] ∧ x.data.length ≤ c ∧ St w noF [own 5 1 a c (bv x.data)] w')
theorem TabOf.mono {W W' : World} {F F' : Nat → Prop} {tp n : Nat} {T : Int → Option Nd} (h : TabOf W F tp n T) (hm : ∀ r,Ro W F r → Ro W' F' r) : TabOf W' F' tp n T :=
 ⟨fun w hw => h.nodes w fun r hr => hw r (hm r hr),fun w no hw => h.get w no fun r hr => hw r (hm r hr)⟩
structure TreeRo (W : World) (F : Nat → Prop) (f tp n : Nat) (b : Int) (T : Int → Option Nd) : Prop where
 blk : Ro W F (pts f (.cells (List.toArray [.pointer (some ⟨tp,0,none⟩),.int .i64 b]) 107 (0,0)))
 tab : TabOf W F tp n T
theorem TreeRo.mono {W W' : World} {F F' : Nat → Prop} {f tp n : Nat} {b : Int} {T : Int → Option Nd} (h : TreeRo W F f tp n b T) (hm : ∀ r,Ro W F r → Ro W' F' r) : TreeRo W' F' f tp n b T := ⟨hm _ h.blk,h.tab.mono hm⟩
section
variable {W : World} {F : Nat → Prop} {rs : List Res} {w : World} {c f : Nat} {b : Int} {T N : Int → Option Nd} {X : List RowD}
theorem St.openCh (hS : St W F (chR c f b T N X :: rs) w) : ∃ P D pm dm,ChOk T N X P D ∧ St W F (bag X :: pts c (chC f b pm dm) :: mapq (Value.int .i64) pm P.vals :: mapq (Value.int .i64) dm D.vals :: rs) w := by
 obtain ⟨h,⟨h1,h2,⟨P,D,pm,dm,hq,hs⟩,hr,hd,hu⟩,s⟩ := hS
 exact ⟨P,D,pm,dm,hq,h,Sep.append_mk hs hr hd hu,s⟩
theorem St.shutCh {P : PV} {D : DV} {pm dm : Nat} (hq : ChOk T N X P D) (hS : St W F (bag X :: pts c (chC f b pm dm) :: mapq (Value.int .i64) pm P.vals :: mapq (Value.int .i64) dm D.vals :: rs) w) : St W F (chR c f b T N X :: rs) w :=
 St.shutR (rs' := [bag X,pts c (chC f b pm dm),mapq (Value.int .i64) pm P.vals,mapq (Value.int .i64) dm D.vals]) hS fun _ hh => ⟨P,D,pm,dm,hq,hh⟩
theorem ChOk.more {X' : List RowD} {P : PV} {D : DV} (h : ChOk T N X P D) (hX : ∀ x ∈ X,x ∈ X') : ChOk T N X' P D := ⟨h.kp,h.kd,h.eff,fun x hx => ⟨(h.row x hx).1.sub hX,(h.row x hx).2⟩⟩
theorem Z4e {X Y : List RowD} {h1 h3 : Frag} (a : bag Y h1) (b : bag X h3) (d : ∀ k,h1 k = none ∨ h3 k = none) : bag (Y ++ X) (fun k => (h1 k).or (h3 k)) := fun x hx => by
 rcases List.mem_append.1 hx with hx | hx
 ·obtain ⟨h',hr,hs⟩ := a x hx
  exact ⟨h',hr,fun b o e => Zvj (hs b o e)⟩
 ·obtain ⟨h',hr,hs⟩ := b x hx
  exact ⟨h',hr,fun b o e => Zr1 d (hs b o e)⟩
theorem St.chAdd {Y : List RowD} (hS : St W F (bag Y :: chR c f b T N X :: rs) w) : St W F (chR c f b T N (Y ++ X) :: rs) w :=
 hS.merge fun h1 h3 hY ⟨P,D,pm,dm,hq,hs⟩ hd => ⟨P,D,pm,dm,hq.more fun x hx => List.mem_append_right _ hx,
  Sep.merge (Sep.append_mk (rs := [Cr.bag Y]) ⟨h1,fun _ => none,hY,Zy2,fun _ => .inr rfl,fun k => by simp⟩ hs hd fun _ => rfl) fun _ _ a b d => Z4e a b d⟩
theorem Ro.ch (H : Ro W F (chR c f b T N X)) : Ro W F (Cr.bag X) := H.mono fun h ⟨_,_,_,_,_,h1,h2,a,_,_,u⟩ => ⟨h1,a,fun b o e => by rw [u,e]; rfl⟩
theorem Rd.ch {w : World} (H : Rd w (chR c f b T N X)) : Rd w (Cr.bag X) := H.mono fun h ⟨_,_,_,_,_,h1,h2,a,_,_,u⟩ => ⟨h1,a,fun b o e => by rw [u,e]; rfl⟩
end
def Z2d (W : World) (F : Nat → Prop) (c f : Nat) (b : Int) (T N : Int → Option Nd) (X : List RowD) (no : Int) (v : Value) (w : World) : Prop :=
 ∃ X',(∀ x ∈ X,x ∈ X') ∧ St W F [chR c f b T N X'] w ∧ ∃ nd a q,v = .tuple #[.agg (ndV nd a q).toArray,.bool (N no).isSome] ∧ ∀ x,N no = some x → nd = x ∧ x.data.length ≤ q ∧ RX X' a (bv x.data)
theorem Z1e {c f tp n : Nat} {b : Int} {T N : Int → Option Nd} {X : List RowD} (no : Int) (W : World) (F : Nat → Prop) (hT : TreeRo W F f tp n b T) (hS : St W F [chR c f b T N X] W) :
  Calls Tryz.prog 159 #[.pointer (some ⟨c,0,none⟩),.int .i64 no] W (Ret fun v w => Z2d W F c f b T N X no v w) := by
 obtain ⟨P,D,pm,dm,hq,hS⟩ := hS.openCh
 have hc := hT.blk
 refine Zab Tryz.func159 rfl Tryz.ntmps159 rfl ?_
 repeat (first|refine Yd7 ?_|(refine X_id ?_;first|refine Yaf ?_|refine Yag ?_|refine Yat ?_|refine Yan ?_|refine Yap ?_|refine Yar (fun _ _ hS _ => ?_))|refine Yd8 ?_|refine Yab ?_)
 refine X_yl (Zg6 (mk := Value.int .i64) (L := P.vals) (k := no) rfl rfl rfl ((hS.rd (by simp)).mapq_r)) rfl rfl ?_
 rw [Z3p]
 have he := hq.eff no
 unfold eff at he
 cases hg : getA no P with
 | some x =>
  rw [hg] at he
  simp only [Option.map_some,Option.getD_some,Option.isSome_some]
  repeat (first|refine Yd7 ?_|(refine X_id ?_;first|refine Yaf ?_|refine Yag ?_|refine Yay ?_|refine Ybg ?_|refine Yao (fun _ hS _ => ?_)|refine Yar (fun _ _ hS _ => ?_))|refine Yeo ?_|refine Yab ?_|refine Yaq ?_|refine Yby ?_)
  have hS : St W F [bag X,pts c (chC f b pm dm),mapq (Value.int .i64) pm P.vals,mapq (Value.int .i64) dm D.vals] _ := hS.took
  obtain ⟨h1,h2⟩ := hq.row _ (Zji hg)
  exact ⟨X,fun _ h => h,hS.shutCh hq,x.nd,x.a,x.c,by rw [← he]; rfl,fun y hy => by rw [← he] at hy; cases hy; exact ⟨rfl,h2,h1⟩⟩
 | none =>
  rw [hg] at he
  simp only [Option.map_none,Option.getD_none,Option.isSome_none]
  repeat (first|refine Yd7 ?_|(refine X_id ?_;first|refine Yaf ?_|refine Yag ?_|refine Yat ?_|refine Yan ?_|refine Yay ?_|refine Yap ?_|refine Yao (fun _ hS _ => ?_)|refine Yar (fun _ _ hS _ => ?_)|refine Yb6 ?_)|refine Yei ?_|refine Yab ?_)
  refine Zaa _ rfl rfl rfl rfl rfl (hT.tab.get _ no fun r h => h.rd hS) ?_
  rintro v w hV
  cases hTn : T no with
  | none =>
   rw [hTn] at hV
   obtain ⟨rfl,hS'⟩ := hV
   replace hS := hS.plus hS'
   clear hS'
   have hN : N no = none := by rw [← he]; simp [hTn]
   repeat (first|refine Yd7 ?_|refine Ye3 ?_|refine Yao (fun _ hS _ => ?_)|refine Yar (fun _ _ hS _ => ?_)|refine Yae ?_|refine Yab ?_)
   refine Zao (.s 0 (.s 1 (.s 2 (.s 3 (.s 4 (.s 5 (.s 6 (.s 7 (.s 8 (.s 9 (.s 10 (.s 11 (.h 12 (.s 13 .nil) .no))))))))))))) mixed (by kernel_rfl) rfl ?_
   have hS := hS.drew
   repeat (first|refine Yao (fun _ hS _ => ?_)|refine Yah ?_|refine Yab ?_|refine Yby ?_|(refine Zad ?_;first|refine Yaz ?_|refine Ya2 ?_|refine Ybk ?_|refine Yb8 ?_|refine Zak rfl rfl (fun _ => Zgj rfl rfl rfl (by omega)) rfl rfl ?_|refine Yb0 ?_|refine Yau ?_|refine Ycg ?_)|(refine Zac ?_;first|refine Ydf ?_))
   have hS : St W F [bag X,pts c (chC f b pm dm),mapq (Value.int .i64) pm P.vals,mapq (Value.int .i64) dm D.vals] _ := hS.took
   exact ⟨X,fun _ h => h,hS.shutCh hq,⟨⟨0,0,0,0⟩,[]⟩,none,0,by rw [hN]; rfl,fun y hy => by rw [hN] at hy; cases hy⟩
  | some x =>
   rw [hTn] at hV
   obtain ⟨a,q,rfl,hq2,hS'⟩ := hV
   replace hS := hS.plus hS'
   clear hS'
   repeat (first|refine Yd7 ?_|refine Ye3 ?_|refine Yao (fun _ hS _ => ?_)|refine Yar (fun _ _ hS _ => ?_)|refine Yae ?_|refine Yab ?_)
   refine Zao (.s 0 (.s 1 (.s 2 (.s 3 (.s 4 (.s 5 (.s 6 (.s 7 (.s 8 (.s 9 (.s 10 (.s 11 (.h 12 (.s 13 .nil) .no))))))))))))) mixed (by kernel_rfl) rfl ?_
   have hS := hS.drew
   repeat (first|(refine Zad ?_;first|refine Ya2 ?_|refine Ydz ?_|refine Yb0 ?_|refine Yb5 ?_|refine Ycs ?_|refine Ycj ?_|refine Ycz ?_))
   refine Zbw (fun w' => Rd w' (mapr (Value.int .i64) dm D.vals)) rfl rfl rfl rfl ((hS.rd (by simp)).mapq_r) (fun _ h => Zh2 (mk := Value.int .i64) (L := D.vals) (k := no) rfl rfl rfl h) rfl rfl ?_
   rw [Z3q]
   obtain ⟨d,hd⟩ : ∃ d,d = (getA no D).getD false := ⟨_,rfl⟩
   have hdv : ((getA no D).map Value.bool).getD (.bool false) = .bool d := by rw [hd]; cases getA no D <;> rfl
   rw [hdv]
   repeat (first|refine Yao (fun _ hS _ => ?_)|refine Yah ?_|refine Yab ?_|refine Yby ?_|(refine Zad ?_;first|refine Yaz ?_|refine Ybk ?_|refine Ycb ?_|refine Yau ?_|refine Zbs rfl rfl rfl rfl (fun _ => Zno rfl rfl) rfl rfl ?_)|(refine Zac ?_;first|refine Ydf ?_))
   have hS : St W F [own 5 1 a q (bv x.data),bag X,pts c (chC f b pm dm),mapq (Value.int .i64) pm P.vals,mapq (Value.int .i64) dm D.vals] _ := hS.took
   have hS := hS.bagAdd (a := a) (cs := bv x.data) fun _ h => h.row
   refine ⟨(a,bv x.data) :: X,fun _ h => List.mem_cons_of_mem _ h,hS.shutCh (hq.more fun _ h => List.mem_cons_of_mem _ h),x,a,q,?_,fun y hy => ?_⟩
   ·rw [← he,← hd,hTn]; cases d <;> rfl
   ·rw [← he,hTn] at hy
    simp only at hy
    split at hy
    ·cases hy
    ·cases hy; exact ⟨rfl,hq2,.mem (List.mem_cons_self ..)⟩
theorem Z36 {T N : Int → Option Nd} {X X' : List RowD} {P : PV} {D : DV} (h : ChOk T N X P D) (hX : ∀ x ∈ X,x ∈ X') (no : Int) (nd : Nd) (a : Option Addr) (q : Nat) (hr : RX X' a (bv nd.data)) (hq : nd.data.length ≤ q) : ChOk T (fun k => if k = no then some nd else N k) X' (setA no ⟨nd,a,q⟩ P) (delA no D) := by
 refine ⟨Zlp h.kp,Zlq h.kd,fun k => ?_,fun x hx => ?_⟩
 ·have he := h.eff k
  unfold Cr.eff at he ⊢
  rw [Zd7,Zfv h.kd]
  by_cases hk : k = no
  ·rw [if_pos hk]; simp [hk]
  ·simp only [if_neg hk]; exact he
 ·rcases Zod hx with rfl | hx
  ·exact ⟨hr,hq⟩
  ·exact ⟨(h.row x hx).1.sub hX,(h.row x hx).2⟩
theorem Z11 {T N : Int → Option Nd} {X : List RowD} {P : PV} {D : DV} (h : ChOk T N X P D) (no : Int) : ChOk T (fun k => if k = no then none else N k) X (delA no P) (setA no true D) := by
 refine ⟨Zlq h.kp,Zlp h.kd,fun k => ?_,fun x hx => h.row x (delA_sub.subset hx)⟩
 have he := h.eff k
 unfold Cr.eff at he ⊢
 rw [Zd7,Zfv h.kp]
 by_cases hk : k = no
 ·simp [hk]
 ·simp only [if_neg hk]; exact he
theorem set_ {c f : Nat} {b : Int} {T N : Int → Option Nd} {X : List RowD} (no : Int) (nd : Nd) (a : Option Addr) (q : Nat) (W : World) (F : Nat → Prop) (ha : Ro W F (bytes a nd.data) ∨ RX X a (bv nd.data)) (hl : nd.data.length ≤ 1073741824) (hS : St W F [chR c f b T N X] W) :
  Calls Tryz.prog 95 #[.pointer (some ⟨c,0,none⟩),.int .i64 no,.agg (List.toArray [.int .i64 nd.st.kind,.int .i64 nd.st.mode,.int .i64 nd.st.owner,.int .i64 nd.st.group,.slice a nd.data.length q])] W (Ret fun v w => v = .tuple #[] ∧ ∃ X',(∀ x ∈ X,x ∈ X') ∧ St W F [chR c f b T (fun k => if k = no then some nd else N k) X'] w) := by
 obtain ⟨P,D,pm,dm,hq,hS⟩ := hS.openCh
 refine Zab Tryz.func95 rfl Tryz.ntmps95 rfl ?_
 repeat (first|refine Yd7 ?_|(refine X_id ?_;first|refine Yaf ?_|refine Yat ?_|refine Yan ?_|refine Yap ?_|refine Ya9 (fun _ _ hS _ => ?_))|refine Yd8 ?_|refine Yab ?_)
 have hS := hS.pick [4,0,0,0,0]
 refine Zf6 (mk := Value.int .i64) (L := D.vals) (k := no) rfl rfl rfl rfl hS (fun w hS => ?_)
 rw [Z30] at hS
 repeat (first|refine Yac ?_|refine Yab ?_)
 refine Zao (.s 0 (.s 1 (.s 2 (.s 3 (.s 4 (.s 5 (.s 6 (.s 7 (.s 8 (.h 9 (.s 10 (.h 11 .nil .no)) .no)))))))))) mixed (by kernel_rfl) rfl ?_
 have hS := hS.drew
 repeat (first|(refine Zad ?_;first|refine Ya2 ?_|refine Ybp ?_|refine Ybe ?_|refine Ybm ?_|refine Yb0 ?_|refine Yau ?_))
 refine Zaa _ rfl rfl rfl rfl rfl (Zdj a nd.data.length q nd.data _ (by
  rcases ha with ha | ha
  ·exact ha.rd hS
  ·exact ha.rd (hS.rd (r := bag X) (by simp))) rfl hl) ?_
 rintro _ w ⟨a',q',rfl,_,hqq,hS'⟩
 replace hS := hS.plus hS'
 clear hS'
 repeat (first|(refine Zad ?_;first|refine Yca ?_|refine Yau ?_)|(refine Zac ?_;first|refine Ydf ?_))
 have hS := hS.pick [5,0,2,2,0]
 refine Zeo (mk := Value.int .i64) (L := P.vals) (k := no) rfl rfl rfl rfl rfl hS (fun w hS => ?_)
 rw [show (Value.agg (List.toArray [.int .i64 nd.st.kind,.int .i64 nd.st.mode,.int .i64 nd.st.owner,.int .i64 nd.st.group,.slice a' nd.data.length q'])) = PN.val ⟨nd,a',q'⟩ from rfl,Z2s] at hS
 repeat (first|refine Ybu ?_|(refine Zad ?_;first|refine Yaz ?_)|(refine Zac ?_;first|refine Ydf ?_))
 have hS : St W F [own 5 1 a' q' (bv nd.data),bag X,pts c (chC f b pm dm),mapq (Value.int .i64) pm (PV.vals (setA no ⟨nd,a',q'⟩ P)),mapq (Value.int .i64) dm (DV.vals (delA no D))] _ := hS.took
 have hS := hS.bagAdd (a := a') (cs := bv nd.data) fun _ h => h.row
 exact ⟨rfl,_,fun _ h => List.mem_cons_of_mem _ h,hS.shutCh (Z36 hq (fun _ h => List.mem_cons_of_mem _ h) no nd a' q' (.mem (List.mem_cons_self ..)) hqq)⟩
theorem Z3o {c f : Nat} {b : Int} {T N : Int → Option Nd} {X : List RowD} (no : Int) (W : World) (F : Nat → Prop) (hS : St W F [chR c f b T N X] W) :
  Calls Tryz.prog 107 #[.pointer (some ⟨c,0,none⟩),.int .i64 no] W (Ret fun v w => v = .tuple #[] ∧ St W F [chR c f b T (fun k => if k = no then none else N k) X] w) := by
 obtain ⟨P,D,pm,dm,hq,hS⟩ := hS.openCh
 refine Zab Tryz.func107 rfl Tryz.ntmps107 rfl ?_
 repeat (first|refine Yaa ?_|refine Yaf ?_|refine Yat ?_|refine Yan ?_|refine Yap ?_|refine Yd8 ?_)
 have hS := hS.pick [2,0,0,0]
 refine Zf6 (mk := Value.int .i64) (L := P.vals) (k := no) rfl rfl rfl rfl hS (fun w hS => ?_)
 rw [Z3z] at hS
 repeat (first|refine Yd7 ?_|refine Yaf ?_|refine Yat ?_|refine Yan ?_|refine Yap ?_|refine Yad ?_|refine Yab ?_)
 have hS := hS.pick [3,0,0,0]
 refine Zeo (mk := Value.int .i64) (L := D.vals) (k := no) rfl rfl rfl rfl rfl hS (fun w hS => ?_)
 rw [Z2t] at hS
 repeat (first|refine Yac ?_|refine Ybu ?_)
 have hS : St W F [bag X,pts c (chC f b pm dm),mapq (Value.int .i64) pm (PV.vals (delA no P)),mapq (Value.int .i64) dm (DV.vals (setA no true D))] _ := hS.took
 exact ⟨rfl,hS.shutCh (Z11 hq no)⟩
end Cr
namespace Cr
open Go

abbrev Nm := List UInt8 × Int
def Ze1 (x : Nm) : Mv := liM [txM x.1,nuM x.2]
def dirM (l : List Nm) : Mv := liM (l.map Ze1)
def wrD (l : List Nm) : List UInt8 := encM (dirM l)
def Zfy (x : Mv) : Option Nm := match x.lst with
 | [a,b] => some (a.txt,b.num)
 | _ => none
def rdV (v : Mv) : List Nm := v.lst.filterMap Zfy
def rdD (b : List UInt8) : List Nm := match decM b with
 | some v => rdV v
 | none => []
def NmOk (l : List Nm) : Prop := l.length ≤ 1024 ∧ ∀ x ∈ l,x.1.length ≤ 64 ∧ 0 ≤ x.2 ∧ x.2 ≤ 1000000
theorem Zkk (x : Nm) (m : Nat) : chkM (m + 1) (Ze1 x) = 0 := Zjk fun y hy => by
 simp only [List.mem_cons,List.not_mem_nil,or_false] at hy
 rcases hy with rfl | rfl
 ·exact Zgh _ _
 ·exact Zsz _ _
theorem Zsy (l : List Nm) : chkM 8 (dirM l) = 0 := Zjk fun y hy => by
 obtain ⟨x,_,rfl⟩ := List.mem_map.1 hy
 exact Zkk x _
theorem Zv7 {x : Nm} (h : x.1.length ≤ 64 ∧ 0 ≤ x.2 ∧ x.2 ≤ 1000000) : fitM (Ze1 x) := by
 rw [Ze1,fitM,Ze0,Ze0,Ze0,fitM,fitM,Ze0]
 refine ⟨by omega,by simp,⟨by omega,by omega,trivial⟩,⟨by omega,by simp,trivial⟩,trivial⟩
theorem Zso {l : List Nm} (h : ∀ x ∈ l,x.1.length ≤ 64 ∧ 0 ≤ x.2 ∧ x.2 ≤ 1000000) : fitM (dirM l) := by
 rw [dirM,fitM,fitMs_mem]
 refine ⟨by omega,by simp,fun y hy => ?_⟩
 obtain ⟨x,hx,rfl⟩ := List.mem_map.1 hy
 exact Zv7 (h x hx)
theorem Zx8 (l : List Nm) : rdV (dirM l) = l := by
 show List.filterMap Zfy (l.map Ze1) = l
 rw [List.filterMap_map]
 have : (Zfy ∘ Ze1) = some := by funext x; rfl
 rw [this,List.filterMap_some]
theorem Zvf {l : List Nm} (h : ∀ x ∈ l,x.1.length ≤ 64 ∧ 0 ≤ x.2 ∧ x.2 ≤ 1000000) : rdD (wrD l) = l := by
 unfold rdD wrD
 rw [Zsw (Zsy l) (Zso h)]
 exact Zx8 l
theorem Zmr : ∀ (k u : Nat),u < 10 ^ (k + 1) → (Lib.decDigits u).length ≤ k + 1
 | 0,u,h => by rw [Lib.decDigits_one (by simpa using h)]; simp
 | k + 1,u,h => by
  rw [Lib.decDigits]
  by_cases h' : u < 10
  ·rw [dif_pos h']; simp
  ·rw [dif_neg h',List.length_append]
   have := Zmr k (u / 10) (by rw [Nat.pow_succ] at h; omega)
   simp; omega
theorem Zex {n : Int} (h0 : 0 ≤ n) (h1 : n ≤ 1000000) : (Lib.itoa n).length ≤ 7 := by
 obtain ⟨u,rfl⟩ : ∃ u : Nat,n = u := ⟨n.toNat,by omega⟩
 rw [Zdp]; exact Zmr 6 u (by omega)
theorem Zwe {x : Nm} (h : x.1.length ≤ 64 ∧ 0 ≤ x.2 ∧ x.2 ≤ 1000000) : (encM (Ze1 x)).length ≤ 83 := by
 have h1 := Zex (n := (x.1.length : Nat)) (by omega) (by omega)
 have h2 := Zex h.2.1 h.2.2
 rw [Ze1,Zbo,Za0,Za0,Za0,Zdb,Zfe]
 simp only [List.length_cons,List.length_append,List.length_nil]
 omega
theorem Zl6 : ∀ {l : List Nm},(∀ x ∈ l,x.1.length ≤ 64 ∧ 0 ≤ x.2 ∧ x.2 ≤ 1000000) → (Za0 (l.map Ze1)).length ≤ 83 * l.length
 | [],_ => by simp [Za0]
 | x :: l,h => by
  have h1 := Zwe (h x (List.mem_cons_self ..))
  have h2 := Zl6 fun y hy => h y (List.mem_cons_of_mem _ hy)
  rw [List.map_cons,Za0,List.length_append,List.length_cons]; omega
theorem Zp6 {l : List Nm} (h : NmOk l) : (wrD l).length ≤ 84994 := by
 have := Zl6 h.2
 have := h.1
 rw [wrD,dirM,Zbo]
 simp only [List.length_cons,List.length_append,List.length_nil]; omega
theorem Zxn (x : Nm) : wM (Ze1 x) = 3 + x.1.length := by
 simp only [Ze1,Zk3,wMs,List.length_nil]; omega
theorem Zrn : ∀ {l : List Nm},(∀ x ∈ l,x.1.length ≤ 64) → wMs (l.map Ze1) ≤ 67 * l.length
 | [],_ => by simp [wMs]
 | x :: l,h => by
  have h1 := h x (List.mem_cons_self ..)
  have h2 := Zrn fun y hy => h y (List.mem_cons_of_mem _ hy)
  rw [List.map_cons,wMs,Zxn,List.length_cons]; omega
theorem Z0j {l : List Nm} (h : NmOk l) : wM (dirM l) ≤ 1048576 := by
 have := Zrn (l := l) fun x hx => (h.2 x hx).1
 have := h.1
 rw [dirM,Zk3]; simp only [List.length_nil]; omega
theorem Zjj {m : Nat} : ∀ {l : List Mv},(∀ x ∈ l,chkM m x = 0) → 2 * l.length ≤ (Za0 l).length
 | [],_ => by simp
 | x :: l,h => by
  have h1 := Zng (h x (List.mem_cons_self ..))
  have h2 := Zjj (m := m) fun y hy => h y (List.mem_cons_of_mem _ hy)
  rw [Za0,List.length_append,List.length_cons]; omega
theorem Zma {s : List UInt8} {v : Mv} (h : decM s = some v) : 2 * v.lst.length ≤ s.length := by
 obtain ⟨rfl,hc,_⟩ := Zud h
 rcases Zc6 hc with ⟨n,rfl⟩ | ⟨b,rfl⟩ | ⟨l,m',rfl,_,hl⟩
 ·simp [Mv.lst]
 ·simp [Mv.lst]
 ·have := Zjj hl
  rw [Zbo]; simp [Mv.lst]; omega
end Cr
namespace Go.Proofs
open Go.Shelf
def Tryz.laysM171_ren : Go.Shelf.Ren := ⟨fun | 171 => 65 | 243 => 114 | 246 => 173 | 283 => 216 | 284 => 217 | 285 => 218 | 286 => 219 | 129 => 244 | 317 => 243 | 318 => 245 | 319 => 246 | 320 => 247 | 337 => 263 | 338 => 264 | n => n,fun | 3 => 3 | 9 => 9 | 2 => 2 | 4 => 4 | 171 => 348 | 0 => 0 | 53 => 45 | 37 => 35 | 5 => 5 | 173 => 351 | 212 => 371 | 51 => 164 | 20 => 20 | 213 => 372 | 46 => 238 | 232 => 56 | 233 => 234 | n => n,fun | 17 => 3 | 18 => 4 | 19 => 5 | n => n⟩
theorem Tryz.laysM171 : Go.Proofs.LaysM.n171 Tryz.prog Tryz.laysM171_ren := {
 mixed := by kernel_rfl
 f129 := Tryz.func244.trans (congrArg some (by kernel_rfl))
 f171 := Tryz.func65.trans (congrArg some (by kernel_rfl))
 f243 := Tryz.func114.trans (congrArg some (by kernel_rfl))
 f246 := Tryz.func173.trans (congrArg some (by kernel_rfl))
 f283 := Tryz.func216.trans (congrArg some (by kernel_rfl))
 f284 := Tryz.func217.trans (congrArg some (by kernel_rfl))
 f285 := Tryz.func218.trans (congrArg some (by kernel_rfl))
 f286 := Tryz.func219.trans (congrArg some (by kernel_rfl))
 f317 := Tryz.func243.trans (congrArg some (by kernel_rfl))
 f318 := Tryz.func245.trans (congrArg some (by kernel_rfl))
 f319 := Tryz.func246.trans (congrArg some (by kernel_rfl))
 f320 := Tryz.func247.trans (congrArg some (by kernel_rfl))
 f337 := Tryz.func263.trans (congrArg some (by kernel_rfl))
 f338 := Tryz.func264.trans (congrArg some (by kernel_rfl))
 t0 := Tryz.underlying0
 a0 := Tryz.isAgg0
 z0 := Tryz.sizeOf0
 v0 := Tryz.zeroValue0
 t2 := Tryz.underlying2
 a2 := Tryz.isAgg2
 z2 := Tryz.sizeOf2
 v2 := Tryz.zeroValue2
 t3 := Tryz.underlying3
 a3 := Tryz.isAgg3
 z3 := Tryz.sizeOf3
 v3 := Tryz.zeroValue3
 t4 := Tryz.underlying4
 a4 := Tryz.isAgg4
 z4 := Tryz.sizeOf4
 v4 := Tryz.zeroValue4
 t5 := Tryz.underlying5
 a5 := Tryz.isAgg5
 z5 := Tryz.sizeOf5
 v5 := Tryz.zeroValue5
 t9 := Tryz.underlying9
 a9 := Tryz.isAgg9
 z9 := Tryz.sizeOf9
 v9 := Tryz.zeroValue9
 t20 := Tryz.underlying20
 a20 := Tryz.isAgg20
 z20 := Tryz.sizeOf20
 v20 := Tryz.zeroValue20
 t37 := Tryz.underlying35
 a37 := Tryz.isAgg35
 z37 := Tryz.sizeOf35
 v37 := Tryz.zeroValue35
 t46 := Tryz.underlying238
 a46 := Tryz.isAgg238
 z46 := Tryz.sizeOf238
 v46 := Tryz.zeroValue238
 t51 := Tryz.underlying164
 a51 := Tryz.isAgg164
 z51 := Tryz.sizeOf164
 v51 := Tryz.zeroValue164
 t53 := Tryz.underlying45
 a53 := Tryz.isAgg45
 z53 := Tryz.sizeOf45
 v53 := Tryz.zeroValue45
 t171 := Tryz.underlying348
 a171 := Tryz.isAgg348
 z171 := Tryz.sizeOf348
 v171 := Tryz.zeroValue348
 t173 := Tryz.underlying351
 a173 := Tryz.isAgg351
 z173 := Tryz.sizeOf351
 v173 := Tryz.zeroValue351
 t212 := Tryz.underlying371
 a212 := Tryz.isAgg371
 z212 := Tryz.sizeOf371
 v212 := Tryz.zeroValue371
 t213 := Tryz.underlying372
 a213 := Tryz.isAgg372
 z213 := Tryz.sizeOf372
 t232 := Tryz.underlying56
 a232 := Tryz.isAgg56
 z232 := Tryz.sizeOf56
 v232 := Tryz.zeroValue56
 t233 := Tryz.underlying234
 a233 := Tryz.isAgg234
 z233 := Tryz.sizeOf234
 v233 := Tryz.zeroValue234
 g17 := by kernel_rfl
 g18 := by kernel_rfl
 g19 := by kernel_rfl
 i0 := by kernel_rfl
 i2 := by kernel_rfl
 i3 := by kernel_rfl
 i4 := by kernel_rfl
 i5 := by kernel_rfl
 i9 := by kernel_rfl
 i20 := by kernel_rfl
 i37 := by kernel_rfl
 i46 := by kernel_rfl
 i51 := by kernel_rfl
 i53 := by kernel_rfl
 i171 := by kernel_rfl
 i173 := by kernel_rfl
 i212 := by kernel_rfl
 i232 := by kernel_rfl
 i233 := by kernel_rfl
 m17 := by kernel_rfl
 m18 := by kernel_rfl
 m19 := by kernel_rfl }
open Go.RowKit Go.Sort Go.Lib in
theorem Tryz.strconv_Itoa (n : Int) (h0 : -9223372036854775808 ≤ n) (h1 : n ≤ 9223372036854775807) (w : World) (htab : Lib.TabIs Tryz.prog w "internal/strconv.uint64pow10" .u64 Lib.pow10Tab) :
  Calls Tryz.prog 65 #[.int .i64 n] w fun e w' => e = .returned (.string ⟨(Lib.itoa n).toArray⟩) ∧ ∃ k os,w' = grow (w.drewN k) os := Any.strconv_Itoa Tryz.laysM171 n h0 h1 w htab
def Tryz.laysC172_ren : Go.Shelf.Ren := ⟨fun | 172 => 239 | 244 => 261 | 245 => 262 | 247 => 282 | 279 => 283 | 280 => 284 | 281 => 285 | 282 => 286 | 287 => 293 | 316 => 294 | 171 => 65 | 205 => 295 | 321 => 297 | 322 => 298 | 243 => 114 | 246 => 173 | 283 => 216 | 284 => 217 | 285 => 218 | 286 => 219 | 129 => 244 | 317 => 243 | 318 => 245 | 319 => 246 | 320 => 247 | 337 => 263 | 338 => 264 | n => n,fun | 9 => 9 | 3 => 3 | 75 => 246 | 76 => 247 | 4 => 4 | 5 => 5 | 167 => 396 | 37 => 35 | 0 => 0 | 85 => 397 | 2 => 2 | 168 => 399 | 53 => 45 | 175 => 408 | 46 => 238 | 210 => 411 | 127 => 313 | 145 => 419 | 143 => 417 | 21 => 21 | 171 => 348 | 173 => 351 | 212 => 371 | 51 => 164 | 20 => 20 | 213 => 372 | 232 => 56 | 233 => 234 | 80 => 249 | n => n,fun | 15 => 6 | 16 => 7 | 17 => 3 | 18 => 4 | 19 => 5 | n => n⟩
theorem Tryz.laysC172 : Go.Proofs.LaysC.n172 Tryz.prog Tryz.laysC172_ren := {
 mixed := by kernel_rfl
 f129 := Tryz.func244.trans (congrArg some (by kernel_rfl))
 f171 := Tryz.func65.trans (congrArg some (by kernel_rfl))
 f172 := Tryz.func239.trans (congrArg some (by kernel_rfl))
 f205 := Tryz.func295.trans (congrArg some (by kernel_rfl))
 f243 := Tryz.func114.trans (congrArg some (by kernel_rfl))
 f244 := Tryz.func261.trans (congrArg some (by kernel_rfl))
 f245 := Tryz.func262.trans (congrArg some (by kernel_rfl))
 f246 := Tryz.func173.trans (congrArg some (by kernel_rfl))
 f247 := Tryz.func282.trans (congrArg some (by kernel_rfl))
 f279 := Tryz.func283.trans (congrArg some (by kernel_rfl))
 f280 := Tryz.func284.trans (congrArg some (by kernel_rfl))
 f281 := Tryz.func285.trans (congrArg some (by kernel_rfl))
 f282 := Tryz.func286.trans (congrArg some (by kernel_rfl))
 f283 := Tryz.func216.trans (congrArg some (by kernel_rfl))
 f284 := Tryz.func217.trans (congrArg some (by kernel_rfl))
 f285 := Tryz.func218.trans (congrArg some (by kernel_rfl))
 f286 := Tryz.func219.trans (congrArg some (by kernel_rfl))
 f287 := Tryz.func293.trans (congrArg some (by kernel_rfl))
 f316 := Tryz.func294.trans (congrArg some (by kernel_rfl))
 f317 := Tryz.func243.trans (congrArg some (by kernel_rfl))
 f318 := Tryz.func245.trans (congrArg some (by kernel_rfl))
 f319 := Tryz.func246.trans (congrArg some (by kernel_rfl))
 f320 := Tryz.func247.trans (congrArg some (by kernel_rfl))
 f321 := Tryz.func297.trans (congrArg some (by kernel_rfl))
 f322 := Tryz.func298.trans (congrArg some (by kernel_rfl))
 f337 := Tryz.func263.trans (congrArg some (by kernel_rfl))
 f338 := Tryz.func264.trans (congrArg some (by kernel_rfl))
 t0 := Tryz.underlying0
 a0 := Tryz.isAgg0
 z0 := Tryz.sizeOf0
 v0 := Tryz.zeroValue0
 t2 := Tryz.underlying2
 a2 := Tryz.isAgg2
 z2 := Tryz.sizeOf2
 v2 := Tryz.zeroValue2
 t3 := Tryz.underlying3
 a3 := Tryz.isAgg3
 z3 := Tryz.sizeOf3
 v3 := Tryz.zeroValue3
 t4 := Tryz.underlying4
 a4 := Tryz.isAgg4
 z4 := Tryz.sizeOf4
 v4 := Tryz.zeroValue4
 t5 := Tryz.underlying5
 a5 := Tryz.isAgg5
 z5 := Tryz.sizeOf5
 v5 := Tryz.zeroValue5
 t9 := Tryz.underlying9
 a9 := Tryz.isAgg9
 z9 := Tryz.sizeOf9
 v9 := Tryz.zeroValue9
 t20 := Tryz.underlying20
 a20 := Tryz.isAgg20
 z20 := Tryz.sizeOf20
 v20 := Tryz.zeroValue20
 t21 := Tryz.underlying21
 a21 := Tryz.isAgg21
 z21 := Tryz.sizeOf21
 v21 := Tryz.zeroValue21
 t37 := Tryz.underlying35
 a37 := Tryz.isAgg35
 z37 := Tryz.sizeOf35
 v37 := Tryz.zeroValue35
 t46 := Tryz.underlying238
 a46 := Tryz.isAgg238
 z46 := Tryz.sizeOf238
 v46 := Tryz.zeroValue238
 t51 := Tryz.underlying164
 a51 := Tryz.isAgg164
 z51 := Tryz.sizeOf164
 v51 := Tryz.zeroValue164
 t53 := Tryz.underlying45
 a53 := Tryz.isAgg45
 z53 := Tryz.sizeOf45
 v53 := Tryz.zeroValue45
 t75 := Tryz.underlying246
 a75 := Tryz.isAgg246
 z75 := Tryz.sizeOf246
 v75 := Tryz.zeroValue246
 t76 := Tryz.underlying247
 a76 := Tryz.isAgg247
 z76 := Tryz.sizeOf247
 v76 := Tryz.zeroValue247
 t85 := Tryz.underlying397
 a85 := Tryz.isAgg397
 z85 := Tryz.sizeOf397
 v85 := Tryz.zeroValue397
 t127 := Tryz.underlying313
 a127 := Tryz.isAgg313
 z127 := Tryz.sizeOf313
 v127 := Tryz.zeroValue313
 t143 := Tryz.underlying417
 a143 := Tryz.isAgg417
 z143 := Tryz.sizeOf417
 v143 := Tryz.zeroValue417
 t145 := Tryz.underlying419
 a145 := Tryz.isAgg419
 z145 := Tryz.sizeOf419
 v145 := Tryz.zeroValue419
 t167 := Tryz.underlying396
 a167 := Tryz.isAgg396
 z167 := Tryz.sizeOf396
 v167 := Tryz.zeroValue396
 t168 := Tryz.underlying399
 a168 := Tryz.isAgg399
 z168 := Tryz.sizeOf399
 v168 := Tryz.zeroValue399
 t171 := Tryz.underlying348
 a171 := Tryz.isAgg348
 z171 := Tryz.sizeOf348
 v171 := Tryz.zeroValue348
 t173 := Tryz.underlying351
 a173 := Tryz.isAgg351
 z173 := Tryz.sizeOf351
 v173 := Tryz.zeroValue351
 t175 := Tryz.underlying408
 a175 := Tryz.isAgg408
 z175 := Tryz.sizeOf408
 v175 := Tryz.zeroValue408
 t210 := Tryz.underlying411
 a210 := Tryz.isAgg411
 z210 := Tryz.sizeOf411
 v210 := Tryz.zeroValue411
 t212 := Tryz.underlying371
 a212 := Tryz.isAgg371
 z212 := Tryz.sizeOf371
 v212 := Tryz.zeroValue371
 t213 := Tryz.underlying372
 a213 := Tryz.isAgg372
 z213 := Tryz.sizeOf372
 t232 := Tryz.underlying56
 a232 := Tryz.isAgg56
 z232 := Tryz.sizeOf56
 v232 := Tryz.zeroValue56
 t233 := Tryz.underlying234
 a233 := Tryz.isAgg234
 z233 := Tryz.sizeOf234
 v233 := Tryz.zeroValue234
 g15 := by kernel_rfl
 g16 := by kernel_rfl
 g17 := by kernel_rfl
 g18 := by kernel_rfl
 g19 := by kernel_rfl
 t80 := Tryz.underlying249
 a80 := Tryz.isAgg249
 z80 := Tryz.sizeOf249
 v80 := Tryz.zeroValue249
 i0 := by kernel_rfl
 i2 := by kernel_rfl
 i3 := by kernel_rfl
 i4 := by kernel_rfl
 i5 := by kernel_rfl
 i9 := by kernel_rfl
 i20 := by kernel_rfl
 i21 := by kernel_rfl
 i37 := by kernel_rfl
 i46 := by kernel_rfl
 i51 := by kernel_rfl
 i53 := by kernel_rfl
 i75 := by kernel_rfl
 i76 := by kernel_rfl
 i80 := by kernel_rfl
 i85 := by kernel_rfl
 i127 := by kernel_rfl
 i143 := by kernel_rfl
 i145 := by kernel_rfl
 i167 := by kernel_rfl
 i168 := by kernel_rfl
 i171 := by kernel_rfl
 i173 := by kernel_rfl
 i175 := by kernel_rfl
 i210 := by kernel_rfl
 i212 := by kernel_rfl
 i232 := by kernel_rfl
 i233 := by kernel_rfl
 m15 := by kernel_rfl
 m16 := by kernel_rfl
 m17 := by kernel_rfl
 m18 := by kernel_rfl
 m19 := by kernel_rfl
 c0 := by kernel_rfl
 c2 := by kernel_rfl
 c3 := by kernel_rfl
 c4 := by kernel_rfl
 c5 := by kernel_rfl
 c9 := by kernel_rfl
 c20 := by kernel_rfl
 c21 := by kernel_rfl
 c37 := by kernel_rfl
 c46 := by kernel_rfl
 c51 := by kernel_rfl
 c53 := by kernel_rfl
 c75 := by kernel_rfl
 c76 := by kernel_rfl
 c80 := by kernel_rfl
 c85 := by kernel_rfl
 c127 := by kernel_rfl
 c143 := by kernel_rfl
 c145 := by kernel_rfl
 c167 := by kernel_rfl
 c168 := by kernel_rfl
 c171 := by kernel_rfl
 c173 := by kernel_rfl
 c175 := by kernel_rfl
 c210 := by kernel_rfl
 c212 := by kernel_rfl
 c213 := by kernel_rfl
 c232 := by kernel_rfl
 c233 := by kernel_rfl }
open Go.RowKit in
theorem Tryz.strconv_Atoi_ok (s : ByteArray) (hmax : s.size ≤ 9223372036854775806) (v : Int) (h : Lib.atoiAll s.data.toList = .ok v) (w : World) :
  Calls Tryz.prog 239 #[.string s] w fun e w' => e = .returned (.tuple #[.int .i64 v,.nilIface]) ∧ (w' = w ∨ ∃ t,w' = Lib.bytesWorld w 5 t) := Any.strconv_Atoi_ok Tryz.laysC172 s hmax v h w
open Go.RowKit in
theorem Tryz.strconv_Atoi_range_var (s : ByteArray) (hlim : s.size ≤ 281474976710656) (h : Lib.atoiAll s.data.toList = .range) (tp : TypeId) (p : Value) (w : World) (hvar : w.var? Tryz.prog "strconv.ErrRange" = some #[.iface tp p]) :
  Calls Tryz.prog 239 #[.string s] w fun e w' => ∃ N,e = .returned (.tuple #[.int .i64 (Lib.atoiSat s.data.toList),.iface 399 (.pointer (some ⟨N,0,none⟩))]) ∧ w.heap.size ≤ N ∧ w'.heap[N]? = some (.cells #[.string ⟨#[65,116,111,105]⟩,.string s,.iface tp p] 411 (0,0)) ∧ Below w.heap.size w w' := Any.strconv_Atoi_range_var Tryz.laysC172 s hlim h tp p w hvar
def Tryz.lays189_ren : Go.Shelf.Ren := ⟨fun | 189 => 234 | 125 => 259 | 257 => 258 | 128 => 281 | 129 => 244 | 294 => 272 | 295 => 273 | 296 => 274 | 297 => 275 | 298 => 276 | 299 => 277 | 216 => 278 | 300 => 279 | 301 => 280 | 328 => 287 | 329 => 288 | 330 => 289 | 331 => 290 | 332 => 291 | 215 => 292 | 343 => 296 | n => n,fun | 28 => 270 | 3 => 3 | 46 => 238 | 0 => 0 | 51 => 164 | 53 => 45 | 4 => 4 | 183 => 391 | 182 => 390 | 131 => 143 | 5 => 5 | 9 => 9 | 218 => 402 | 222 => 406 | 228 => 413 | 229 => 414 | n => n,fun | n => n⟩
theorem Tryz.lays189 : Go.Proofs.Lays.n189 Tryz.prog Tryz.lays189_ren := {
 mixed := by kernel_rfl
 f125 := Tryz.func259.trans (congrArg some (by kernel_rfl))
 f128 := Tryz.func281.trans (congrArg some (by kernel_rfl))
 f129 := Tryz.func244.trans (congrArg some (by kernel_rfl))
 f189 := Tryz.func234.trans (congrArg some (by kernel_rfl))
 f215 := Tryz.func292.trans (congrArg some (by kernel_rfl))
 f216 := Tryz.func278.trans (congrArg some (by kernel_rfl))
 f257 := Tryz.func258.trans (congrArg some (by kernel_rfl))
 f294 := Tryz.func272.trans (congrArg some (by kernel_rfl))
 f295 := Tryz.func273.trans (congrArg some (by kernel_rfl))
 f296 := Tryz.func274.trans (congrArg some (by kernel_rfl))
 f297 := Tryz.func275.trans (congrArg some (by kernel_rfl))
 f298 := Tryz.func276.trans (congrArg some (by kernel_rfl))
 f299 := Tryz.func277.trans (congrArg some (by kernel_rfl))
 f300 := Tryz.func279.trans (congrArg some (by kernel_rfl))
 f301 := Tryz.func280.trans (congrArg some (by kernel_rfl))
 f328 := Tryz.func287.trans (congrArg some (by kernel_rfl))
 f329 := Tryz.func288.trans (congrArg some (by kernel_rfl))
 f330 := Tryz.func289.trans (congrArg some (by kernel_rfl))
 f331 := Tryz.func290.trans (congrArg some (by kernel_rfl))
 f332 := Tryz.func291.trans (congrArg some (by kernel_rfl))
 f343 := Tryz.func296.trans (congrArg some (by kernel_rfl))
 t0 := Tryz.underlying0
 a0 := Tryz.isAgg0
 z0 := Tryz.sizeOf0
 v0 := Tryz.zeroValue0
 t3 := Tryz.underlying3
 a3 := Tryz.isAgg3
 z3 := Tryz.sizeOf3
 v3 := Tryz.zeroValue3
 t4 := Tryz.underlying4
 a4 := Tryz.isAgg4
 z4 := Tryz.sizeOf4
 v4 := Tryz.zeroValue4
 t5 := Tryz.underlying5
 a5 := Tryz.isAgg5
 z5 := Tryz.sizeOf5
 v5 := Tryz.zeroValue5
 t9 := Tryz.underlying9
 a9 := Tryz.isAgg9
 z9 := Tryz.sizeOf9
 v9 := Tryz.zeroValue9
 t28 := Tryz.underlying270
 a28 := Tryz.isAgg270
 z28 := Tryz.sizeOf270
 v28 := Tryz.zeroValue270
 t46 := Tryz.underlying238
 a46 := Tryz.isAgg238
 z46 := Tryz.sizeOf238
 v46 := Tryz.zeroValue238
 t51 := Tryz.underlying164
 a51 := Tryz.isAgg164
 z51 := Tryz.sizeOf164
 v51 := Tryz.zeroValue164
 t53 := Tryz.underlying45
 a53 := Tryz.isAgg45
 z53 := Tryz.sizeOf45
 v53 := Tryz.zeroValue45
 t131 := Tryz.underlying143
 a131 := Tryz.isAgg143
 z131 := Tryz.sizeOf143
 v131 := Tryz.zeroValue143
 t182 := Tryz.underlying390
 a182 := Tryz.isAgg390
 z182 := Tryz.sizeOf390
 v182 := Tryz.zeroValue390
 t183 := Tryz.underlying391
 a183 := Tryz.isAgg391
 z183 := Tryz.sizeOf391
 v183 := Tryz.zeroValue391
 t218 := Tryz.underlying402
 a218 := Tryz.isAgg402
 z218 := Tryz.sizeOf402
 v218 := Tryz.zeroValue402
 t222 := Tryz.underlying406
 a222 := Tryz.isAgg406
 z222 := Tryz.sizeOf406
 v222 := Tryz.zeroValue406
 t228 := Tryz.underlying413
 a228 := Tryz.isAgg413
 z228 := Tryz.sizeOf413
 v228 := Tryz.zeroValue413
 t229 := Tryz.underlying414
 a229 := Tryz.isAgg414
 z229 := Tryz.sizeOf414
 v229 := Tryz.zeroValue414 }
open Go.Sort Go.RowKit in
theorem Tryz.slices_Sort_int (blk off cap : Nat) (zs : List Int) (w : World) (hH : Holds (Value.int .i64) w blk off zs.toArray) (hblk : blk < w.heap.size) (hsz : zs.length < 4611686018427387904) :
  Calls Tryz.prog 234 #[.slice (some ⟨blk,off,none⟩) zs.length cap] w fun e w' =>
   e = .returned (.tuple #[]) ∧ ∃ n os,w' = grow (putRow (Value.int .i64) (Sort.ahead w n) blk off (zs.mergeSort fun x y => decide (x ≤ y)).toArray) os := Any.slices_Sort_int Tryz.lays189 blk off cap zs w hH hblk hsz
open Go.RowKit Go.Sort in
theorem Tryz.slices_Sort_int_none (p : Option Addr) (cap : Nat) (w : World) :
  Calls Tryz.prog 234 #[.slice p 0 cap] w fun e w' => e = .returned (.tuple #[]) ∧ w' = w := Any.slices_Sort_int_none Tryz.lays189 p cap w
end Go.Proofs
namespace Cr
open Go Go.Proofs
set_option maxRecDepth 100000
set_option maxHeartbeats 4000000
attribute [local irreducible] Calls

def glob (g : Nat) (cs : List Value) : Res := fun h => ∃ t fz,h = Zb9 g (.cells cs.toArray t fz)
theorem Zsk {P : Program} {w : World} {g : Nat} {cs : List Value} {n : String} (hg : P.globalNamed n = some g) (H : Rd w (glob g cs)) : w.var? P n = some cs.toArray := by
 obtain ⟨h,⟨t,fz,rfl⟩,ha⟩ := H
 have hb := ha g _ (Zam _ _)
 unfold World.var?
 rw [hg]
 simp only [Option.bind_some]
 rw [hb]
theorem glob_of_var {P : Program} {w : World} {g : Nat} {cs : Array Value} {n : String} (hg : P.globalNamed n = some g) (H : w.var? P n = some cs) : Rd w (glob g cs.toList) := by
 unfold World.var? at H
 rw [hg] at H
 simp only [Option.bind_some] at H
 cases hb : w.heap[g]? with
 | none => rw [hb] at H; cases H
 | some o =>
  cases o with
  | cells c t fz =>
   rw [hb] at H
   obtain rfl : c = cs := by simpa using H
   refine ⟨Zb9 g (.cells c t fz),⟨t,fz,by simp⟩,fun b o e => ?_⟩
   obtain ⟨rfl,rfl⟩ := Zhj e
   exact hb
  | _ => rw [hb] at H; cases H
def Lg (W : World) (F : Nat → Prop) : Prop := Ro W F (glob 3 (Lib.pow10Tab.map fun z => Value.int .u64 z)) ∧ ∃ tp p,Ro W F (glob 7 [.iface tp p])
theorem Lg.mono {W W' : World} {F F' : Nat → Prop} (H : Lg W F) (hm : ∀ r,Ro W F r → Ro W' F' r) : Lg W' F' := by
 obtain ⟨h1,tp,p,h2⟩ := H
 exact ⟨hm _ h1,tp,p,hm _ h2⟩
theorem Z1m (n : Int) (W : World) (F : Nat → Prop) (hG : Lg W F) (h0 : -9223372036854775808 ≤ n) (h1 : n ≤ 9223372036854775807) :
  Calls Tryz.prog 65 #[.int .i64 n] W (Ret fun v w => v = .string (str (Lib.itoa n)) ∧ St W noF [] w) := by
 refine (Tryz.strconv_Itoa n h0 h1 W (Zsk (by kernel_rfl) hG.1.start)).mono ?_
 rintro e w ⟨rfl,k,os,rfl⟩
 refine ⟨_,rfl,rfl,(St.start W).below ⟨rfl,rfl,rfl,by simp [Sort.grow],fun j hj => ?_⟩⟩
 show (W.heap ++ os)[j]? = _
 rw [Array.getElem?_append_left hj]
theorem Z5v (s : List UInt8) (W : World) (F : Nat → Prop) (hG : Lg W F) (hl : s.length ≤ 1099511627776) (hs : (∃ n,Lib.atoiAll s = .ok n) ∨ Lib.atoiAll s = .range) :
  Calls Tryz.prog 239 #[.string (str s)] W (Ret fun v w => (∃ n er,v = .tuple #[.int .i64 n,er] ∧ ((Lib.atoiAll s = .ok n ∧ er = .nilIface) ∨ (Lib.atoiAll s = .range ∧ ∃ t p,er = .iface t p))) ∧ St W noF [] w) := by
 have hz : (str s).size = s.length := Zbn s
 have ht : (str s).data.toList = s := by simp [str]
 rcases hs with ⟨n,h⟩ | h
 ·refine (Tryz.strconv_Atoi_ok (str s) (by omega) n (by rw [ht]; exact h) W).mono ?_
  rintro e w ⟨rfl,hw⟩
  refine ⟨_,rfl,⟨n,_,rfl,.inl ⟨h,rfl⟩⟩,?_⟩
  rcases hw with rfl | ⟨t,rfl⟩
  ·exact St.start _
  ·exact (St.start W).below (Lib.bytesWorld_below W _ t)
 ·obtain ⟨tp,p,he⟩ := hG.2
  have hv := Zsk (P := Tryz.prog) (n := "strconv.ErrRange") (by kernel_rfl) he.start
  refine (Tryz.strconv_Atoi_range_var (str s) (by omega) (by rw [ht]; exact h) tp p W hv).mono ?_
  rintro e w ⟨N,rfl,_,_,hb⟩
  exact ⟨_,rfl,⟨_,_,rfl,.inr ⟨h,_,_,rfl⟩⟩,(St.start W).below hb⟩
end Cr
namespace Cr
open Go Go.Proofs
set_option maxRecDepth 100000
set_option maxHeartbeats 4000000
attribute [local irreducible] Calls

abbrev rdC (a : Option Addr) (n c : Nat) (i : Nat) (e : Int) : List Value := [.slice a n c,.int .i64 (i : Nat),.int .i64 e]
abbrev Rdr (p : Nat) (a : Option Addr) (n c : Nat) (i : Nat) (e : Int) : Res := pts p (.cells (rdC a n c i e).toArray 303 (0,0))

theorem Zin (p : Nat) (a : Option Addr) (n c : Nat) (i : Nat) (e : Int) (W : World) (hc : Rd W (Rdr p a n c i e)) :
  Calls Tryz.prog 209 #[.pointer (some ⟨p,0,none⟩)] W (Ret fun v w => v = .bool (decide (i < n)) ∧ St W noF [] w) := by
 have hS := St.start W
 replace hc := hc.ro
 refine Zab Tryz.func209 rfl Tryz.ntmps209 rfl ?_
 repeat (first|refine Yd7 ?_|refine Yag ?_|refine Yd8 ?_|refine Yab ?_)
 refine Zao (.s 0 (.s 1 (.s 2 (.s 3 (.s 4 (.s 5 (.s 6 (.s 7 (.s 8 (.s 9 (.s 10 .nil))))))))))) mixed (by kernel_rfl) rfl ?_
 have hS := hS.drew
 repeat (first|refine Yah ?_|refine Yd9 ?_|(refine Zad ?_;first|refine Yaz ?_|refine Ya2 ?_|refine Ybk ?_|refine Ybp ?_|refine Ybe ?_|refine Ydm ?_|refine Zak rfl rfl (fun _ => Zpv rfl rfl rfl) rfl rfl ?_|refine Ycy ?_))
 refine ⟨?_,hS⟩
 congr 2
 exact propext (by omega)
theorem Zjo (p : Nat) (a : Option Addr) (n c : Nat) (i : Nat) (e k : Int) (W : World) (F : Nat → Prop) (hS : St W F [Rdr p a n c i e] W) :
  Calls Tryz.prog 210 #[.pointer (some ⟨p,0,none⟩),.int .i64 k] W (Ret fun v w => v = .tuple #[] ∧ St W F [Rdr p a n c i (if e = 0 then k else e)] w) := by
 by_cases h : e = 0
 ·refine Zab Tryz.func210 rfl Tryz.ntmps210 rfl ?_
  repeat (first|refine Yd7 ?_|(refine X_id ?_;first|refine Yaf ?_|refine Yat ?_|refine Yan ?_|refine Ybh ?_|refine Yap ?_|refine Yao (fun _ hS _ => ?_))|refine Yeh ?_|refine Yab ?_|refine Ybu ?_)
  rw [if_pos h]
  exact ⟨rfl,hS⟩
 ·refine Zab Tryz.func210 rfl Tryz.ntmps210 rfl ?_
  repeat (first|refine Yd7 ?_|(refine X_id ?_;first|refine Yaf ?_|refine Yat ?_|refine Yan ?_|refine Ybi ?_|refine Yap ?_)|refine Yei ?_|refine Yab ?_|refine Ybu ?_)
  rw [if_neg h]
  exact ⟨rfl,hS⟩
theorem Z5j {s : List UInt8} {i j : Nat} {k : UInt8} (h : i < s.length) (hj : j = i) : decide (((s.getD j 0).toNat : Int) = (k.toNat : Int)) = decide (s[i]? = some k) := by
 subst hj
 rw [List.getD_eq_getElem?_getD,List.getElem?_eq_getElem h,Option.getD_some]
 congr 1
 simp only [Option.some.injEq]
 exact propext ⟨fun h => UInt8.toNat_inj.1 (by omega),fun h => by rw [h]⟩
theorem is_ (p : Nat) (a : Option Addr) (s : List UInt8) (c : Nat) (i : Nat) (e : Int) (k : UInt8) (W : World) (hc : Rd W (Rdr p a s.length c i e)) (hb : Rd W (bytes a s)) :
  Calls Tryz.prog 211 #[.pointer (some ⟨p,0,none⟩),.int .u8 (k.toNat : Int)] W (Ret fun v w => v = .bool (decide (s[i]? = some k)) ∧ St W noF [] w) := by
 have hS := St.start W
 have hm := Zin p a s.length c i e
 by_cases h : i < s.length
 ·simp only [decide_eq_true h] at hm
  obtain ⟨ab,ao,rfl⟩ := hb.base (by intro e; have := Zaf s; rw [e] at this; simp at this; omega)
  replace hc := hc.ro
  replace hb := hb.ro
  refine Zab Tryz.func211 rfl Tryz.ntmps211 rfl ?_
  repeat (first|refine Yd7 ?_|refine Yag ?_|refine Yd8 ?_|refine Yab ?_)
  refine Zao (.s 0 (.h 1 (.s 2 (.s 3 (.s 4 (.s 5 (.s 6 (.s 7 (.s 8 (.s 9 (.s 10 (.s 11 (.s 12 (.s 13 (.s 14 (.s 15 (.s 16 .nil))))))))))))))) .no)) mixed (by kernel_rfl) rfl ?_
  have hS := hS.drew
  repeat (first|(refine X_id ?_;first|(refine Zae 209 rfl rfl rfl rfl rfl hS (hm _ (hc.rd hS)) ?_;rintro _ _ rfl hS))|refine Yah ?_|refine Yd9 ?_|(refine Zad ?_;first|refine Yaz ?_|refine Ya2 ?_|refine Ybk ?_|refine Ycb ?_|refine Yau ?_|refine Yb5 ?_|refine Ycs ?_|refine Ycj ?_|refine Zbs rfl rfl rfl rfl (fun _ => Zpz rfl rfl rfl) rfl rfl ?_|refine Ydk ?_|refine Ydl ?_|refine Zbw (fun w' => w'.cell? _ = some _) rfl rfl rfl rfl ((hb.rd hS).cellB' (by omega)) (fun _ hc => Zat rfl rfl hc) rfl rfl ?_)|(refine Zac ?_;first|refine Ya0 ?_))
  refine ⟨?_,hS⟩
  rw [Z5j h (by omega)]
 ·simp only [decide_eq_false h] at hm
  replace hc := hc.ro
  refine Zab Tryz.func211 rfl Tryz.ntmps211 rfl ?_
  repeat (first|refine Yd7 ?_|refine Yag ?_|refine Yd8 ?_|refine Yab ?_)
  refine Zao (.s 0 (.h 1 (.s 2 (.s 3 (.s 4 (.s 5 (.s 6 (.s 7 (.s 8 (.s 9 (.s 10 (.s 11 (.s 12 (.s 13 (.s 14 (.s 15 (.s 16 .nil))))))))))))))) .no)) mixed (by kernel_rfl) rfl ?_
  have hS := hS.drew
  repeat (first|(refine X_id ?_;first|(refine Zae 209 rfl rfl rfl rfl rfl hS (hm _ (hc.rd hS)) ?_;rintro _ _ rfl hS))|refine Yah ?_|refine Yd9 ?_|(refine Zad ?_;first|refine Yaz ?_|refine Ya2 ?_|refine Ybk ?_|refine Yb8 ?_|refine Yau ?_|refine Ycg ?_)|(refine Zac ?_;first|refine Ya0 ?_))
  refine ⟨?_,hS⟩
  rw [List.getElem?_eq_none (by omega)]
  simp
end Cr
