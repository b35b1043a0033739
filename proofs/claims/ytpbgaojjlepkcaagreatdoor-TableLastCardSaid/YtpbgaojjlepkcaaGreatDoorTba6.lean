/-
  Layer 2 (digest): Sum.
  Layer 2 (digest): Framed.
  Layer 2 (digest): Of.
  A conversion of bytes to the same type (the model marks the block): the row can be read on. Over any program.
  Arrays of bytes compared. Over any program.
  Layer 11 (chain): Start.
  bytes.Join (without a separator) and bytes.Equal.
  Layer 4 (wal): big,small,full,front,note.
  Layer 11 (chain): Mark.
  Layer 1 (block): Read.
  Layer 4 (wal): full,front,note.
  Numbers as bytes,there and back. No program is in sight.
  Layer 4 (wal): number,sum.
  Layer 4 (wal): sum.
  Maps with keys of an integer type or strings: made,looked up,updated. Over any program.
  Layer 4 (wal): Check.
  Layer 4 (wal): a log in memory,what it tells; steps.
-/
import Derived.Test.YtpbgaojjlepkcaaGreatDoorTba5
import Derived.Test.YtpbgaojjlepkcaaGreatDoorTba3
import Derived.Laws.StructEq
import Derived.KernelRfl
import Derived.Lib.MakeNoZero
import Derived.Laws.Externs
import Derived.Test.YtpbgaojjlepkcaaGreatDoorTba4
import Derived.MapKept
namespace Cr
open Go Go.Proofs
set_option maxRecDepth 100000
set_option maxHeartbeats 4000000
attribute [local irreducible] Calls

theorem St.total {W : World} {F : Nat → Prop} {rs : List Res} {w : World} {b : Nat} {S : StrM} {T : TypeId} (hS : St W F rs w) [hh : Has rs b (.cells S.cells.toArray T (0,0))] (hok : S.ok) : w.cell? ⟨b,72,none⟩ = some (.int .i64 (S.n : Nat)) := by
 rw [cell_of_row w b 72 _ T (0,0) hS.has]
 have h1 : (ints .u32 S.H).length = 8 := by rw [ints_length]; exact hok.h8
 have h2 : (bv S.R).length = 64 := by rw [Zaq]; exact hok.r64
 simp only [StrM.cells,List.getElem?_toArray]
 rw [List.getElem?_append_right (by omega),List.getElem?_append_right (by omega),h1,h2]
 rfl
def Z5g (n : Nat) (i : Nat) : UInt8 := b8 (ishr .u64 (IntKind.u64.wrap (IntKind.u64.wrap n * 8)) (8 * (7 - i)))
def lenB (n : Nat) : Nat → List UInt8
 | 0 => []
 | i + 1 => lenB n i ++ [Z5g n i]
def gap (n : Nat) : Nat := (119 - n % 64) % 64
def padB (n : Nat) : List UInt8 := 128 :: List.replicate (gap n) 0 ++ lenB n 8
def StrM.sum (rd fs : List Int) (S : StrM) : List UInt8 := outB (S.more rd fs (padB S.n)).H
theorem StrM.more_one {rd fs : List Int} {S : StrM} {l : List UInt8} {c : UInt8} : (S.more rd fs l).one rd fs c = S.more rd fs (l ++ [c]) := by simp [StrM.more]
theorem sum_ (s : Nat) (S : StrM) (rd fs : List Int) (T : TypeId) (W : World) (hok : S.ok) (hn : S.n < 1152921504606846976) (hG : Gl W noF rd fs) (hs : Rd W (pts s (.cells S.cells.toArray T))) :
  Calls Tryz.prog 127 #[.pointer (some ⟨s,0,none⟩)] W (Ret fun v w => v = .agg (bv (S.sum rd fs)).toArray ∧ St W noF [] w) := by
 have hS := St.start W
 have hso := hs.ro
 have hf := hG.first8
 have key : ∀ l : List UInt8,l.length ≤ 100 → (S.more rd fs l).n < 2305843009213693951 := fun l hl => by rw [StrM.more_n]; omega
 refine Zab Tryz.func127 rfl Tryz.ntmps127 rfl ?_
 repeat (first|refine Yd0 ?_|refine Yaf ?_|refine Yar (fun _ _ hS _ => ?_)|refine Yd1 ?_|refine Yab ?_)
 rename_i b2 _ _
 rw [Zgb] at hS
 refine Zaa _ rfl rfl rfl rfl rfl (Z5l s S T _ hok (hso.rd hS)) ?_
 rintro _ w ⟨p,rfl,hS'⟩
 replace hS := hS.plus hS'
 clear hS'
 repeat (first|refine Yd0 ?_|refine Yaf ?_|refine Yag ?_|refine Yau ?_|refine Yan ?_|refine Yd1 ?_|refine Yab ?_)
 refine X_yl (Zar rfl rfl (hS.total hok)) rfl rfl ?_
 repeat (first|refine Yd0 ?_|refine Yee ?_|refine Yd1 ?_|refine Yab ?_)
 obtain ⟨_,hc,hr,hw,hbk⟩ := hS.call [true,false]
 refine Zaa _ rfl rfl rfl rfl rfl (one_ p S 128 rd fs _ _ _ hok (by omega) (hG.mono hw) hc) ?_
 rintro _ w ⟨_,hS⟩
 replace hS := hbk hS
 clear hc hr hw hbk
 repeat (first|refine Yac ?_|refine Yae ?_|refine Yal ?_|refine Yab ?_)
 refine Zak (α := Nat) (fun k => [(2,.pointer (some ⟨b2,0,none⟩)),(3,.pointer (some ⟨p,0,none⟩)),(4,.int .i64 (S.n : Nat))])
  (fun k w => k ≤ gap S.n ∧ St W noF [pts p (.cells (S.more rd fs (128 :: List.replicate k 0)).cells.toArray 263),pts b2 (.cells (bv (List.replicate 32 0)).toArray 79)] w) (fun k => gap S.n - k) 0 ⟨rfl,rfl,rfl,trivial⟩ ⟨Nat.zero_le _,hS⟩ ?_
 clear hS
 rintro k w ⟨hk,hS⟩
 have hg64 : gap S.n < 64 := by unfold gap; omega
 obtain ⟨S',hSe⟩ : ∃ S',S' = S.more rd fs (128 :: List.replicate k 0) := ⟨_,rfl⟩
 have hok' : S'.ok := hSe ▸ StrM.more_ok hf hok
 have hn' : S'.n = S.n + 1 + k := by rw [hSe,StrM.more_n]; simp; omega
 rw [← hSe] at hS
 by_cases hkk : k < gap S.n
 ·have h56 : ((S'.n : Int) % 64 = 56) = False := by
   have : ¬ (S'.n : Int) % 64 = 56 := by unfold gap at hkk; omega
   simp [this]
  have h56' : ¬ (S'.n : Int) % 64 = 56 := by rw [h56]; exact id
  clear h56
  repeat (first|refine Yaa ?_|refine Yaf ?_|refine Yau ?_|refine Yan ?_|refine Yd1 ?_)
  refine X_yl (Zar rfl rfl (hS.total hok')) rfl rfl ?_
  repeat (first|refine Yd0 ?_|refine Yaf ?_|refine Ybl ?_|refine Yck ?_|refine Yad ?_|refine Yal ?_|refine Yak ?_|refine Yaj ?_|refine Yab ?_)
  obtain ⟨_,hc,hr,hw,hbk⟩ := hS.call [true,false]
  refine Zaa _ rfl rfl rfl rfl rfl (one_ p S' 0 rd fs _ _ _ hok' (by omega) (hG.mono hw) hc) ?_
  rintro _ w ⟨_,hS⟩
  replace hS := hbk hS
  clear hc hr hw hbk
  repeat (first|refine Yac ?_|refine Yat ?_)
  refine Zaf (k + 1) ⟨rfl,rfl,rfl,trivial⟩ ⟨by omega,?_⟩ (by omega)
  rw [hSe,StrM.more_one] at hS
  rw [show (128 :: List.replicate (k + 1) 0 : List UInt8) = 128 :: List.replicate k 0 ++ [0] by simp [List.replicate_succ']]
  exact hS
 ·obtain rfl : k = gap S.n := by omega
  have h56 : (S'.n : Int) % 64 = 56 := by unfold gap at hn'; omega
  repeat (first|refine Yaa ?_|refine Yaf ?_|refine Yau ?_|refine Yan ?_|refine Yd1 ?_)
  refine X_yl (Zar rfl rfl (hS.total hok')) rfl rfl ?_
  repeat (first|refine Yd0 ?_|refine Yaf ?_|refine Ybd ?_|refine Yck ?_|refine Yae ?_|refine Yad ?_|refine Yal ?_|refine Ya8 ?_|refine Yai ?_|refine Yd6 ?_)
  rw [hSe] at hS
  clear hSe hok' hn' h56
  refine Zak (α := Nat) (fun i => [(2,.pointer (some ⟨b2,0,none⟩)),(3,.pointer (some ⟨p,0,none⟩)),(4,.int .i64 (S.n : Nat)),(22,.int .i64 (i : Nat))])
   (fun i w => i ≤ 8 ∧ St W noF [pts p (.cells (S.more rd fs (128 :: List.replicate (gap S.n) 0 ++ lenB S.n i)).cells.toArray 263),pts b2 (.cells (bv (List.replicate 32 0)).toArray 79)] w) (fun i => 8 - i) 0 ⟨rfl,rfl,rfl,rfl,trivial⟩ ⟨Nat.zero_le _,by simpa [lenB] using hS⟩ ?_
  clear hS
  rintro i w ⟨hi,hS⟩
  have hlen : ∀ i,(lenB S.n i).length = i := fun i => by
   induction i with
   | zero => rfl
   | succ i ih => simp [lenB,ih]
  obtain ⟨S',hSe⟩ : ∃ S',S' = S.more rd fs (128 :: List.replicate (gap S.n) 0 ++ lenB S.n i) := ⟨_,rfl⟩
  have hok' : S'.ok := hSe ▸ StrM.more_ok hf hok
  have hn' : S'.n < 2305843009213693951 := by rw [hSe]; exact key _ (by simp [hlen]; omega)
  rw [← hSe] at hS
  by_cases h8 : i < 8
  ·repeat (first|refine Yd0 ?_|(refine X_id ?_;first|refine Yaf ?_|refine Yag ?_|refine Ya2 ?_|refine Yb2 ?_|refine Ych ?_|refine X_yl (Zwt rfl rfl rfl rfl) rfl rfl ?_|refine Yc8 ?_|refine Ycn ?_|refine Ycz ?_)|refine Yd4 ?_|refine Yab ?_)
   obtain ⟨_,hc,hr,hw,hbk⟩ := hS.call [true,false]
   refine Zaa _ rfl rfl rfl rfl rfl (one_ p S' _ rd fs _ _ _ hok' hn' (hG.mono hw) hc) ?_
   rintro _ w ⟨_,hS⟩
   replace hS := hbk hS
   clear hc hr hw hbk
   repeat (first|refine Yd0 ?_|refine Yd5 ?_|refine Yad ?_|refine Yd8 ?_)
   refine Zaf (i + 1) ⟨rfl,rfl,rfl,rfl,trivial⟩ ⟨by omega,?_⟩ (by omega)
   rw [hSe,StrM.more_one] at hS
   simp only [lenB,← List.append_assoc]
   rw [show (8 * (7 - (i : Int))).toNat = 8 * (7 - i) by omega] at hS
   exact hS
  ·obtain rfl : i = 8 := by omega
   have hlen32 : LenO (bv (outB S'.H)) 32 := ⟨by rw [Zaq]; exact Zgi _⟩
   repeat (first|refine Yd0 ?_|(refine X_id ?_;first|(refine Zae 194 rfl rfl rfl rfl rfl hS (Z4e p S'.H _ 263 _ hok'.h8 (hS.rd (List.mem_cons_self ..))) ?_;rintro _ _ rfl hS)|refine Yaf ?_|refine Yau ?_|refine Yan ?_|refine Ya3 ?_|refine Ycl (fun _ hS => ?_))|refine Yd9 ?_|refine Yab ?_|refine Ya9 ?_|refine Yba ?_|refine Yb0 ?_)
   refine ⟨?_,hS.drops⟩
   rw [hSe]
   rfl
end Cr
namespace Cr
open Go Go.Proofs
set_option maxRecDepth 100000
set_option maxHeartbeats 4000000
attribute [local irreducible] Calls

def Zvx (n : Nat) (i : Nat) : UInt8 := b8 (ishr .i64 n (8 * (3 - i)))
def Zfd (n : Nat) : Nat → List UInt8
 | 0 => List.replicate 4 0
 | i + 1 => (Zfd n i).set i (Zvx n i)
theorem Zd9 (n : Nat) : ∀ i,(Zfd n i).length = 4
 | 0 => by simp [Zfd]
 | i + 1 => by simp [Zfd,Zd9 n i]
def Zot (n : Nat) : List UInt8 := Zfd n 4
theorem Zcm (n : Nat) : (Zot n).length = 4 := Zd9 n 4
def Zbp (l : List (List UInt8)) : List UInt8 := l.flatMap fun s => Zot s.length ++ s
theorem Zj7 {l : List (List UInt8)} {i : Nat} {x : List UInt8} (h : l[i]? = some x) : Zbp (l.take (i + 1)) = Zbp (l.take i) ++ (Zot x.length ++ x) := by
 obtain ⟨hi,rfl⟩ := List.getElem?_eq_some_iff.1 h
 rw [List.take_succ_eq_append_getElem hi]
 simp only [Zbp,List.flatMap_append,List.flatMap_cons,List.flatMap_nil,List.append_nil]
theorem Zf9 (l : List (List UInt8)) (i : Nat) : (Zbp (l.take i)).length ≤ (Zbp l).length := by
 have : Zbp l = Zbp (l.take i) ++ Zbp (l.drop i) := by unfold Zbp; rw [← List.flatMap_append,List.take_append_drop]
 rw [this]; simp
def digest (rd fs : List Int) (l : List (List UInt8)) : List UInt8 := (StrM.init.more rd fs (Zbp l)).sum rd fs
theorem Zbc (rd fs : List Int) (l : List (List UInt8)) : (digest rd fs l).length = 32 := by unfold digest StrM.sum; exact Zgi _
attribute [irreducible] digest
def Zdd (l : List Bs) : List (List UInt8) := l.map Bs.s
theorem Zqm (a : Option Addr) (c : Nat) (l : List Bs) (rd fs : List Int) (W : World) (hn : (Zbp (Zdd l)).length < 1152921504606846976) (hl : l.length < 2305843009213693951) (hG : Gl W noF rd fs) (hB : Bss W noF a l) :
  Calls Tryz.prog 144 #[.slice a l.length c] W (Ret fun v w => v = .agg (bv (digest rd fs (Zdd l))).toArray ∧ St W noF [] w) := by
 have hS := St.start W
 have hf := hG.first8
 refine Zab Tryz.func144 rfl Tryz.ntmps144 rfl ?_
 repeat (first|refine Yd0 ?_|(refine X_id ?_;first|refine Yaf ?_|refine Yag ?_|refine Yav ?_|refine Ybk ?_|refine Ya6 (fun _ _ hS _ => ?_)|refine Yar (fun _ _ hS _ => ?_))|refine Yd3 ?_|refine Yab ?_)
 rename_i b2 _ _ _ p wp _
 rw [Zgb] at hS
 replace hS : St W noF [pts p (.cells StrM.init.cells.toArray 263),pts b2 (.cells (bv (List.replicate 32 0)).toArray 79)] wp := hS
 refine Zak (α := Nat) (fun i => [(2,.pointer (some ⟨b2,0,none⟩)),(3,.pointer (some ⟨p,0,none⟩)),(10,.slice a l.length c),(11,.int .i64 (l.length : Nat)),(12,.int .i64 (i : Nat))])
  (fun i w => i ≤ l.length ∧ St W noF [pts p (.cells (StrM.init.more rd fs (Zbp ((Zdd l).take i))).cells.toArray 263),pts b2 (.cells (bv (List.replicate 32 0)).toArray 79)] w) (fun i => l.length - i) 0 ⟨rfl,rfl,rfl,rfl,rfl,trivial⟩ ⟨Nat.zero_le _,hS⟩ ?_
 clear hS
 rintro i w ⟨hi,hS⟩
 have hle := Zf9 (Zdd l) i
 obtain ⟨S',hSe⟩ : ∃ S',S' = StrM.init.more rd fs (Zbp ((Zdd l).take i)) := ⟨_,rfl⟩
 have hok' : S'.ok := hSe ▸ StrM.more_ok hf StrM.init_ok
 have hn' : S'.n = (Zbp ((Zdd l).take i)).length := by rw [hSe,StrM.more_n]; simp [StrM.init]
 rw [← hSe] at hS
 by_cases hlt : i < l.length
 ·have hx0 : l[i]? = some l[i] := List.getElem?_eq_getElem hlt
  generalize l[i] = x at hx0
  have hxm := List.mem_of_getElem? hx0
  have hbx := hB.all x hxm
  have hj := Zj7 (l := Zdd l) (i := i) (x := x.s) (by simp [Zdd,hx0])
  have hle1 := Zf9 (Zdd l) (i + 1)
  rw [hj,List.length_append,List.length_append,Zcm] at hle1
  obtain ⟨ab,ao,rfl⟩ := (hB.row.rd hS).base (by intro e; simp at e; subst e; simp at hlt)
  have hr := hB.row
  have hx : (l.map Bs.val)[i]? = some (.slice x.a x.s.length x.c) := by simp [hx0,Bs.val]
  repeat (first|refine Yd0 ?_|refine Ye0 ?_|refine Yar (fun _ _ hS _ => ?_)|refine Yd4 ?_|refine Yab ?_)
  rename_i b6 _ _
  refine Zak (α := Nat) (fun j => [(2,.pointer (some ⟨b2,0,none⟩)),(3,.pointer (some ⟨p,0,none⟩)),(10,.slice (some ⟨ab,ao,none⟩) l.length c),(11,.int .i64 (l.length : Nat)),(12,.int .i64 (i : Nat)),(5,.slice x.a x.s.length x.c),(6,.pointer (some ⟨b6,0,none⟩)),(16,.int .i64 (j : Nat))])
   (fun j w => j ≤ 4 ∧ St W noF [pts b6 (.cells (bv (Zfd x.s.length j)).toArray 341),pts p (.cells S'.cells.toArray 263),pts b2 (.cells (bv (List.replicate 32 0)).toArray 79)] w) (fun j => 4 - j) 0 ⟨rfl,rfl,rfl,rfl,rfl,rfl,rfl,rfl,trivial⟩ ⟨Nat.zero_le _,hS⟩ ?_
  clear hS
  rintro j w ⟨hj4,hS⟩
  obtain ⟨B,hBe⟩ : ∃ B,B = Zfd x.s.length j := ⟨_,rfl⟩
  have hBl : B.length = 4 := by rw [hBe]; exact Zd9 _ _
  rw [← hBe] at hS
  by_cases hj : j < 4
  ·repeat (first|refine Yd0 ?_|(refine X_id ?_;first|refine Yaf ?_|refine Yag ?_|refine Yav ?_|refine Ya2 ?_|refine Ydr ?_|refine Yax ?_|refine Yb2 ?_|refine Ych ?_|refine Yc8 ?_|refine Ycz ?_|refine Zng rfl rfl rfl rfl hS (by omega) (fun _ hS => ?_))|refine Yd4 ?_|refine Yd8 ?_)
   refine Zaf (j + 1) ⟨rfl,rfl,rfl,rfl,rfl,rfl,rfl,rfl,trivial⟩ ⟨by omega,?_⟩ (by omega)
   simp only [Zfd,Zvx]
   rw [← hBe]
   rw [show (8 * (3 - (j : Int))).toNat = 8 * (3 - j) by omega,show 0 + (j : Int).toNat * 1 = j by omega] at hS
   exact hS
  ·obtain rfl : j = 4 := by omega
   repeat (first|refine Yd0 ?_|refine Yaf ?_|refine Ya3 ?_|refine Ydk ?_|refine Ybf (fun _ _ hS _ => ?_)|refine Yec ?_|refine Yd6 ?_)
   rename_i nb wb _
   obtain ⟨_,hc,hr,hw,hbk⟩ := hS.call [false,false,true]
   have hBs : Bss wb _ (some ⟨nb,0,none⟩) [⟨some ⟨b6,0,none⟩,4,B⟩,x] := ⟨by
    have := (hr _ (List.mem_cons_self ..)).own_row
    simpa [Bs.val,hBl] using this,fun y hy => by
    simp only [List.mem_cons,List.not_mem_nil,or_false] at hy
    rcases hy with rfl | rfl
    ·exact (hr _ (List.mem_cons_of_mem _ (List.mem_cons_self ..))).mono fun h hh => ⟨h,Zfq (n := 4) (by simp [← Zaq,← hBl]) h hh,fun _ _ e => e⟩
    ·exact hw _ hbx⟩
   refine Zaa _ rfl rfl rfl rfl rfl (Z1u p S' _ _ _ rd fs _ _ _ hok' (by simp [Zai,hBl]; omega) (by simp) (hG.mono hw) hBs hc) ?_
   rintro _ w ⟨rfl,hS⟩
   replace hS := hbk hS
   clear hc hr hw hbk hBs
   repeat (first|refine Yd0 ?_|refine Yd5 ?_|refine Yad ?_|refine Yd8 ?_)
   refine Zaf (i + 1) ⟨rfl,rfl,rfl,rfl,rfl,trivial⟩ ⟨by omega,?_⟩ (by omega)
   have hS := hS.pick [0,2]
   rw [Zj7 (x := x.s) (by simp [Zdd,hx0]),StrM.more_append,← hSe]
   rw [show Zai [⟨some ⟨b6,0,none⟩,4,B⟩,x] = Zot x.s.length ++ x.s by rw [hBe]; simp [Zai,Zot]] at hS
   exact hS
 ·obtain rfl : i = l.length := by omega
  have hlen32 : LenO (bv (S'.sum rd fs)) 32 := ⟨by rw [Zaq]; exact Zgi _⟩
  repeat (first|refine Yd0 ?_|(refine X_id ?_;first|(refine Zae 127 rfl rfl rfl rfl rfl hS (sum_ p S' rd fs 263 _ hok' (by omega) (hG.mono fun r hr => (hr.rd hS).ro) (hS.rd (List.mem_cons_self ..))) ?_;rintro _ _ rfl hS)|refine Yaf ?_|refine Ya3 ?_|refine Ycl (fun _ hS => ?_))|refine Yd9 ?_|refine Yab ?_|refine Ya9 ?_|refine Yba ?_|refine Yb0 ?_)
  refine ⟨?_,hS.drops⟩
  rw [hSe,show (Zdd l).take l.length = Zdd l from List.take_of_length_le (by simp [Zdd])]
  unfold digest
  rfl
end Cr
namespace Cr
open Go Go.Proofs
set_option maxRecDepth 100000
set_option maxHeartbeats 4000000
attribute [local irreducible] Calls

def Z1x (rd fs : List Int) (l : List UInt8) : List UInt8 := (StrM.init.more rd fs l).sum rd fs
attribute [irreducible] Z1x
end Cr
namespace Cr
open Go
section
variable {P : Program} {o : Oper} {σ : Env} {w : World} {N : Nat} {ds : Md} {K : Env → World → Prop}
variable {x : Operand} {t e : TypeId}
theorem Zlz {b n c c' d : Nat} {T : TypeId} {cs : List Value} {W : World} {F : Nat → Prop} {rs rest : List Res} (ho : o.op = .convert t t x) (hx : ev σ x = some (.slice (some ⟨b,0,none⟩) n c)) [hu : Und P t (.slice e)] [he : Und P e (.int .u8)]
  (hd : o.dst = some d) (hN : Nat.blt d N = true) (hS : St W F rs w) [hh : HasOwn rs (some ⟨b,0,none⟩) T 1 c' cs rest] (hpos : 0 < cs.length)
  (hk : ∀ w',St W F (row (some ⟨b,0,none⟩) cs :: rest) w' → K ((d,.slice (some ⟨b,0,none⟩) n c) :: σ) w') : X P o N ds σ w K := ⟨fun f ha K' Q' hK => by
 obtain ⟨g,⟨g1,g2,hown,hrest,hdj,hun⟩,s⟩ := hS.perm hh.has
 obtain ⟨hle,hcm,⟨rfl,_⟩ | ⟨b',cells,hbe,rfl,hcz,ht⟩⟩ := hown
 ·rw [Nat.zero_mul] at hle; omega
 ·obtain rfl : b = b' := by simpa using hbe
  have hb : w.heap[b]? = some (.cells cells T (0,0)) := s.agrees b _ (by rw [hun,Zal]; rfl)
  have hS2 : St W F (pts b (.cells cells T (0,0)) :: rest) w := ⟨g,⟨_,g2,rfl,hrest,hdj,hun⟩,s⟩
  have hlt := Zbx hb
  have hgb : w.heap[b] = .cells cells T (0,0) := (Array.getElem?_eq_some_iff.1 hb).2
  have u : SetBlock w (w.freeze ⟨b,cells.size,none⟩ 1) b (.cells cells T (cells.size,cells.size + 1)) := by
   unfold World.freeze
   rw [if_neg (by omega)]
   refine ⟨by simp,?_,fun k hk => ?_,rfl,rfl,rfl⟩
   ·rw [Array.getElem?_modify,if_pos rfl,hb]; rfl
   ·rw [Array.getElem?_modify,if_neg (Ne.symm hk)]
  have hexec : (execOp f.eval o).run P w = .ok (.value (.slice (some ⟨b,0,none⟩) n c)) (w.freeze ⟨b,cells.size,none⟩ 1) := by
   have hsh : (shape b).run P w = .ok (some (T,cells.size)) w := by simp [shape,Sem.run,World.shape?,hb]
   have hms : (markStringish ⟨b,0,none⟩).run P w = .ok () (w.freeze ⟨b,cells.size,none⟩ 1) := by
    unfold markStringish
    rw [Sem.run_bind,hsh]
    rfl
   simp [execOp,ho,ha.eval hx,convert,run_underlying hu.und,run_underlying he.und,hms,Result.andThen]
  unfold Oper.wp
  rw [hexec]
  have := hK _ _ _ (ha.put (Zam hN) (.slice (some ⟨b,0,none⟩) n c)) (hk _ ((hS2.set u).head fun h hh => .inr ⟨b,0,cells,T,_,rfl,hh,fun i v hv => by
   rw [← ht,List.getElem?_take] at hv
   split at hv
   ·simpa using hv
   ·cases hv⟩))
  rw [← hd] at this
  exact this⟩
end
end Cr
namespace Cr
open Go
set_option maxRecDepth 10000
section
variable {P : Program} {w : World} {t e : TypeId}
theorem Zjs (d n : Nat) [h : Und P t (.array n e)] [he : Und P e (.int .u8)] [hs : Siz P e 1] [h1 : One P e] (a b : List UInt8) (ha : a.length = n) (hb : b.length = n) :
  (Op.equalIn (d + 2) t (.agg (bv a).toArray) (.agg (bv b).toArray)).run P w = .ok (decide (a = b)) w := by
 unfold Op.equalIn
 simp only [Sem.run_bind,run_underlying h.und,Result.andThen_ok,Zbj (n := 1),Nat.mul_one]
 simp only [Std.Legacy.Range.forIn_eq_forIn_range']
 have hp : ∀ (l : List UInt8) (i : Nat) (hi : i < l.length),(part e (bv l).toArray i).run P w = .ok (.int .u8 (l[i].toNat : Int)) w := fun l i hi => by
  have := Zwf hi
  simp [part,h1.one,List.getElem?_toArray,this]
 have key : ∀ m s,s + m = n → (forIn (List.range' s m) (none,()) (fun i (__s : Option Bool × Unit) => do
   let __do_lift ← part e (bv a).toArray i
   let __do_lift_1 ← part e (bv b).toArray i
   let __do_lift ← Op.equalIn (d + 1) e __do_lift __do_lift_1
   if (!__do_lift) = true then pure (ForInStep.done (some false,())) else pure (ForInStep.yield (none,()))) : Sem (Option Bool × Unit)).run P w = .ok (if a.drop s = b.drop s then none else some false,()) w := by
  intro m
  induction m with
  | zero =>
   intro s hs
   rw [List.drop_of_length_le (by omega),List.drop_of_length_le (by omega)]
   simp
  | succ m ih =>
   intro s hs
   have hsa : s < a.length := by omega
   have hsb : s < b.length := by omega
   rw [List.range'_succ,List.forIn_cons]
   simp only [Sem.run_bind,hp a s hsa,hp b s hsb,Result.andThen_ok,run_equalIn_int w d e .u8 .u8 _ _ he.und]
   rw [List.drop_eq_getElem_cons hsa,List.drop_eq_getElem_cons hsb]
   by_cases hc : a[s] = b[s]
   ·have e1 : ((a[s].toNat : Int) == (b[s].toNat : Int)) = true := by rw [hc]; simp
    rw [e1]
    simp only [Bool.not_true,Bool.false_eq_true,if_false,Sem.run_pure,Result.andThen_ok]
    rw [ih (s + 1) (by omega),hc]
    simp only [List.cons.injEq,true_and]
   ·have e1 : ((a[s].toNat : Int) == (b[s].toNat : Int)) = false := by
     simp only [beq_eq_false_iff_ne,ne_eq]
     intro h
     exact hc (UInt8.toNat_inj.1 (by omega))
    rw [e1]
    simp only [Bool.not_false,if_true,Sem.run_pure,Result.andThen_ok]
    rw [if_neg (fun h => hc (List.cons.inj h).1)]
 have hz : [:n].size = n := by simp [Std.Legacy.Range.size]
 rw [hz,key n 0 (by omega)]
 by_cases hab : a = b <;> simp [hab]
end
section
variable {P : Program} {o : Oper} {σ : Env} {w : World} {x y : Operand} {t ty e : TypeId}
class NoGuard (P : Program) (t : TypeId) : Prop where
 no : P.eqGuardType P.depth t = false
theorem Zkl {n : Nat} {a b : List UInt8} (ho : o.op = .binOp .neq t x y ty) (hx : ev σ x = some (.agg (bv a).toArray)) (hy : ev σ y = some (.agg (bv b).toArray)) [h : Und P t (.array n e)] [he : Und P e (.int .u8)] [hs : Siz P e 1] [h1 : One P e] [hg : NoGuard P t] (ha : a.length = n) (hb : b.length = n) :
  Yl P o σ w (.bool (decide (¬ a = b))) := ⟨fun N ds f hf => by
 have h2 := run_eqGuard_agg (P := P) (w := w) .neq t x y (bv a).toArray (bv b).toArray hg.no
 have h3 := run_neq_struct (P := P) (w := w) t (bv a).toArray (bv b).toArray
 have h4 := Zjs (P := P) (w := w) (t := t) (e := e) 9998 n a b ha hb
 have e1 : (!(decide (a = b))) = decide (¬ a = b) := by by_cases q : a = b <;> simp [q]
 simp only [execOp,ho,hf.eval hx,hf.eval hy,Sem.run_bind,h2,h3,h4,Result.andThen_ok,e1]
 rfl⟩
end
end Cr
namespace Cr
open Go Go.Proofs
set_option maxRecDepth 100000
set_option maxHeartbeats 8000000
attribute [local irreducible] Calls

end Cr
namespace Cr
open Go Go.Proofs
set_option maxRecDepth 100000
set_option maxHeartbeats 4000000
attribute [local irreducible] Calls

theorem Zsg (a b : Option Addr) (n m c c' : Nat) (s t : List UInt8) (W : World) (ha : Rd W (bytes a s)) (hb : Rd W (bytes b t)) (hn : s.length = n) (hm : t.length = m) :
  Calls Tryz.prog 57 #[.slice a n c,.slice b m c'] W (Ret fun v w => v = .bool (decide (s = t)) ∧ W = w) := by
 refine Zab Tryz.func57 rfl Tryz.ntmps57 rfl ?_
 repeat (first|refine Yd0 ?_|refine Yee ?_|refine Yd1 ?_|refine Yab ?_)
 refine X_yl (Zb2 rfl rfl ha hn) rfl rfl ?_
 repeat (first|refine Yaa ?_|refine Yaf ?_)
 refine X_yl (Zb2 rfl rfl hb hm) rfl rfl ?_
 repeat (first|refine Yaa ?_)
 refine X_yl (Zen rfl rfl rfl) rfl rfl ?_
 repeat (first|refine Yd0 ?_|refine Yag ?_|refine Yah ?_|refine Yd2 ?_)
 exact ⟨rfl,rfl⟩

theorem Zya (n : Nat) (w : World) (hn : n ≤ 281474976710656) : ∃ cs : Array Value,(callFunc 232 #[.int .i64 n]).run Tryz.prog w = .ok (.value (.slice (some ⟨w.heap.size,0,none⟩) n cs.size)) (w.drew.drew.alloc (.cells cs 5)) ∧ n ≤ cs.size := by
 obtain ⟨cs,hrun,hle,_⟩ := Lib.run_makeNoZero (P := Tryz.prog) (w := w) #[3] 35 5 (Und.und (P := Tryz.prog) (t := 35) (d := .slice 5)) n hn
 refine ⟨cs,?_,hle⟩
 rw [run_callFunc_extern Tryz.func232 (by kernel_rfl) (by kernel_rfl) (by kernel_rfl) (e := Extern.BytealgMakeNoZero.makeNoZero #[3] #[35]) (by kernel_rfl),hrun]
 rfl
theorem St.alloc2 {W : World} {F : Nat → Prop} {rs : List Res} {w : World} (hS : St W F rs w) (o : Obj) : St W F (pts w.heap.size o :: rs) (w.drew.drew.alloc o) := hS.drew.drew.alloc o

theorem Z5h (ab ao c : Nat) (l : List Bs) (W : World) (hB : Bss W noF (some ⟨ab,ao,none⟩) l) (h2 : 2 ≤ l.length) (hc : l.length ≤ c) (hl : l.length ≤ 1099511627776) (hn : (Zai l).length ≤ 1099511627776) :
  Calls Tryz.prog 241 #[.slice (some ⟨ab,ao,none⟩) l.length c,.slice none 0 0] W (Ret fun v w => ∃ p,v = .slice (some ⟨p,0,none⟩) (Zai l).length (Zai l).length ∧ St W noF [bytes (some ⟨p,0,none⟩) (Zai l)] w) := by
 have hS := St.start W
 refine Zab Tryz.func241 rfl Tryz.ntmps241 rfl ?_
 repeat (first|refine Yd0 ?_|(refine X_id ?_;first|refine Yaf ?_|refine Yag ?_|refine Yav ?_|refine Ybh ?_|refine Ybu ?_)|refine Yex ?_|refine Yab ?_)
 refine Zak (α := Nat) (fun i => [(0,.slice (some ⟨ab,ao,none⟩) l.length c),(1,.slice none 0 0),(5,.int .i64 ((Zai (l.take i)).length : Nat)),(42,.slice (some ⟨ab,ao,none⟩) l.length c),(43,.int .i64 (l.length : Nat)),(44,.int .i64 (i : Nat))])
  (fun i w => i ≤ l.length ∧ St W noF [] w) (fun i => l.length - i) 0 ⟨rfl,rfl,rfl,rfl,rfl,rfl,trivial⟩ ⟨Nat.zero_le _,hS⟩ ?_
 clear hS
 rintro i w ⟨hi,hS⟩
 have hr := hB.row
 by_cases hlt : i < l.length
 ·have hx0 : l[i]? = some l[i] := List.getElem?_eq_getElem hlt
  generalize l[i] = x at hx0
  have hx : (l.map Bs.val)[i]? = some (.slice x.a x.s.length x.c) := by simp [hx0,Bs.val]
  have hj := Zcr hx0
  have hle := Zbe l (i + 1)
  have hjl : (Zai (l.take (i + 1))).length = (Zai (l.take i)).length + x.s.length := by rw [hj]; simp
  rw [hjl] at hle
  clear hj
  repeat (first|refine Yd0 ?_|(refine X_id ?_;first|refine Yaf ?_|refine Yag ?_|refine Yav ?_|refine Ya2 ?_|refine Ybu ?_|refine Ybc ?_|refine Yax ?_|refine Yb2 ?_|refine Yb5 ?_)|refine Yd7 ?_|refine Yd8 ?_)
  refine Zaf (i + 1) ⟨rfl,rfl,by rw [hjl]; rfl,rfl,rfl,rfl,trivial⟩ ⟨by omega,hS⟩ (by omega)
 ·obtain rfl : i = l.length := by omega
  rw [List.take_length]
  repeat (first|refine Yd0 ?_|refine Yaf ?_|refine Ya3 ?_|refine Yec ?_|refine Yd6 ?_)
  obtain ⟨cs,hrun,hcs⟩ := Zya (Zai l).length w (by omega)
  refine Znh rfl rfl rfl hrun rfl rfl ?_
  replace hS := hS.alloc2 (.cells cs 5)
  generalize w.drew.drew.alloc (.cells cs 5) = w2 at hS ⊢
  generalize w.heap.size = p at hS ⊢
  clear hrun
  obtain ⟨T,hT⟩ : ∃ T,T = (Zai l).length := ⟨_,rfl⟩
  have hjt := Zbe l
  rw [← hT] at hcs hn hjt ⊢
  repeat (first|refine Yaa ?_|refine Yaf ?_)
  refine X_yl (Zkj (l := 0) (h := T) (k := T) rfl rfl rfl rfl rfl ⟨_,_,rfl,by omega,by omega,hcs⟩ ⟨_,_,rfl,by omega,by omega,Nat.le_refl _⟩ (.inl ⟨rfl,rfl⟩)) rfl rfl ?_
  rw [sub_zero,Nat.sub_zero]
  obtain ⟨x,hx0⟩ : ∃ x,l[0]? = some x := ⟨_,List.getElem?_eq_getElem (by omega)⟩
  have hx : (l.map Bs.val)[0]? = some (.slice x.a x.s.length x.c) := by simp [hx0,Bs.val]
  have hbx := hB.all x (List.mem_of_getElem? hx0)
  have hj0 := Zcr hx0
  simp only [List.take_zero,Nat.zero_add] at hj0
  replace hj0 : Zai (l.take 1) = x.s := by rw [hj0]; rfl
  have hx1 := hjt 1
  rw [hj0] at hx1
  obtain ⟨c0,rfl⟩ : ∃ c0 : List Value,cs = c0.toArray := ⟨cs.toList,by simp⟩
  have hc0 : T ≤ c0.length := by simpa using hcs
  repeat (first|refine Yd0 ?_|refine Yaf ?_|refine Yag ?_|refine Ybc ?_|refine Yb5 ?_|refine Yd1 ?_|refine Yab ?_)
  refine Zpp rfl rfl rfl rfl rfl hS (hbx.rd hS) (by simp) Zel (by omega) (fun w hS => ?_)
  rw [List.take_of_length_le (by simp; omega)] at hS
  replace hS : St W noF [pts p (.cells (bv (Zai (l.take 1)) ++ c0.drop x.s.length).toArray 5)] w := by
   rw [hj0]; simpa [Zah] using hS
  have hmin : min x.s.length T = (Zai (l.take 1)).length := by rw [hj0]; omega
  rw [hmin]
  have hjx : (Zai (l.take 1)).length = x.s.length := by rw [hj0]
  clear hmin hx hx0 hbx hj0
  repeat (first|refine Yd0 ?_|refine Yee ?_|refine Yd1 ?_|refine Yab ?_)
  refine X_yl (Zan (l := 1) (h := l.length) rfl rfl rfl rfl (.inl ⟨rfl,rfl⟩) (.inr ⟨_,_,rfl,by omega,by omega,by omega⟩)) rfl rfl ?_
  rw [show sub (some ⟨ab,ao,none⟩) 1 1 c = some ⟨ab,ao + 1,none⟩ by unfold sub; rw [if_neg (by omega)]; simp [Zbg]]
  have hr' : Ro W noF (row (some ⟨ab,ao + 1,none⟩) ((l.map Bs.val).drop 1)) := hr.mono fun h hh => by
   have := row.part (a := some ⟨ab,ao,none⟩) (cs' := (l.map Bs.val).drop 1) (i := 1) (fun j v hv => by simpa [Nat.add_comm] using hv) h hh
   simpa [adr] using this
  clear hr
  repeat (first|refine Yd0 ?_|refine Yaf ?_|refine Yav ?_|refine Yal ?_|refine Yab ?_)
  refine Zak (α := Nat) (fun i => [(1,.slice none 0 0),(8,.slice (some ⟨p,0,none⟩) T T),(9,.int .i64 ((Zai (l.take (i + 1))).length : Nat)),(70,.slice (some ⟨ab,ao + 1,none⟩) (l.length - 1) (c - 1)),(71,.int .i64 ((l.length - 1 : Nat) : Int)),(72,.int .i64 (i : Nat))])
   (fun i w => i ≤ l.length - 1 ∧ ∃ r,r.length + (Zai (l.take (i + 1))).length = c0.length ∧ St W noF [pts p (.cells (bv (Zai (l.take (i + 1))) ++ r).toArray 5)] w) (fun i => l.length - 1 - i) 0 ⟨rfl,rfl,rfl,rfl,rfl,rfl,trivial⟩ ⟨Nat.zero_le _,_,by simp; omega,hS⟩ ?_
  clear hS
  rintro i w ⟨hi,r,hrl,hS⟩
  have hjt1 := hjt (i + 1)
  obtain ⟨J,hJ⟩ : ∃ J,J = Zai (l.take (i + 1)) := ⟨_,rfl⟩
  rw [← hJ] at hS hrl hjt1 ⊢
  by_cases hlt : i < l.length - 1
  ·obtain ⟨x,hx0⟩ : ∃ x,l[i + 1]? = some x := ⟨_,List.getElem?_eq_getElem (by omega)⟩
   have hbx := hB.all x (List.mem_of_getElem? hx0)
   have hj0 := Zcr hx0
   have hx : ((l.map Bs.val).drop 1)[i]? = some (.slice x.a x.s.length x.c) := by simp [hx0,Bs.val]
   have hx1 := hjt (i + 1 + 1)
   rw [hj0,← hJ,List.length_append] at hx1
   have hr := hr'
   repeat (first|refine Yd0 ?_|refine Ye0 ?_|refine Yd4 ?_|refine Yab ?_)
   refine X_yl (Zan (l := J.length) (h := T) rfl rfl rfl rfl (.inl ⟨rfl,rfl⟩) (.inr ⟨_,_,rfl,by omega,by omega,by omega⟩)) rfl rfl ?_
   obtain ⟨off,hoff,hof⟩ : ∃ off,sub (some ⟨p,0,none⟩) J.length 1 T = some ⟨p,off,none⟩ ∧ (off = J.length ∨ (T = J.length ∧ off = 0)) := by
    unfold sub
    by_cases e : T = J.length
    ·exact ⟨0,by rw [if_pos e],.inr ⟨e,rfl⟩⟩
    ·exact ⟨J.length,by rw [if_neg e]; simp [Zbg],.inl rfl⟩
   rw [hoff]
   repeat (first|refine Yaa ?_|refine Yaf ?_)
   refine Zpp (news := []) rfl rfl rfl rfl rfl hS (Zl0 _ _) rfl (fun _ h => by cases h) (by simp; omega) (fun w hS => ?_)
   rw [show Zah (bv J ++ r) off (([] : List Value).take (T - J.length)) = bv J ++ r by simp [Zah]] at hS
   rw [show ((min 0 (T - J.length) : Nat) : Int) = 0 by omega]
   repeat (first|refine Yd0 ?_|refine Yef ?_|refine Yad ?_|refine Yab ?_)
   rw [show (J.length : Int) + 0 = (J.length : Nat) by omega]
   refine X_yl (Zan (l := J.length) (h := T) rfl rfl rfl rfl (.inl ⟨rfl,rfl⟩) (.inr ⟨_,_,rfl,by omega,by omega,by omega⟩)) rfl rfl ?_
   rw [hoff]
   repeat (first|refine Yaa ?_|refine Yaf ?_)
   refine Zpp rfl rfl rfl rfl rfl hS (hbx.rd hS) (by simp) Zel (by simp; omega) (fun w hS => ?_)
   repeat (first|refine Yd0 ?_|refine Yef ?_|refine Yad ?_|refine Yd8 ?_)
   refine Zaf (i + 1) ⟨rfl,rfl,?_,rfl,rfl,rfl,trivial⟩ ⟨by omega,r.drop x.s.length,by rw [hj0,← hJ]; simp; omega,?_⟩ (by omega)
   ·show some _ = some _
    rw [hj0,← hJ]
    congr 2
    simp
    omega
   ·rw [hj0,← hJ,Zdt]
    rcases hof with rfl | ⟨e,rfl⟩
    ·rw [List.take_of_length_le (by simp; omega)] at hS
     have : Zah (bv J ++ r) J.length (bv x.s) = bv J ++ bv x.s ++ r.drop x.s.length := by
      have := Zs8 (l := bv J) (m := r) (vs := bv x.s) (k := J.length) (n := 0) (by simp)
      rw [Nat.add_zero] at this
      rw [this]; simp [Zah]
     rw [this] at hS
     exact hS
    ·have h0 : x.s = [] := List.length_eq_zero_iff.1 (by omega)
     rw [h0] at hS ⊢
     simpa [Zah,bv] using hS
  ·obtain rfl : i = l.length - 1 := by omega
   have hJj : J = Zai l := by rw [hJ,show l.length - 1 + 1 = l.length by omega,List.take_length]
   repeat (first|refine Yd0 ?_|refine Yey ?_|refine Yd9 ?_|refine Yez ?_)
   refine ⟨p,rfl,hS.head fun h hh => Zfq (n := J.length) ?_ h hh⟩
   rw [← hJj]; simp
end Cr
namespace Cr
open Go Go.Proofs
set_option maxRecDepth 100000
set_option maxHeartbeats 4000000
attribute [local irreducible] Calls

/-! ### big -/
def Zy7 (n : Int) (c i : Nat) : UInt8 := b8 (ishr .u64 (IntKind.u64.wrap n) (8 * (c - 1 - i)))
def Zkh (n : Int) (c : Nat) : Nat → List UInt8
 | 0 => List.replicate c 0
 | i + 1 => (Zkh n c i).set i (Zy7 n c i)
theorem Zd1 (n : Int) (c : Nat) : ∀ i,(Zkh n c i).length = c
 | 0 => by simp [Zkh]
 | i + 1 => by simp [Zkh,Zd1 n c i]
def bigB (n : Int) (c : Nat) : List UInt8 := Zkh n c c
theorem Zag (n : Int) (c : Nat) : (bigB n c).length = c := Zd1 n c c
attribute [irreducible] bigB
theorem big_ (n : Int) (c : Nat) (W : World) (hc : c ≤ 1048576) :
  Calls Tryz.prog 205 #[.int .i64 n,.int .i64 (c : Nat)] W (Ret fun v w => ∃ p,v = .slice (some ⟨p,0,none⟩) c c ∧ St W noF [pts p (.cells (bv (bigB n c)).toArray 5)] w) := by
 have hS := St.start W
 refine Zab Tryz.func205 rfl Tryz.ntmps205 rfl ?_
 repeat (first|refine Yd0 ?_|(refine X_id ?_;first|refine Yev ?_|refine Zni rfl rfl rfl (by omega) (by omega) rfl rfl hS (fun _ _ hS => ?_))|refine Yd3 ?_|refine Yab ?_)
 rename_i p w0
 refine Zak (α := Nat) (fun i => [(0,.int .i64 n),(1,.int .i64 (c : Nat)),(5,.slice (some ⟨p,0,none⟩) c c),(10,.int .i64 (c : Nat)),(11,.int .i64 (i : Nat))])
  (fun i w => i ≤ c ∧ St W noF [pts p (.cells (bv (Zkh n c i)).toArray 5)] w) (fun i => c - i) 0 ⟨rfl,rfl,rfl,rfl,rfl,trivial⟩ ⟨Nat.zero_le _,hS⟩ ?_
 clear hS
 rintro i w ⟨hi,hS⟩
 obtain ⟨L,hLe⟩ : ∃ L,L = Zkh n c i := ⟨_,rfl⟩
 have hL : L.length = c := by rw [hLe]; exact Zd1 n c i
 rw [← hLe] at hS
 by_cases hlt : i < c
 ·repeat (first|refine Yd0 ?_|(refine X_id ?_;first|refine Yaf ?_|refine Yag ?_|refine Ya2 ?_|refine Ybc ?_|refine Yax ?_|refine Yb2 ?_|refine Ych ?_|refine Yc8 ?_|refine Ycn ?_|refine Ycz ?_|refine Zw1 rfl rfl rfl rfl hS (by omega) (fun _ hS => ?_))|refine Yd4 ?_|refine Yd8 ?_)
  refine Zaf (i + 1) ⟨rfl,rfl,rfl,rfl,rfl,trivial⟩ ⟨by omega,?_⟩ (by omega)
  simp only [Zkh,Zy7]
  rw [← hLe]
  rw [show 0 + (i : Int).toNat * 1 = i by omega,show (8 * ((c : Int) - 1 - (i : Int))).toNat = 8 * (c - 1 - i) by omega] at hS
  exact hS
 ·obtain rfl : i = c := by omega
  repeat (first|refine Yd0 ?_|refine Yey ?_|refine Yd9 ?_|refine Yez ?_)
  refine ⟨p,rfl,?_⟩
  unfold bigB
  rw [← hLe]
  exact hS

/-! ### small -/
def Zmb (s : List UInt8) : Nat → Int
 | 0 => 0
 | i + 1 => ior .i64 (ishl .i64 (Zmb s i) 8) ((s.getD i 0).toNat : Int)
def Zcq (s : List UInt8) : Int := Zmb s s.length
theorem Zzm (a : Option Addr) (c : Nat) (s : List UInt8) (W : World) (hs : Rd W (bytes a s)) (hl : s.length ≤ 1048576) :
  Calls Tryz.prog 202 #[.slice a s.length c] W (Ret fun v w => v = .int .i64 (Zcq s) ∧ W = w) := by
 have hS := St.start W
 have hso := hs.ro
 refine Zab Tryz.func202 rfl Tryz.ntmps202 rfl ?_
 repeat (first|refine Yd0 ?_|refine Yev ?_|refine Yd3 ?_|refine Yab ?_)
 refine Zak (α := Nat) (fun i => [(3,.int .i64 (Zmb s i)),(6,.slice a s.length c),(7,.int .i64 (s.length : Nat)),(8,.int .i64 (i : Nat))])
  (fun i w => i ≤ s.length ∧ w = W) (fun i => s.length - i) 0 ⟨rfl,rfl,rfl,rfl,trivial⟩ ⟨Nat.zero_le _,rfl⟩ ?_
 rintro i w ⟨hi,rfl⟩
 by_cases hlt : i < s.length
 ·obtain ⟨xb,xo,rfl⟩ := hs.base (by intro e; have := Zaq s; rw [e] at this; simp at this; omega)
  have hb : Ro w noF (bytes (some ⟨xb,xo,none⟩) s) := hso
  have h256 := UInt8.toNat_lt (s.getD ((i : Int).toNat * 1) 0)
  repeat (first|refine Yd0 ?_|(refine X_id ?_;first|refine Yaf ?_|refine Yag ?_|refine Ya2 ?_|refine Ybc ?_|refine Yax ?_|refine X_yl (Zf2 rfl rfl (w64 (by omega) (by omega))) rfl rfl ?_|refine X_yl (Z4o rfl rfl rfl) rfl rfl ?_|refine X_yl (Zwq rfl rfl rfl (by omega)) rfl rfl ?_|refine X_yl (Zar rfl rfl ((hb.rd hS).cellB' (by omega))) rfl rfl ?_)|refine Yd4 ?_|refine Yd8 ?_)
  refine Zaf (i + 1) ⟨?_,rfl,rfl,rfl,trivial⟩ ⟨by omega,rfl⟩ (by omega)
  show some _ = some _
  simp only [Zmb]
  rw [show (i : Int).toNat * 1 = i by omega]
  rfl
 ·obtain rfl : i = s.length := by omega
  repeat (first|refine Yd0 ?_|refine Yey ?_|refine Yd9 ?_|refine Yez ?_)
  exact ⟨rfl,rfl⟩
end Cr
namespace Cr
open Go Go.Proofs
set_option maxRecDepth 100000
set_option maxHeartbeats 8000000
attribute [local irreducible] Calls

def mkAt (no : Int) (i : Nat) : UInt8 := b8 (ishr .u64 (IntKind.u64.wrap no) (8 * i))
def mkTo (no : Int) : Nat → List UInt8
 | 0 => List.replicate 8 0
 | i + 1 => (mkTo no i).set (7 - i) (mkAt no i)
def be8 (no : Int) : List UInt8 := mkTo no 8
attribute [irreducible] be8
end Cr
namespace Cr
open Go Go.Proofs
set_option maxRecDepth 100000
set_option maxHeartbeats 4000000

theorem Zfh {F : Fence} {n : Nat} {P : Program} {f : FuncId} {args : Array Value} {w : World} {R R' : Value → World → Prop} (h : CallsIn F n P f args w (Ret R)) (hm : ∀ v w,R v w → R' v w) : CallsIn F n P f args w (Ret R') := by
 obtain ⟨h1,h2⟩ := h
 refine ⟨h1,fun cs hr => ?_⟩
 obtain ⟨e,w3,fr,⟨v,he,hR⟩,hrest⟩ := h2 cs hr
 exact ⟨e,w3,fr,⟨v,he,hm _ _ hR⟩,hrest⟩
theorem Fr.round2 {σ : Env} {N : Nat} {tm : Array Value} (hsz : tm.size = N) (h : ∀ n v,look σ n = some v → tm[n]? = some v) (l : Nat) {a b : Nat} (x y : Value) (ha : a < N) (hb : b < N) :
  Fr ((b,y) :: (a,x) :: σ) N ⟨[],some l⟩ { tmps := (#[a,b].zip #[x,y]).foldl (fun tmps (t,v) => tmps.setIfInBounds t v) tm,defers := [] } := by
 have := ((Fr.round hsz h l).put ha x).put hb y
 simpa [Act.put] using this
theorem Zfs {T : TypeId} {e c : Nat} {a : Option Addr} {cs : List Value} : ∀ h,own T e a c cs h → row a cs h := fun h hh => by
 obtain ⟨h1,_,⟨rfl,h0⟩ | ⟨b,cells,rfl,rfl,hc,ht⟩⟩ := hh
 ·exact .inl ⟨by rw [Nat.zero_mul] at h1; exact List.length_eq_zero_iff.1 (by omega),h0⟩
 ·refine .inr ⟨b,0,cells,T,(0,0),rfl,rfl,fun i v hv => ?_⟩
  rw [← ht,List.getElem?_take] at hv
  split at hv
  ·simpa using hv
  ·cases hv
theorem Zo0 {α : Type} {l : List α} {k : Nat} {x : α} (hk : k ≠ 0) (hx : l[k - 1]? = some x) : l.drop (k - 1) = x :: l.drop k := by
 obtain ⟨h,rfl⟩ := List.getElem?_eq_some_iff.1 hx
 have := List.drop_eq_getElem_cons h
 rwa [show k - 1 + 1 = k by omega] at this
theorem Zv0 {α : Type} {l : List α} {k : Nat} {x : α} {f : α → Bool} (hk : k ≠ 0) (hx : l[k - 1]? = some x) (hf : (l.drop k).reverse.find? f = none) (h : f x = false) : (l.drop (k - 1)).reverse.find? f = none := by
 rw [Zo0 hk hx,List.reverse_cons,List.find?_append,hf]
 simp [h]
theorem Zv1 {α : Type} {l : List α} {k : Nat} {x : α} {f : α → Bool} (hk : k ≠ 0) (hx : l[k - 1]? = some x) (hf : (l.drop k).reverse.find? f = none) (h : f x = true) : l.reverse.find? f = some x := by
 have e : l = l.take (k - 1) ++ (x :: l.drop k) := by rw [← Zo0 hk hx]; simp
 rw [e,List.reverse_append,List.reverse_cons,List.find?_append,List.find?_append,hf]
 simp [h]
theorem Rd.slide {w : World} {b o : Nat} {cs : List Value} (H : Rd w (row (some ⟨b,o,none⟩) cs)) (k n : Nat) : Rd w (row (some ⟨b,o + k,none⟩) ((cs.drop k).take n)) :=
 H.mono fun h hr => by
  rcases hr with ⟨rfl,h0⟩ | ⟨b',off,cells,T,fz,hb,rfl,hc⟩
  ·exact ⟨h,.inl ⟨by simp,h0⟩,fun _ _ e => e⟩
  ·obtain ⟨rfl,rfl⟩ : b = b' ∧ o = off := by simpa using hb
   refine ⟨_,.inr ⟨b,o + k,cells,T,fz,rfl,rfl,fun i v hv => ?_⟩,fun _ _ e => e⟩
   rw [List.getElem?_take] at hv
   split at hv
   ·rw [List.getElem?_drop] at hv
    have := hc _ _ hv
    rwa [Nat.add_assoc]
   ·cases hv
theorem Zu0 (p : Nat) (D : DiskM) (no : Int) (W : World) (hd : Rd W (disk p D)) (hline : D.line.length < 1073741824) :
  Calls Tryz.prog 130 #[.pointer (some ⟨p,0,none⟩),.int .i64 no] W (Ret fun v w => ∃ a c,v = .tuple #[.slice a (D.read no).2.length c,.int .i64 (D.read no).1] ∧ (D.read no).2.length ≤ c ∧ St W noF [bytes a (D.read no).2] w) := by
 have hS := St.start W
 obtain ⟨hok,al,cl,ai,ci,c1,c2,hcd,hrl,hri⟩ := hd.disk
 have hdo := hd.ro
 cases hoff : D.off
 ·cases hin : Zc2 D no
  ·refine Zab Tryz.func130 rfl Tryz.ntmps130 rfl ?_
   repeat (first|refine Yd0 ?_|(refine X_id ?_;first|(refine Zaa 76 rfl rfl rfl rfl rfl (on_b p D _ hoff _ (hdo.rd hS)) ?_;rintro _ _ ⟨rfl,rfl⟩)|(refine Zaa 199 rfl rfl rfl rfl rfl (Z3q p D no _ hin _ (hdo.rd hS)) ?_;rintro _ _ ⟨rfl,rfl⟩)|refine Yaf ?_|refine Yag ?_|refine Ybb ?_|refine Ybo ?_|refine Yap ?_|refine Yao (fun _ hS _ => ?_)|refine Ya6 (fun _ _ hS _ => ?_)|refine Yar (fun _ _ hS _ => ?_))|refine Yek ?_|refine Yab ?_|refine Yaq ?_|refine Ya7 ?_|refine Yby ?_)
   rw [show D.read no = (1,[]) by simp [DiskM.read,hoff,hin]]
   exact ⟨none,0,rfl,Nat.le_refl _,hS.drops.row_none⟩
  ·refine Zab Tryz.func130 rfl Tryz.ntmps130 rfl ?_
   repeat (first|refine Yd0 ?_|(refine X_id ?_;first|(refine Zaa 76 rfl rfl rfl rfl rfl (on_b p D _ hoff _ (hdo.rd hS)) ?_;rintro _ _ ⟨rfl,rfl⟩)|(refine Zaa 199 rfl rfl rfl rfl rfl (Z3q p D no _ hin _ (hdo.rd hS)) ?_;rintro _ _ ⟨rfl,rfl⟩)|refine Yaf ?_|refine Yag ?_|refine Yau ?_|refine Yan ?_|refine Ybb ?_|refine Yap ?_|refine Ya6 (fun _ _ hS _ => ?_)|refine Yar (fun _ _ hS _ => ?_))|refine Yex ?_|refine Yd8 ?_)
   have hcd1 := hS.kept hcd
   repeat (first|refine Yaa ?_|refine Yb4 ?_)
   obtain ⟨_,hc,hr,hw,hbk⟩ := hS.call []
   refine Zaa _ rfl rfl rfl rfl rfl (Zqu _ _ _ _) ?_
   rintro _ w ⟨bx,rfl,hS⟩
   replace hS := hbk hS.more
   clear hc hr hw hbk
   repeat (first|refine Yac ?_|refine Yal ?_|refine Yab ?_)
   rename_i b3 _ _ _ b4 _ _ _ b5 _ _ _ _
   refine Zgu (first := []) (captured := [.pointer (some ⟨bx,0,none⟩)])
    (fun l r j w => (j = none ∧ D.line.reverse.find? (fun x => x.1 == no) = none ∧ ∃ lo,St W noF [pts l lo,pts r (.deferred (some [])),pts bx (.cells #[.slice ai D.line.length ci] 162),pts b5 (.cells #[.int .i64 0] 31),pts b4 (.cells #[.slice none 0 0] 35),pts b3 (.cells #[.int .i64 no] 3)] w) ∨
     (j = some .ret ∧ ∃ x tb,D.line.reverse.find? (fun x => x.1 == no) = some x ∧ ∃ lo,St W noF [pts l lo,pts r (.deferred (some [])),pts tb (.cells (.int .i64 x.1 :: bv x.2).toArray 336),pts b5 (.cells #[.int .i64 0] 31),pts b4 (.cells #[.slice (some ⟨tb,1,none⟩) 64 64] 35)] w))
    rfl rfl hS ?_ ?_ ?_
   ·intro A B hA hB fn tm l r w1 htm hlook hS
    have hln : ∀ x ∈ D.line,(Value.int .i64 x.1 :: bv x.2).length = 65 := fun x hx => by simp [(hok.line64 x hx).1]
    have hll := Zc6 fun x hx => (hok.line64 x hx).1
    have hW := fun (w : World) rs (h : St W noF rs w) => hri.ro.rd h
    refine Zfh (Zix l bx D.line.length ci ai (Za0 D.line) w1 162 (by omega) hll
     (fun k w => k ≤ D.line.length ∧ (D.line.drop k).reverse.find? (fun x => x.1 == no) = none ∧ St W noF [pts l (.loop (recd fn tm #[22,23] A B r .ready none)),pts r (.deferred (some [])),pts bx (.cells #[.slice ai D.line.length ci] 162),pts b5 (.cells #[.int .i64 0] 31),pts b4 (.cells #[.slice none 0 0] 35),pts b3 (.cells #[.int .i64 no] 3)] w)
     (fun w => ∃ x tb,D.line.reverse.find? (fun x => x.1 == no) = some x ∧ St W noF [pts l (.loop (recd fn tm #[22,23] A B r .done (some .ret))),pts r (.deferred (some [])),pts tb (.cells (.int .i64 x.1 :: bv x.2).toArray 336),pts b5 (.cells #[.int .i64 0] 31),pts b4 (.cells #[.slice (some ⟨tb,1,none⟩) 64 64] 35)] w)
     (fun k w h => h.2.2.has) (fun k w h => hW _ _ h.2.2) ?_ ⟨Nat.le_refl _,by rw [List.drop_length]; rfl,hS⟩) ?_
    ·rintro k w ⟨hkl,hf,hS⟩
     refine ⟨_,rfl,hS.has,fun hk => ?_⟩
     obtain ⟨x,hx⟩ : ∃ x,D.line[k - 1]? = some x := by
      have : k - 1 < D.line.length := by omega
      exact ⟨_,List.getElem?_eq_getElem this⟩
     have hxm := List.mem_of_getElem? hx
     have hlen : LenIs (bv x.2) 64 := ⟨by simp [(hok.line64 x hxm).1]⟩
     have hagg : ((Za0 D.line).drop ((k - 1) * 65)).take 65 = .int .i64 x.1 :: bv x.2 := Zbz hln hx
     rw [hagg]
     show RoundIn Fence.wide 0 Tryz.prog l fn ((#[22,23].zip _).foldl _ tm) A B w _
     refine Zp6 (Fr.round2 htm hlook l (.int .i64 ((k - 1 : Nat) : Int)) (.agg (.int .i64 x.1 :: bv x.2).toArray) (by decide) (by decide)) ?_
     refine C_eq hA ?_
     by_cases hno : x.1 = no
     ·repeat (first|refine Yd0 ?_|refine Yao (fun _ hS _ => ?_)|refine Yar (fun _ _ hS _ => ?_)|refine Yad ?_)
      refine Zno hS.has (fun w hset => ?_)
      replace hS := hS.upd hset
      refine C_eq hB ?_
      repeat (first|refine Yd0 ?_|(refine X_id ?_;first|refine Yan ?_|refine Ybi ?_|refine Ydk ?_|refine Yap ?_|refine Yao (fun _ hS _ => ?_))|refine Yen ?_|refine Yab ?_|refine Ya7 ?_)
      refine Zq5 hS.has (fun w hset => ⟨_,rfl,.inr ⟨rfl,x,_,?_,(hS.upd hset).pick [1,1,0,1,1]⟩⟩)
      exact Zv1 hk hx hf (by simpa using hno)
     ·repeat (first|refine Yd0 ?_|refine Yao (fun _ hS _ => ?_)|refine Yar (fun _ _ hS _ => ?_)|refine Yad ?_)
      refine Zno hS.has (fun w hset => ?_)
      replace hS := hS.upd hset
      refine C_eq hB ?_
      repeat (first|refine Yd0 ?_|refine Yan ?_|refine Ybh ?_|refine Yap ?_|refine Yex ?_|refine Yd8 ?_)
      refine Zko hS.has (fun w hset => ⟨_,rfl,.inl ⟨rfl,by omega,?_,(hS.upd hset).pick [1,1,1,1,1,1]⟩⟩)
      exact Zv0 hk hx hf (by simpa using hno)
    ·rintro _ w3 (⟨_,hf,hS⟩ | ⟨x,tb,hf,hS⟩)
     ·exact ⟨_,_,by simp,hS.has,fun w4 hset => .inl ⟨rfl,by simpa using hf,_,hS.upd hset⟩⟩
     ·exact ⟨_,_,by simp,hS.has,fun w4 hset => .inr ⟨rfl,x,tb,hf,_,hS.upd hset⟩⟩
   ·intro l r w4 hJ
    rcases hJ with ⟨_,hf,lo,hS⟩ | ⟨h,_⟩
    ·repeat (first|refine Yae ?_|refine Znn rfl ?_|refine Yat ?_)
     have hin2 : 0 ≤ no ∧ no < D.laid.length := by simpa [Zc2] using hin
     have hin0 := hin2.1
     have hin1 := hin2.2
     obtain ⟨lb,lo,rfl⟩ := hrl.base (by intro e; have h := Zc8 hok.laid64; rw [e] at h; simp at h; omega)
     refine Zao (.s 0 (.s 1 (.s 2 (.s 3 (.s 4 (.s 5 (.s 6 (.h 7 (.h 8 (.h 9 .nil .no) .no) .no)))))))) mixed (by kernel_rfl) rfl ?_
     have hS := hS.drew
     have hcd3 := hS.kept hcd
     repeat (first|(refine Zad ?_;first|refine Ya0 ?_|refine Ybq ?_|refine Ybj ?_|refine Yda ?_|refine Ybw ?_|refine Ybm ?_|refine Yc5 ?_|refine Yas ?_))
     have hseg : ((Za4 D.laid).drop (no.toNat * 64)).take 64 = bv (D.laid.getD no.toNat []) := by
      obtain ⟨s,hs⟩ : ∃ s,D.laid[no.toNat]? = some s := ⟨_,List.getElem?_eq_getElem (by omega)⟩
      rw [List.getD_eq_getElem?_getD,hs]
      exact Zbz (fun x hx => by simp [hok.laid64 x hx]) hs
     have hrs := (hrl.ro.rd hS).slide (no.toNat * 64) 64
     rw [hseg] at hrs
     have h64 : (D.laid.getD no.toNat []).length = 64 := by rw [← Zaq,← hseg,List.length_take,List.length_drop,Zc8 hok.laid64]; omega
     obtain ⟨_,hc,hr,hw,hbk⟩ := hS.call []
     refine Zaa _ rfl rfl rfl rfl rfl (Z4a _ 64 _ (D.laid.getD no.toNat []) _ hrs h64 (by omega)) ?_
     rintro _ w ⟨a',c',rfl,_,hcc,hS⟩
     replace hS := hbk hS.more
     clear hc hr hw hbk
     have hcd4 := hS.kept hcd
     refine And.intro (by repeat (first|exact trivial|refine And.intro (.inl (by decide +kernel)) ?_|refine And.intro (.inr (by first|exact hS.cell|exact Zb0 hcd4)) ?_)) ?_
     repeat (first|refine Yao (fun _ hS _ => ?_)|refine Yah ?_|refine Yab ?_|(refine Zad ?_;first|refine Yay ?_|refine Yas ?_)|(refine Zac ?_;first|refine Yaz ?_))
     refine Zs3 (.inl rfl) hS.has (fun w hset => ?_)
     replace hS := hS.upd hset
     repeat (first|refine Yby ?_)
     rw [show D.read no = (0,D.laid.getD no.toNat []) by simp only [DiskM.read,hoff,hin,DiskM.find,hf]; rfl]
     refine ⟨a',c',by rw [h64],by rw [h64]; exact hcc,(hS.pick [0]).head fun h hh => ?_⟩
     exact Zfs h hh
    ·cases h
   ·intro l r c w4 hJ
    rcases hJ with ⟨h,_⟩ | ⟨h,x,tb,hf,lo,hS⟩
    ·cases h
    ·cases h
     repeat (first|refine Yah ?_|refine Yaq ?_|refine Ya7 ?_)
     refine Zs3 (.inl rfl) hS.has (fun w hset => ?_)
     replace hS := hS.upd hset
     repeat (first|refine Yby ?_)
     have hx64 : x.2.length = 64 := (hok.line64 x (by simpa using List.mem_of_find?_eq_some hf)).1
     rw [show D.read no = (0,x.2) by simp only [DiskM.read,hoff,hin,DiskM.find,hf]; rfl]
     refine ⟨some ⟨tb,1,none⟩,64,by rw [hx64],by rw [hx64]; exact Nat.le_refl _,(hS.pick [2]).head (Zp5 (n := 64) ?_)⟩
     simp [← hx64,← Zaq]
 ·refine Zab Tryz.func130 rfl Tryz.ntmps130 rfl ?_
  repeat (first|refine Yd0 ?_|(refine X_id ?_;first|(refine Zaa 76 rfl rfl rfl rfl rfl (on_b p D _ hoff _ (hdo.rd hS)) ?_;rintro _ _ ⟨rfl,rfl⟩)|refine Yaf ?_|refine Yag ?_|refine Ybo ?_|refine Yao (fun _ hS _ => ?_)|refine Ya6 (fun _ _ hS _ => ?_)|refine Yar (fun _ _ hS _ => ?_))|refine Yen ?_|refine Yab ?_|refine Yaq ?_|refine Ya7 ?_|refine Yby ?_)
  rw [show D.read no = (9,[]) by simp [DiskM.read,hoff]]
  exact ⟨none,0,rfl,Nat.le_refl _,hS.drops.row_none⟩
end Cr
namespace Cr
open Go Go.Proofs
set_option maxRecDepth 100000
set_option maxHeartbeats 4000000
attribute [local irreducible] Calls

def Zcs (l : List UInt8) : List UInt8 := (l ++ List.replicate 64 0).take 64
theorem Zbl (l : List UInt8) : (Zcs l).length = 64 := by simp [Zcs]
theorem Zx8 {T e c : Nat} {a : Option Addr} {cs cs' : List Value} (n : Nat) (h : cs.take n = cs') : ∀ g,own T e a c cs g → row a cs' g := fun g hg => by
 have := Zfs g hg
 subst h
 rcases this with ⟨rfl,h0⟩ | ⟨b,off,cells,T',fz,hb,hp,hc⟩
 ·exact .inl ⟨by simp,h0⟩
 ·refine .inr ⟨b,off,cells,T',fz,hb,hp,fun i v hv => ?_⟩
  rw [List.getElem?_take] at hv
  split at hv
  ·exact hc i v hv
  ·cases hv
theorem Z3u (ab ao c : Nat) (l : List Bs) (W : World) (hB : Bss W noF (some ⟨ab,ao,none⟩) l) (h2 : 2 ≤ l.length) (hc : l.length ≤ c) (hl : l.length ≤ 1099511627776) (hn : (Zai l).length ≤ 1099511627776) :
  Calls Tryz.prog 207 #[.slice (some ⟨ab,ao,none⟩) l.length c] W (Ret fun v w => ∃ p k,v = .slice (some ⟨p,0,none⟩) 64 k ∧ St W noF [bytes (some ⟨p,0,none⟩) (Zcs (Zai l))] w) := by
 have hS := St.start W
 refine Zab Tryz.func207 rfl Tryz.ntmps207 rfl ?_
 repeat (first|refine Yd0 ?_|refine Yee ?_|refine Yd1 ?_|refine Yab ?_)
 refine Zaa _ rfl rfl rfl rfl rfl (Z5h ab ao c l _ hB h2 hc hl hn) ?_
 rintro _ w ⟨p,rfl,hS'⟩
 replace hS := hS.plus hS'
 clear hS'
 repeat (first|refine Yaa ?_)
 refine Zkz (m := 64) rfl rfl rfl rfl rfl rfl hS (hS.rd (List.mem_cons_self ..)) (by simp) (by omega) (by omega) (by omega) (by simp only [maxLen]; omega) (fun b k w hS hk => ?_)
 repeat (first|refine Yaa ?_)
 refine X_yl (Zan (l := 0) (h := 64) rfl rfl rfl rfl (.inr ⟨_,_,rfl,by omega,by omega,by omega⟩) (.inl ⟨rfl,rfl⟩)) rfl rfl ?_
 rw [sub_zero]
 repeat (first|refine Yd0 ?_|refine Yag ?_|refine Yah ?_|refine Yd2 ?_)
 refine ⟨b,k,rfl,(hS.pick [0]).head fun h hh => Zx8 64 ?_ h hh⟩
 unfold Zcs
 rw [Zgb,← Zdt,← Zkf]
theorem Bss.ofRd {w : World} {a : Option Addr} {l : List Bs} (hr : Rd w (Cr.row a (l.map Bs.val))) (hall : ∀ x ∈ l,Rd w (bytes x.a x.s)) : Bss w noF a l := ⟨hr.ro,fun x hx => (hall x hx).ro⟩
theorem Rd.ptsB {w : World} {b : Nat} {s : List UInt8} {T : TypeId} (h : Rd w (Cr.pts b (.cells (bv s).toArray T))) : Rd w (bytes (some ⟨b,0,none⟩) s) := h.mono fun g hg => ⟨g,Zmi g hg,fun _ _ e => e⟩

/-! ### front -/
def Zef (rd fs : List Int) (n : Int) : List UInt8 := Zcs (bigB n 8 ++ digest rd fs [bigB n 8])
theorem Zhj (rd fs : List Int) (n : Int) : (Zef rd fs n).length = 64 := Zbl _
theorem Zzx (n : Int) (rd fs : List Int) (W : World) (hG : Gl W noF rd fs) :
  Calls Tryz.prog 203 #[.int .i64 n] W (Ret fun v w => ∃ p k,v = .slice (some ⟨p,0,none⟩) 64 k ∧ St W noF [bytes (some ⟨p,0,none⟩) (Zef rd fs n)] w) := by
 have hS := St.start W
 refine Zab Tryz.func203 rfl Tryz.ntmps203 rfl ?_
 repeat (first|refine Yd0 ?_|refine Yee ?_|refine Yd1 ?_|refine Yab ?_)
 refine Zaa _ rfl rfl rfl rfl rfl (big_ n 8 _ (by omega)) ?_
 rintro _ w ⟨p,rfl,hS'⟩
 replace hS := hS.plus hS'
 clear hS'
 repeat (first|refine Yd0 ?_|refine Yee ?_|refine Ybf (fun _ _ hS _ => ?_)|refine Yd1 ?_|refine Yab ?_)
 rename_i q wq _
 have hB := Bss.ofRd (w := wq) (a := some ⟨q,0,none⟩) (l := [⟨some ⟨p,0,none⟩,8,bigB n 8⟩]) (by simpa [Bs.val,Zag] using (hS.rd (List.mem_cons_self ..)).own_row) (fun x hx => by
  simp only [List.mem_singleton] at hx
  subst hx
  exact (hS.rd (List.mem_cons_of_mem _ (List.mem_cons_self ..))).ptsB)
 have hfl : (Zbp (Zdd [⟨some ⟨p,0,none⟩,8,bigB n 8⟩])).length < 1152921504606846976 := by simp [Zbp,Zdd,Zcm,Zag]
 have hl32 : LenO (bv (digest rd fs (Zdd [⟨some ⟨p,0,none⟩,8,bigB n 8⟩]))) 32 := ⟨by rw [Zaq]; exact Zbc _ _ _⟩
 refine Zae _ rfl rfl rfl rfl rfl hS (Zqm _ 1 _ rd fs _ hfl (by simp) (hG.mono fun r hr => (hr.rd hS).ro) hB) ?_
 rintro _ w rfl hS
 clear hB hfl
 repeat (first|refine Yd0 ?_|(refine X_id ?_;first|refine Yaf ?_|refine Ydk ?_|refine Yao (fun _ hS _ => ?_)|refine Yar (fun _ _ hS _ => ?_)|refine Ybf (fun _ _ hS _ => ?_))|refine Yd1 ?_|refine Yab ?_)
 rename_i b4 _ _ _ _ _ _ b6 w6 _
 have hB := Bss.ofRd (w := w6) (a := some ⟨b6,0,none⟩) (l := [⟨some ⟨p,0,none⟩,8,bigB n 8⟩,⟨some ⟨b4,0,none⟩,32,digest rd fs [bigB n 8]⟩]) (by simpa [Bs.val,Zag,Zbc] using (hS.rd (List.mem_cons_self ..)).own_row) (fun x hx => by
  simp only [List.mem_cons,List.not_mem_nil,or_false] at hx
  rcases hx with rfl | rfl
  ·exact (hS.rd (by simp)).ptsB (T := 5)
  ·exact (hS.rd (List.mem_cons_of_mem _ (List.mem_cons_self ..))).ptsB)
 refine Zaa _ rfl rfl rfl rfl rfl (Z3u b6 0 2 _ _ hB (by simp) (by simp) (by simp) (by simp [Zai,Zag,Zbc])) ?_
 rintro _ w ⟨r,k,rfl,hS'⟩
 replace hS := hS.plus hS'
 clear hS' hB
 repeat (first|refine Yd0 ?_|refine Yag ?_|refine Yah ?_|refine Yd2 ?_)
 refine ⟨r,k,rfl,?_⟩
 have := hS.pick [0]
 unfold Zef
 simpa [Zai] using this

/-! ### note -/
def Zhc (number at_ count no : Int) (d : List UInt8) : List UInt8 := Zcs (bigB number 8 ++ (bigB at_ 4 ++ (bigB count 4 ++ (bigB no 4 ++ d))))
theorem Zfa (number at_ count no : Int) (d : List UInt8) : (Zhc number at_ count no d).length = 64 := Zbl _
theorem Z29 (number at_ count no : Int) (d : List UInt8) (hd : d.length = 32) (W : World) :
  Calls Tryz.prog 141 #[.int .i64 number,.int .i64 at_,.int .i64 count,.int .i64 no,.agg (bv d).toArray] W (Ret fun v w => ∃ p k,v = .slice (some ⟨p,0,none⟩) 64 k ∧ St W noF [bytes (some ⟨p,0,none⟩) (Zhc number at_ count no d)] w) := by
 have hS := St.start W
 have hl32 : LenO (bv d) 32 := ⟨by rw [Zaq]; exact hd⟩
 refine Zab Tryz.func141 rfl Tryz.ntmps141 rfl ?_
 repeat (first|refine Yd0 ?_|refine Yag ?_|refine Ya6 (fun _ _ hS _ => ?_)|refine Yd1 ?_|refine Yab ?_)
 rename_i bd _ _
 refine Zao (.s 0 (.s 2 (.s 4 (.s 6 (.s 8 (.h 1 (.h 3 (.h 5 (.h 7 (.h 9 (.h 10 (.s 11 .nil) .no) .no) .no) .no) .no) .no)))))) mixed (by kernel_rfl) rfl ?_
 have hS := hS.drew
 repeat (first|(refine Zad ?_;first|refine Ya0 ?_|refine Yda ?_|refine Yas ?_))
 refine Zaa _ rfl rfl rfl rfl rfl (big_ number 8 _ (by omega)) ?_
 rintro _ w ⟨p1,rfl,hS'⟩
 replace hS := hS.plus hS'
 clear hS'
 repeat (first|(refine Zad ?_;first|refine Yas ?_)|(refine Zac ?_;first|refine Yaz ?_))
 refine Zaa _ rfl rfl rfl rfl rfl (big_ at_ 4 _ (by omega)) ?_
 rintro _ w ⟨p2,rfl,hS'⟩
 replace hS := hS.plus hS'
 clear hS'
 repeat (first|(refine Zad ?_;first|refine Yas ?_)|(refine Zac ?_;first|refine Yaz ?_))
 refine Zaa _ rfl rfl rfl rfl rfl (big_ count 4 _ (by omega)) ?_
 rintro _ w ⟨p3,rfl,hS'⟩
 replace hS := hS.plus hS'
 clear hS'
 repeat (first|(refine Zad ?_;first|refine Yas ?_)|(refine Zac ?_;first|refine Yaz ?_))
 refine Zaa _ rfl rfl rfl rfl rfl (big_ no 4 _ (by omega)) ?_
 rintro _ w ⟨p4,rfl,hS'⟩
 replace hS := hS.plus hS'
 clear hS'
 repeat (first|refine Ybf (fun _ _ hS _ => ?_)|(refine Zad ?_;first|refine Yas ?_)|(refine Zac ?_;first|refine Yaz ?_))
 rename_i b6 w6 _
 have hB := Bss.ofRd (w := w6) (a := some ⟨b6,0,none⟩) (l := [⟨some ⟨p1,0,none⟩,8,bigB number 8⟩,⟨some ⟨p2,0,none⟩,4,bigB at_ 4⟩,⟨some ⟨p3,0,none⟩,4,bigB count 4⟩,⟨some ⟨p4,0,none⟩,4,bigB no 4⟩,⟨some ⟨bd,0,none⟩,32,d⟩])
  (by simpa [Bs.val,Zag,hd] using (hS.rd (List.mem_cons_self ..)).own_row) (fun x hx => by
   simp only [List.mem_cons,List.not_mem_nil,or_false] at hx
   rcases hx with rfl | rfl | rfl | rfl | rfl
   ·exact (hS.rd (by simp)).ptsB (T := 5)
   ·exact (hS.rd (by simp)).ptsB (T := 5)
   ·exact (hS.rd (by simp)).ptsB (T := 5)
   ·exact (hS.rd (by simp)).ptsB (T := 5)
   ·exact (hS.rd (by simp)).ptsB (T := 79))
 refine Zaa _ rfl rfl rfl rfl rfl (Z3u b6 0 5 _ _ hB (by simp) (by simp) (by simp) (by simp [Zai,Zag,hd])) ?_
 rintro _ w ⟨r,k,rfl,hS'⟩
 replace hS := hS.plus hS'
 clear hS' hB
 repeat (first|refine Yah ?_|refine Yd2 ?_|(refine Zad ?_;first|refine Yay ?_|refine Ybn ?_)|(refine Zac ?_;first|refine Yaz ?_))
 refine ⟨r,k,rfl,?_⟩
 have := hS.pick [0]
 unfold Zhc
 simpa [Zai] using this
end Cr
namespace Cr
open Go Go.Proofs
set_option maxRecDepth 10000
theorem Zyh {n : Nat} (k : Nat) (hk : k ≤ 64) : ishr .u64 (n : Int) k = ((n / 2 ^ k : Nat) : Int) := by
 unfold ishr
 rw [show IntKind.u64.bits = 64 from rfl,Nat.min_eq_left hk,Int.fdiv_eq_ediv_of_nonneg _ (Int.le_of_lt (Int.pow_pos (by omega)))]
 simp
theorem Zo9 (n : Int) (c i : Nat) (hi : i < c) : ∀ j,j ≤ c → (Zkh n c j).getD i 0 = if i < j then Zy7 n c i else 0
 | 0,_ => by simp [Zkh,List.getD_eq_getElem?_getD,hi]
 | j + 1,hj => by
  have ih := Zo9 n c i hi j (by omega)
  rw [Zkh,List.getD_eq_getElem?_getD,List.getElem?_set]
  by_cases h : j = i
  ·rw [if_pos h,if_pos (by rw [Zd1]; omega),if_pos (by omega),h]; rfl
  ·rw [if_neg h,← List.getD_eq_getElem?_getD,ih]
   by_cases h2 : i < j
   ·rw [if_pos h2,if_pos (by omega)]
   ·rw [if_neg h2,if_neg (by omega)]
theorem Zyu {l : List UInt8} (h : l.length ≤ 64) : Zcs l = l ++ List.replicate (64 - l.length) 0 := by
 unfold Zcs
 rw [List.take_append,List.take_of_length_le h,List.take_replicate,show min (64 - l.length) 64 = 64 - l.length by omega]
end Cr
namespace Cr
open Go Go.Proofs
set_option maxRecDepth 100000
set_option maxHeartbeats 4000000
attribute [local irreducible] Calls

/-! ### number -/
def Zh4 (rd fs : List Int) (b : List UInt8) : Bool := decide (0 ≤ Zcq (b.take 8)) && decide (Zcq (b.take 8) ≤ 1152921504606846976) && decide (b = Zef rd fs (Zcq (b.take 8)))
def Za3 (rd fs : List Int) (b : List UInt8) : Int × Bool := if b = List.replicate 64 0 then (0,true) else (Zcq (b.take 8),Zh4 rd fs b)
theorem Z08 (a : Option Addr) (c : Nat) (b : List UInt8) (rd fs : List Int) (W : World) (hG : Gl W noF rd fs) (hb : Rd W (bytes a b)) (h64 : b.length = 64) (hc : 64 ≤ c) :
  Calls Tryz.prog 131 #[.slice a 64 c] W (Ret fun v w => v = .tuple #[.int .i64 (Za3 rd fs b).1,.bool (Za3 rd fs b).2] ∧ St W noF [] w) := by
 have hS := St.start W
 have hbo := hb.ro
 obtain ⟨ab,ao,rfl⟩ := hb.base (by intro e; have := Zaq b; rw [e] at this; simp at this; omega)
 have hb8 : Rd W (bytes (some ⟨ab,ao,none⟩) (b.take 8)) := by
  have := hb.subBytes (l := 0) (h := 8) (c := c) (by omega) (by omega)
  rw [sub_zero] at this
  simpa using this
 have h8 : (b.take 8).length = 8 := by simp [h64]
 have hsm := Zzm (some ⟨ab,ao,none⟩) c (b.take 8) W hb8 (by omega)
 rw [h8] at hsm
 obtain ⟨n,hn⟩ : ∃ n,n = Zcq (b.take 8) := ⟨_,rfl⟩
 rw [← hn] at hsm
 refine Zab Tryz.func131 rfl Tryz.ntmps131 rfl ?_
 repeat (first|refine Yd0 ?_|refine Yee ?_|refine Yd1 ?_|refine Yab ?_)
 refine X_yl (Zan (l := 0) (h := 8) rfl rfl rfl rfl (.inr ⟨_,_,rfl,by omega,by omega,by omega⟩) (.inl ⟨rfl,rfl⟩)) rfl rfl ?_
 rw [sub_zero,Nat.sub_zero,Nat.sub_zero]
 repeat (first|refine Yd0 ?_|(refine X_id ?_;first|(refine Zaa 202 rfl rfl rfl rfl rfl hsm ?_;rintro _ _ ⟨rfl,rfl⟩)|refine Yev ?_|refine Zni rfl rfl rfl (by omega) (by omega) rfl rfl hS (fun _ _ hS => ?_))|refine Yd1 ?_|refine Yab ?_)
 refine Zaa _ rfl rfl rfl rfl rfl (Zsg _ _ _ _ _ _ b (List.replicate 64 0) _ (hbo.rd hS) ((hS.rd (List.mem_cons_self ..)).ptsB) h64 (by simp)) ?_
 rintro _ _ ⟨rfl,rfl⟩
 by_cases hz : b = List.replicate 64 0
 ·repeat (first|refine Yd0 ?_|refine Yag ?_|refine Yae ?_|refine Yad ?_|refine Yah ?_|refine Zxf rfl (by first|assumption|omega) ?_|refine Yab ?_|refine Yaq ?_|refine Ybv ?_)
  exact ⟨by rw [Za3,if_pos hz],hS.drops⟩
 ·have e2 : Za3 rd fs b = (n,Zh4 rd fs b) := by rw [Za3,if_neg hz,hn]
  by_cases h0 : 0 ≤ n
  ·by_cases h1 : n ≤ 1152921504606846976
   ·repeat (first|refine Yeg ?_|refine Yaf ?_|refine Ya5 ?_|refine Ydu ?_|refine Yb7 ?_|refine Yae ?_|refine Yad ?_|refine Yak ?_|refine Ydi ?_|refine Yab ?_)
    refine Zaa _ rfl rfl rfl rfl rfl (Zzx n rd fs _ (hG.mono fun r hr => (hr.rd hS).ro)) ?_
    rintro _ w ⟨p,k,rfl,hS'⟩
    replace hS := hS.plus hS'
    clear hS'
    repeat (first|refine Yaw ?_)
    refine Zaa _ rfl rfl rfl rfl rfl (Zsg _ _ _ _ _ _ b (Zef rd fs n) _ (hbo.rd hS) (hS.rd (List.mem_cons_self ..)) h64 (Zhj ..)) ?_
    rintro _ _ ⟨rfl,rfl⟩
    repeat (first|refine Yd0 ?_|refine Yag ?_|refine Ya5 ?_|refine Yah ?_|refine Yeo ?_)
    refine ⟨?_,hS.drops⟩
    rw [e2]
    simp [Zh4,← hn,h0,h1]
   ·repeat (first|refine Yeu ?_|(refine X_id ?_;first|refine Yaf ?_|refine Yag ?_|refine Ya5 ?_|refine Ya4 ?_|refine X_yl (Znb rfl rfl rfl (by omega)) rfl rfl ?_|refine Yb7 ?_)|refine Yae ?_|refine Yad ?_|refine Yah ?_|refine Yak ?_|refine Ydi ?_|refine Yeo ?_)
    refine ⟨?_,hS.drops⟩
    rw [e2]
    simp [Zh4,← hn,h1]
  ·repeat (first|refine Yej ?_|refine Yaf ?_|refine Yag ?_|refine Ya4 ?_|refine Yb9 ?_|refine Yae ?_|refine Yad ?_|refine Yah ?_|refine Yak ?_|refine Ydi ?_|refine Yeo ?_)
   refine ⟨?_,hS.drops⟩
   rw [e2]
   simp [Zh4,← hn,h0]
end Cr
namespace Cr
open Go Go.Proofs
set_option maxRecDepth 100000
set_option maxHeartbeats 4000000
attribute [local irreducible] Calls

structure Wr where
 no : Int
 x : Bs
def Wr.cells (v : Wr) : List Value := [.int .i64 v.no,.slice v.x.a v.x.s.length v.x.c]
def Wr.data (v : Wr) : Int × List UInt8 := (v.no,v.x.s)
structure Wrs (W : World) (F : Nat → Prop) (a : Option Addr) (l : List Wr) : Prop where
 row : Ro W F (row a (l.flatMap Wr.cells))
 all : ∀ v ∈ l,Ro W F (bytes v.x.a v.x.s)
theorem Wrs.mono {W w : World} {F F' : Nat → Prop} {a : Option Addr} {l : List Wr} (h : Wrs W F a l) (hw : ∀ r,Ro W F r → Ro w F' r) : Wrs w F' a l := ⟨hw _ h.row,fun x hx => hw _ (h.all x hx)⟩
theorem Znq {l : List Wr} {i : Nat} {v : Wr} (h : l[i]? = some v) : ((l.flatMap Wr.cells).drop (i * 2)).take 2 = v.cells := Zbz (f := Wr.cells) (fun _ _ => rfl) h
theorem Z2j (l : List Wr) : (l.flatMap Wr.cells).length = l.length * 2 := Zet (fun _ _ => rfl)
def Zfo (number : Int) (l : List (Int × List UInt8)) : List (List UInt8) := [bigB number 8,bigB (l.length : Nat) 4] ++ l.flatMap fun v => [bigB v.1 4,v.2]
def sumB (rd fs : List Int) (number : Int) (l : List (Int × List UInt8)) : List UInt8 := digest rd fs (Zfo number l)
theorem Zjn (rd fs : List Int) (number : Int) (l : List (Int × List UInt8)) : (sumB rd fs number l).length = 32 := Zbc _ _ _
attribute [irreducible] sumB
theorem St.rdsPut {W : World} {F : Nat → Prop} {rs : List Res} {w : World} {b : Nat} {T : TypeId} {s : List UInt8} {l : List Bs} (k : Nat) (hS : St W F (pts b (.cells (bv s).toArray T) :: rds l :: rs) w) : St W F (rds (l ++ [⟨some ⟨b,0,none⟩,k,s⟩]) :: rs) w :=
 St.rdsCons (x := ⟨some ⟨b,0,none⟩,k,s⟩) (hS.head fun h hh => Zmi h hh)
theorem Z2g (number : Int) (a : Option Addr) (c : Nat) (l : List Wr) (rd fs : List Int) (W : World) (hG : Gl W noF rd fs) (hW : Wrs W noF a l) (hl : l.length ≤ 1048576) (hn : (Zbp (Zfo number (l.map Wr.data))).length < 1152921504606846976) :
  Calls Tryz.prog 139 #[.int .i64 number,.slice a l.length c] W (Ret fun v w => v = .agg (bv (sumB rd fs number (l.map Wr.data))).toArray ∧ St W noF [] w) := by
 have hS := St.start W
 refine Zab Tryz.func139 rfl Tryz.ntmps139 rfl ?_
 repeat (first|refine Yd0 ?_|refine Yaf ?_|refine Yar (fun _ _ hS _ => ?_)|refine Yd1 ?_|refine Yab ?_)
 rename_i b4 _ _
 refine Zaa _ rfl rfl rfl rfl rfl (big_ number 8 _ (by omega)) ?_
 rintro _ w ⟨p1,rfl,hS'⟩
 replace hS := hS.plus hS'
 clear hS'
 repeat (first|refine Yaa ?_|refine Yaf ?_|refine Yav ?_)
 refine Zaa _ rfl rfl rfl rfl rfl (big_ (l.length : Nat) 4 _ (by omega)) ?_
 rintro _ w ⟨p2,rfl,hS'⟩
 replace hS := hS.plus hS'
 clear hS'
 repeat (first|refine Yd0 ?_|refine Yev ?_|refine Ybf (fun _ _ hS _ => ?_)|refine Yd3 ?_|refine Yab ?_)
 rename_i b5 w5 _
 refine Zak (α := Nat × Option Addr × Nat × List Bs × List Bs) (fun z => [(4,.pointer (some ⟨b4,0,none⟩)),(5,.slice z.2.1 z.2.2.2.1.length z.2.2.1),(14,.slice a l.length c),(15,.int .i64 (l.length : Nat)),(16,.int .i64 (z.1 : Nat))])
  (fun z w => z.1 ≤ l.length ∧ Zdd z.2.2.2.1 = [bigB number 8,bigB (l.length : Nat) 4] ++ (l.take z.1).flatMap (fun v => [bigB v.no 4,v.x.s]) ∧ z.2.2.2.1.length = 2 + 2 * z.1 ∧ z.2.2.2.1.length ≤ z.2.2.1 ∧ (∀ x ∈ z.2.2.2.1,x ∈ z.2.2.2.2 ∨ ∃ v ∈ l,x = v.x) ∧
   St W noF [own 35 1 z.2.1 z.2.2.1 (z.2.2.2.1.map Bs.val),rds z.2.2.2.2,pts b4 (.cells (List.replicate 32 (.int .u8 0)).toArray 79)] w) (fun z => l.length - z.1)
  (0,some ⟨b5,0,none⟩,2,[⟨some ⟨p1,0,none⟩,8,bigB number 8⟩,⟨some ⟨p2,0,none⟩,4,bigB (l.length : Nat) 4⟩],[⟨some ⟨p2,0,none⟩,4,bigB (l.length : Nat) 4⟩,⟨some ⟨p1,0,none⟩,8,bigB number 8⟩])
  ⟨rfl,rfl,rfl,rfl,rfl,trivial⟩ ⟨Nat.zero_le _,rfl,rfl,Nat.le_refl _,by simp,?_⟩ ?_
 ·replace hS := hS.rdsNil
  have hS := hS.pick [2,0,1,0,0]
  replace hS := hS.rdsPut 4
  have hS := hS.pick [1,0,0,0]
  replace hS := hS.rdsPut 8
  have hS := hS.pick [1,0,0]
  simpa [Bs.val,Zag] using hS
 clear hS
 rintro ⟨i,a5,c5,L,O⟩ w ⟨hi,hT,hL,hLc,hO,hS⟩
 simp only at hi hT hL hLc hO hS ⊢
 by_cases hlt : i < l.length
 ·have hx0 : l[i]? = some l[i] := List.getElem?_eq_getElem hlt
  generalize l[i] = v at hx0
  have hr := hW.row
  have hxs : ((l.flatMap Wr.cells).drop (i * 2)).take 2 = [.int .i64 v.no,.slice v.x.a v.x.s.length v.x.c] := Znq hx0
  obtain ⟨ab,ao,rfl⟩ := (hW.row.rd hS).base (by intro e; rw [e] at hxs; simp at hxs)
  repeat (first|refine Yd0 ?_|(refine X_id ?_;first|refine Ya2 ?_|refine Ybc ?_|refine Ybp ?_|refine Yao (fun _ hS _ => ?_)|refine Yar (fun _ _ hS _ => ?_))|refine Yd4 ?_|refine Yab ?_)
  refine Zao (.s 0 (.s 1 (.s 2 (.s 4 (.s 5 (.h 3 (.h 6 (.h 7 (.s 8 .nil) .no) .no) .no)))))) mixed (by kernel_rfl) rfl ?_
  have hS := hS.drew
  repeat (first|(refine Zad ?_;first|refine Ya0 ?_|refine Ybj ?_|refine Ybm ?_|refine Yas ?_))
  refine Zaa _ rfl rfl rfl rfl rfl (big_ v.no 4 _ (by omega)) ?_
  rintro _ w ⟨p,rfl,hS'⟩
  replace hS := hS.plus hS'
  clear hS'
  repeat (first|refine Ybf (fun _ _ hS _ => ?_)|(refine Zad ?_;first|refine Yas ?_)|(refine Zac ?_;first|refine Yaz ?_))
  refine Zap rfl rfl rfl rfl rfl hS (by simp) hLc (hS.rd (List.mem_cons_self ..)).own_row rfl (fun u hu => by
   simp only [List.mem_cons,List.not_mem_nil,or_false] at hu
   rcases hu with rfl | rfl <;> rfl) (by omega) (by simp only [maxLen]; omega) (fun a' c' w hS hc' hnil => ?_)
  repeat (first|refine Yd0 ?_|refine Yd5 ?_|refine Yad ?_|refine Yd8 ?_|(refine Zad ?_;first|refine Yay ?_|refine Ybn ?_)|(refine Zac ?_;first|refine Yaz ?_))
  refine Zaf (z := (i,a5,c5,L,O)) (i + 1,a',c',L ++ [(⟨some ⟨p,0,none⟩,4,bigB v.no 4⟩ : Bs),v.x],O ++ [(⟨some ⟨p,0,none⟩,4,bigB v.no 4⟩ : Bs)]) ⟨rfl,?_,rfl,rfl,rfl,trivial⟩ ⟨by simp only; omega,?_,by simp; omega,by simp; omega,?_,?_⟩ (by simp only; omega)
  ·show some _ = some _
   simp
  ·have hi : i < l.length := hlt
   rw [List.take_succ_eq_append_getElem hi]
   have hv : l[i] = v := by
    have := List.getElem?_eq_getElem hi
    rw [hx0] at this
    exact (Option.some.inj this).symm
   rw [hv]
   simp only [Zdd,List.map_append,List.flatMap_append,List.flatMap_cons,List.flatMap_nil,List.map_cons,List.map_nil] at hT ⊢
   rw [hT]
   simp
  ·intro x hx
   simp only [List.mem_append,List.mem_cons,List.not_mem_nil,or_false] at hx ⊢
   rcases hx with hx | rfl | rfl
   ·rcases hO x hx with h | h
    ·exact .inl (.inl h)
    ·exact .inr h
   ·exact .inl (.inr rfl)
   ·exact .inr ⟨v,List.mem_of_getElem? hx0,rfl⟩
  ·skip
   have hS := hS.pick [2,3,0,2]
   replace hS := hS.rdsPut 4
   have hS := hS.pick [1,0,0]
   simpa [Bs.val,Zag] using hS
 ·obtain rfl : i = l.length := by omega
  repeat (first|refine Yd0 ?_|refine Yaf ?_|refine Ya3 ?_|refine Yec ?_|refine Yd6 ?_)
  have hB := Bss.ofRd (w := w) (a := a5) (l := L) ((hS.rd (List.mem_cons_self ..)).own_row) (fun x hx => by
   rcases hO x hx with h | ⟨v,hv,rfl⟩
   ·have h1 : Ro w noF (rds O) := (hS.rd (by simp)).ro
    exact (h1.rds x h).start
   ·exact (hW.all v hv).rd hS)
  have hTT : Zdd L = Zfo number (l.map Wr.data) := by
   rw [hT,List.take_length]
   simp [Zfo,Wr.data,List.flatMap_map]
  have hl32 : LenO (bv (digest rd fs (Zdd L))) 32 := ⟨by rw [Zaq]; exact Zbc _ _ _⟩
  refine Zae _ rfl rfl rfl rfl rfl hS (Zqm _ c5 L rd fs _ (by rw [hTT]; exact hn) (by omega) (hG.mono fun r hr => (hr.rd hS).ro) hB) ?_
  rintro _ w rfl hS
  clear hB
  repeat (first|refine Yd0 ?_|refine Yao (fun _ hS _ => ?_)|refine Yah ?_|refine Yab ?_|refine Yb0 ?_)
  refine ⟨?_,hS.drops⟩
  rw [hTT]
  unfold sumB
  rfl
end Cr
namespace Cr
open Go Go.MapKept
set_option maxRecDepth 10000
class Key (d : TypeDesc) {α : Type} [DecidableEq α] (mk : α → Value) : Prop where
 same : ∀ a b,Instr.sameNow d (mk a) (mk b) = some (decide (a = b))
 isKey : ∀ a,IsKey d (mk a)
 bits : ∀ a n,Instr.sameBits n (mk a) (mk a) = true
instance : Key (.int .i64) (Value.int .i64) := ⟨fun a b => by
 have : (a == b) = decide (a = b) := by by_cases h : a = b <;> simp [h]
 simp [Instr.sameNow,this],fun a => by simp [IsKey],fun a n => by cases n <;> simp [Instr.sameBits]⟩
def mapr {α : Type} (mk : α → Value) (r : Nat) (L : List (α × Value)) : Res := fun h => ∃ (es : Array MapEntry) (clock : Nat),es.toList.map (fun e => (e.key,e.val)) = L.map (fun x => (mk x.1,x.2)) ∧ pts r (.map es clock) h
section
variable {α : Type} [DecidableEq α]
def getM (k : α) : List (α × Value) → Option Value
 | [] => none
 | x :: l => if k = x.1 then some x.2 else getM k l
def setM (k : α) (v : Value) : List (α × Value) → List (α × Value)
 | [] => [(k,v)]
 | x :: l => if k = x.1 then (k,v) :: l else x :: setM k v l
theorem Zct {d : TypeDesc} {mk : α → Value} [hk : Key d mk] (k : α) : ∀ (L : List (α × Value)) (es : List MapEntry) (i : Nat),es.map (fun e => (e.key,e.val)) = L.map (fun x => (mk x.1,x.2)) →
  ∃ r,Instr.findNow d (mk k) es i = some r ∧ r.map (·.2) = getM k L ∧ (∀ p,r = some p → i ≤ p.1 ∧ ∃ e,es[p.1 - i]? = some e ∧ e.key = mk k ∧ (es.modify (p.1 - i) fun e => { e with key := mk k,val := p.2 }).map (fun e => (e.key,e.val)) = L.map (fun x => (mk x.1,x.2)))
 | [],[],i,_ => ⟨none,rfl,rfl,fun p h => by cases h⟩
 | [],_ :: _,_,h => by simp at h
 | _ :: _,[],_,h => by simp at h
 | x :: L,e :: es,i,h => by
  simp only [List.map_cons,List.cons.injEq,Prod.mk.injEq] at h
  obtain ⟨⟨h1,h2⟩,h3⟩ := h
  unfold Instr.findNow getM
  rw [h1,hk.same]
  by_cases hkx : k = x.1
  ·subst hkx
   refine ⟨some (i,e.val),by simp,by simp [h2],fun p hp => ?_⟩
   cases hp
   exact ⟨Nat.le_refl _,e,by simp,h1,by simp [h2,h3]⟩
  ·obtain ⟨r,g1,g2,g3⟩ := Zct (d := d) k L es (i + 1) h3
   refine ⟨r,by simp [hkx,g1],by rw [g2,if_neg hkx],fun p hp => ?_⟩
   obtain ⟨h4,e',h5,h6,h7⟩ := g3 p hp
   have e1 : p.1 - i = (p.1 - (i + 1)) + 1 := by omega
   refine ⟨by omega,e',by rw [e1]; simpa using h5,h6,?_⟩
   rw [e1,List.modify_succ_cons,List.map_cons,h7,h1,h2]
   rfl
variable {P : Program} {o : Oper} {σ : Env} {w : World} {x y : Operand} {t kt et : TypeId} {N : Nat} {ds : Md} {K : Env → World → Prop} {mk : α → Value} {dd : TypeDesc}
theorem Zw3 {β : Type} {d : Nat} {W : World} {F : Nat → Prop} {rs : List Res} (mk : β → Value) (ho : o.op = .makeMap t none) (hd : o.dst = some d) (hN : Nat.blt d N = true) (hS : St W F rs w)
  (hk : ∀ r w',St W F (mapr mk r [] :: rs) w' → K ((d,.map (some r)) :: σ) w') : X P o N ds σ w K := ⟨fun f ha K' Q' hK => by
 unfold Oper.wp
 have hexec : (execOp f.eval o).run P w = .ok (.value (.map (some w.heap.size))) (w.alloc (.map #[] 0)) := by
  have : (Instr.makeMap t none).run P w = .ok (.map (some w.heap.size)) (w.alloc (.map #[] 0)) := rfl
  simp [execOp,ho,this]
 rw [hexec]
 have := hK _ _ _ (ha.put (Zam hN) (.map (some w.heap.size))) (hk w.heap.size _ ((hS.alloc (.map #[] 0)).head fun h hh => ⟨#[],0,by simp,hh⟩))
 rw [← hd] at this
 exact this⟩
theorem Zhp {r : Nat} {L : List (α × Value)} {k : α} {z : Value} {n m : Nat} (ho : o.op = .lookup t x y false) (hx : ev σ x = some (.map (some r))) (hy : ev σ y = some (mk k)) [hu : Und P t (.map kt et)] [hkt : Und P kt dd] [hK : Key dd mk] [hi : Inf P et z n m]
  (hr : Rd w (mapr mk r L)) : Yl P o σ w ((getM k L).getD z) := ⟨fun N ds f ha => by
 obtain ⟨h,⟨es,clock,hes,rfl⟩,hag⟩ := hr
 have hb : w.heap[r]? = some (.map es clock) := hag r _ (Zal _ _)
 obtain ⟨q,g1,g2,_⟩ := Zct (hk := hK) k L es.toList 0 hes
 obtain ⟨i,hi',hz',_⟩ := info_parts hi.inf
 have hc := run_checkKey (P := P) (w := w) hkt.und (hK.isKey k) es.isEmpty 9999
 have hf := run_findKey (P := P) (w := w) hkt.und g1
 have hg : (getObj r).run P w = .ok (.map es clock) w := by simp [getObj,Sem.run,hb]
 simp only [execOp,ho,ha.eval hx,ha.eval hy,Instr.lookup,Sem.run_bind,run_underlying hu.und,hg,hc,hf,Result.andThen_ok,Sem.run_pure]
 rw [← g2]
 cases q <;> simp [zeroValue,typeInfo,hi',hz']⟩
theorem Zg3 {k : α} {v : Value} : ∀ {L : List (α × Value)},getM k L = none → setM k v L = L ++ [(k,v)]
 | [],_ => rfl
 | x :: L,h => by
  unfold getM at h
  split at h
  ·cases h
  ·rename_i hne
   simp [setM,hne,Zg3 h]
theorem Zg2 {k : α} {v : Value} : ∀ (L : List (α × Value)) (es : List MapEntry) (i : Nat),es.map (fun e => (e.key,e.val)) = L.map (fun x => (mk x.1,x.2)) → ∀ [Key dd mk] (j : Nat) (u : Value),Instr.findNow dd (mk k) es i = some (some (j,u)) →
  (es.modify (j - i) fun e => { e with key := mk k,val := v }).map (fun e => (e.key,e.val)) = (setM k v L).map (fun x => (mk x.1,x.2)) ∧ i ≤ j ∧ (es[j - i]?).map (·.key) = some (mk k)
 | [],[],i,_,_,j,u,h => by simp [Instr.findNow] at h
 | [],_ :: _,_,h,_,_,_,_ => by simp at h
 | _ :: _,[],_,h,_,_,_,_ => by simp at h
 | x :: L,e :: es,i,h,hK,j,u,hf => by
  simp only [List.map_cons,List.cons.injEq,Prod.mk.injEq] at h
  obtain ⟨⟨h1,h2⟩,h3⟩ := h
  unfold Instr.findNow at hf
  rw [h1,hK.same] at hf
  unfold setM
  by_cases hkx : k = x.1
  ·subst hkx
   simp at hf
   obtain ⟨rfl,_⟩ := hf
   simp [h3,h1]
  ·simp [hkx] at hf
   obtain ⟨g1,g2,g3⟩ := Zg2 (v := v) L es (i + 1) h3 j u hf
   have e1 : j - i = (j - (i + 1)) + 1 := by omega
   refine ⟨?_,by omega,by rw [e1]; simpa using g3⟩
   rw [e1,List.modify_succ_cons,List.map_cons,g1,if_neg hkx,h1,h2]
   rfl
theorem Zkm {r : Nat} {L : List (α × Value)} {k : α} {v : Value} {W : World} {F : Nat → Prop} {rs : List Res} {z : Operand} (ho : o.op = .mapUpdate t x y z) (hx : ev σ x = some (.map (some r))) (hy : ev σ y = some (mk k)) (hz : ev σ z = some v) [hu : Und P t (.map kt et)] [hkt : Und P kt dd] [hK : Key dd mk]
  (hd : o.dst = none) (hS : St W F (mapr mk r L :: rs) w) (hk : ∀ w',St W F (mapr mk r (setM k v L) :: rs) w' → K σ w') : X P o N ds σ w K := ⟨fun f ha K' Q' hKK => by
 obtain ⟨h,⟨h1,h2,⟨es,clock,hes,hp⟩,hs,hdj,hun⟩,s⟩ := hS
 have hS2 : St W F (pts r (.map es clock) :: rs) w := ⟨h,⟨h1,h2,hp,hs,hdj,hun⟩,s⟩
 have hb : w.heap[r]? = some (.map es clock) := hS2.get
 obtain ⟨q,g1,g2,_⟩ := Zct (hk := hK) k L es.toList 0 hes
 have hc := run_checkKey (P := P) (w := w) hkt.und (hK.isKey k) false 9999
 have hf := run_findKey (P := P) (w := w) hkt.und g1
 have hg : (getObj r).run P w = .ok (.map es clock) w := by simp [getObj,Sem.run,hb]
 have hset : ∀ o',(setObj r o').run P w = .ok () { w with heap := w.heap.setIfInBounds r o' } := fun o' => run_setObj_map o' hb
 unfold Oper.wp
 have key : ∃ es' clock',(execOp f.eval o).run P w = .ok .skip { w with heap := w.heap.setIfInBounds r (.map es' clock') } ∧ es'.toList.map (fun e => (e.key,e.val)) = (setM k v L).map (fun x => (mk x.1,x.2)) := by
  cases hq : q with
  | none =>
   subst hq
   refine ⟨es.push { key := mk k,val := v,born := clock },clock + 1,?_,?_⟩
   ·simp only [execOp,ho,ha.eval hx,ha.eval hy,ha.eval hz,Instr.mapUpdate,Sem.run_bind,run_underlying hu.und,hg,hc,hf,hset,Result.andThen_ok,Sem.run_pure]
   ·rw [Zg3 (by rw [← g2]; rfl)]
    simp [hes]
  | some p =>
   obtain ⟨j,u⟩ := p
   subst hq
   obtain ⟨g4,g5,g6⟩ := Zg2 (v := v) L es.toList 0 hes j u g1
   simp only [Nat.sub_zero] at g4 g6
   have hek : ((es[j]?).map (·.key)).getD (mk k) = mk k := by
    rw [← Array.getElem?_toList,g6]; rfl
   refine ⟨es.modify j fun e => { e with key := mk k,val := v },clock,?_,?_⟩
   ·simp only [execOp,ho,ha.eval hx,ha.eval hy,ha.eval hz,Instr.mapUpdate,Sem.run_bind,run_underlying hu.und,hg,hc,hf,hset,Result.andThen_ok,Sem.run_pure,hek,Instr.keyThatStays,hK.bits,if_true]
   ·simpa [Array.toList_modify] using g4
 obtain ⟨es',clock',hexec,hes'⟩ := key
 rw [hexec]
 have u := Zaz (o' := .map es' clock') hb
 refine hKK _ _ _ (?_ : Fr σ N ds _) (hk _ ((hS2.set u).head fun h hh => ⟨es',clock',hes',hh⟩))
 rw [hd]; exact ha⟩
end
end Cr
namespace Cr
open Go Go.Proofs
set_option maxRecDepth 100000
set_option maxHeartbeats 4000000
attribute [local irreducible] Calls

def badW (x : Int × List UInt8) : Bool := decide (x.1 < 0) || decide (¬ (x.2.length : Int) = 64)
def Zba (l : List (Int × List UInt8)) : Nat → Bool
 | 0 => false
 | i + 1 => Zba l i || decide ((l.getD i (0,[])).1 ∈ (l.take i).map (·.1))
def Zb3 (l : List (Int × List UInt8)) : Int := if l.any badW then 1 else if Zba l l.length then 8 else 0
def Zjq (l : List (Int × List UInt8)) : Nat → List (Int × Value)
 | 0 => []
 | i + 1 => setM (l.getD i (0,[])).1 (.bool true) (Zjq l i)
theorem Zj5 (k k' : Int) (v : Value) : ∀ L,getM k (setM k' v L) = if k = k' then some v else getM k L
 | [] => by by_cases h : k = k' <;> simp [setM,getM,h]
 | x :: L => by
  unfold setM
  by_cases h : k' = x.1
  ·subst h
   by_cases h2 : k = x.1 <;> simp [getM,h2]
  ·rw [if_neg h]
   unfold getM
   rw [Zj5 k k' v L]
   by_cases h1 : k = x.1
   ·have : ¬ k = k' := fun e => h (by rw [← e,h1])
    simp [h1,Ne.symm h]
   ·simp [h1]
theorem Zos (l : List (Int × List UInt8)) (k : Int) : ∀ i,i ≤ l.length → (getM k (Zjq l i)).getD (.bool false) = .bool (decide (k ∈ (l.take i).map (·.1)))
 | 0,_ => by simp [Zjq,getM]
 | i + 1,h => by
  have ih := Zos l k i (by omega)
  simp only [Zjq]
  rw [Zj5,List.take_succ_eq_append_getElem (by omega)]
  have e : l.getD i (0,[]) = l[i] := by simp [List.getD_eq_getElem?_getD,show i < l.length by omega]
  have e2 : (l.take i ++ [l[i]]).map (·.1) = (l.take i).map (·.1) ++ [l[i].1] := by rw [List.map_append]; rfl
  rw [e,e2]
  simp only [List.mem_append,List.mem_singleton]
  by_cases hk : k = l[i].1
  ·rw [if_pos hk,decide_eq_true (Or.inr hk)]; rfl
  ·rw [if_neg hk,ih]
   congr 1
   exact decide_eq_decide.2 ⟨Or.inl,fun h => h.resolve_right hk⟩
theorem Zke (a : Option Addr) (c : Nat) (l : List Wr) (W : World) (hW : Wrs W noF a l) (hl : l.length ≤ 1048576) (hx64 : ∀ v ∈ l,v.x.s.length ≤ 140737488355328) :
  Calls Tryz.prog 136 #[.slice a l.length c] W (Ret fun v w => v = .int .i64 (Zb3 (l.map Wr.data)) ∧ St W noF [] w) := by
 have hS := St.start W
 obtain ⟨d,hd⟩ : ∃ d,d = l.map Wr.data := ⟨_,rfl⟩
 rw [← hd]
 have hdl : d.length = l.length := by rw [hd]; simp
 refine Zab Tryz.func136 rfl Tryz.ntmps136 rfl ?_
 repeat (first|refine Yd0 ?_|refine Yag ?_|refine Yd1 ?_|refine Yab ?_)
 refine Zw3 (Value.int .i64) rfl rfl rfl hS (fun r w hS => ?_)
 repeat (first|refine Yd0 ?_|refine Yev ?_|refine Yd3 ?_|refine Yab ?_)
 refine Zak (α := Nat) (fun i => [(3,.map (some r)),(4,.bool (Zba d i)),(8,.slice a l.length c),(9,.int .i64 (l.length : Nat)),(10,.int .i64 (i : Nat))])
  (fun i w => i ≤ l.length ∧ (∀ x ∈ d.take i,badW x = false) ∧ St W noF [mapr (Value.int .i64) r (Zjq d i)] w) (fun i => l.length - i) 0 ⟨rfl,rfl,rfl,rfl,rfl,trivial⟩ ⟨Nat.zero_le _,by simp,hS⟩ ?_
 clear hS
 rintro i w ⟨hi,hbad,hS⟩
 by_cases hlt : i < l.length
 ·have hx0 : l[i]? = some l[i] := List.getElem?_eq_getElem hlt
  generalize l[i] = v at hx0
  have hv64 := hx64 v (List.mem_of_getElem? hx0)
  have hdi : d[i]? = some v.data := by rw [hd]; simp [hx0]
  have hdg : d.getD i (0,[]) = (v.no,v.x.s) := by rw [List.getD_eq_getElem?_getD,hdi]; rfl
  have hr := hW.row
  have hxs : ((l.flatMap Wr.cells).drop (i * 2)).take 2 = [.int .i64 v.no,.slice v.x.a v.x.s.length v.x.c] := Znq hx0
  obtain ⟨ab,ao,rfl⟩ := (hW.row.rd hS).base (by intro e; rw [e] at hxs; simp at hxs)
  have hbadr : badW v.data = true → Zb3 d = 1 := fun h => by
   unfold Zb3
   rw [if_pos (List.any_eq_true.2 ⟨_,List.mem_of_getElem? hdi,h⟩)]
  by_cases hn : v.no < 0
  ·repeat (first|refine Yej ?_|(refine X_id ?_;first|refine Yaf ?_|refine Yag ?_|refine Yan ?_|refine Ya5 ?_|refine Ya2 ?_|refine Ybc ?_|refine Yap ?_|refine Ybp ?_|refine Yao (fun _ hS _ => ?_)|refine Yar (fun _ _ hS _ => ?_))|refine Yae ?_|refine Yad ?_|refine Yal ?_|refine Yah ?_|refine Yak ?_|refine Yaj ?_|refine Yel ?_)
   exact ⟨by rw [hbadr (by simp [badW,Wr.data,hn])],hS.drops⟩
  ·by_cases h64 : (v.x.s.length : Int) = 64
   ·have hgood : badW v.data = false := by unfold badW Wr.data; rw [decide_eq_false hn]; simp [h64]
    obtain ⟨b,hb⟩ : ∃ b,b = Zba d i := ⟨_,rfl⟩
    rw [← hb]
    have ht : Zba d (i + 1) = (b || decide (v.no ∈ (d.take i).map (·.1))) := by rw [Zba,hdg,← hb]
    have hb1 : ∀ x ∈ d.take (i + 1),badW x = false := fun x hx => by
     have hid : i < d.length := by omega
     rw [List.take_succ_eq_append_getElem hid] at hx
     have hvd : d[i] = v.data := by
      have := List.getElem?_eq_getElem hid
      rw [hdi] at this
      exact (Option.some.inj this).symm
     rw [hvd] at hx
     rcases List.mem_append.1 hx with h | h
     ·exact hbad x h
     ·rw [List.mem_singleton.1 h]; exact hgood
    cases b
    ·repeat (first|refine Yeg ?_|(refine X_id ?_;first|refine Yaf ?_|refine Yan ?_|refine Ya4 ?_|refine Yav ?_|refine Ybd ?_|refine Ya2 ?_|refine Ya3 ?_|refine Ybc ?_|refine Yap ?_|refine Ybp ?_|refine Yao (fun _ hS _ => ?_)|refine Yar (fun _ _ hS _ => ?_))|refine Yd7 ?_|refine Yab ?_)
     refine X_yl (Zhp (mk := Value.int .i64) (k := v.no) rfl rfl rfl (hS.rd (List.mem_cons_of_mem _ (List.mem_cons_self ..)))) rfl rfl ?_
     rw [Zos d v.no i (by omega)]
     repeat (first|refine Yd0 ?_|(refine X_id ?_;first|refine Yaf ?_|refine Yag ?_|refine Yan ?_|refine Ya4 ?_|refine Yap ?_)|refine Yad ?_|refine Yab ?_)
     replace hS := hS.pick [1]
     refine Zkm (mk := Value.int .i64) (k := v.no) rfl rfl rfl rfl rfl hS (fun w hS => ?_)
     repeat (first|refine Yd0 ?_|refine Yd5 ?_|refine Yad ?_|refine Yd8 ?_)
     refine Zaf (i + 1) ⟨rfl,by rw [ht]; rfl,rfl,rfl,rfl,trivial⟩ ⟨by omega,hb1,?_⟩ (by omega)
     simp only [Zjq,hdg]
     exact hS
    ·repeat (first|refine Yeu ?_|(refine X_id ?_;first|refine Yaf ?_|refine Yag ?_|refine Yan ?_|refine Ya5 ?_|refine Ya4 ?_|refine Yav ?_|refine Ybd ?_|refine Ya2 ?_|refine Ya3 ?_|refine Ybc ?_|refine Yap ?_|refine Ybp ?_|refine Yao (fun _ hS _ => ?_)|refine Yar (fun _ _ hS _ => ?_))|refine Yd7 ?_|refine Yab ?_)
     replace hS := hS.pick [1]
     refine Zkm (mk := Value.int .i64) (k := v.no) rfl rfl rfl rfl rfl hS (fun w hS => ?_)
     repeat (first|refine Yd0 ?_|refine Yd5 ?_|refine Yad ?_|refine Yd8 ?_)
     refine Zaf (i + 1) ⟨rfl,by rw [ht]; rfl,rfl,rfl,rfl,trivial⟩ ⟨by omega,hb1,?_⟩ (by omega)
     simp only [Zjq,hdg]
     exact hS
   ·repeat (first|refine Yeg ?_|(refine X_id ?_;first|refine Yaf ?_|refine Yag ?_|refine Yan ?_|refine Ya4 ?_|refine Yav ?_|refine Ybl ?_|refine Ya2 ?_|refine Ya3 ?_|refine Ybc ?_|refine Yap ?_|refine Ybp ?_|refine Yao (fun _ hS _ => ?_)|refine Yar (fun _ _ hS _ => ?_))|refine Yae ?_|refine Yad ?_|refine Yal ?_|refine Yah ?_|refine Yak ?_|refine Yaj ?_|refine Yel ?_)
    exact ⟨by rw [hbadr (by simp [badW,Wr.data,h64])],hS.drops⟩
 ·obtain rfl : i = l.length := by omega
  have hany : d.any badW = false := by
   rw [← hdl,List.take_length] at hbad
   simpa using hbad
  cases ht : Zba d l.length
  ·rw [show Zb3 d = 0 by unfold Zb3; rw [if_neg (by simp [hany]),hdl,ht]; rfl]
   repeat (first|refine Yd0 ?_|refine Yey ?_|refine Yae ?_|refine Yad ?_|refine Yah ?_|refine Yak ?_|refine Ya8 ?_|refine Yai ?_|refine Yez ?_)
   exact ⟨rfl,hS.drops⟩
  ·rw [show Zb3 d = 8 by unfold Zb3; rw [if_neg (by simp [hany]),hdl,ht]; rfl]
   repeat (first|refine Yd0 ?_|refine Yey ?_|refine Yae ?_|refine Yad ?_|refine Yah ?_|refine Ya8 ?_|refine Yaj ?_|refine Yai ?_|refine Yab ?_|refine Yaq ?_|refine Ya9 ?_|refine Yba ?_|refine Yam ?_)
   exact ⟨rfl,hS.drops⟩
end Cr
namespace Cr
open Go Go.Proofs
set_option maxRecDepth 100000
set_option maxHeartbeats 4000000
attribute [local irreducible] Calls

abbrev Zyd (p : Nat) (o s m : Int) (j : Nat) (done : Int) (rd : Bool) : List Value := [.pointer (some ⟨p,0,none⟩),.int .u32 o,.int .i32 s,.int .u32 m,.int .i64 (j : Nat),.int .i64 done,.bool rd]
abbrev Zb9 (lp p : Nat) (o s m : Int) (j : Nat) (done : Int) (rd : Bool) : Res := pts lp (.cells (Zyd p o s m j done rd).toArray 176)
section
variable (lp p : Nat) (o s m : Int) (j : Nat) (done : Int) (rd : Bool) (D : DiskM) (W : World)
theorem Zec (hL : Rd W (Zb9 lp p o s m j done rd)) (hD : Rd W (disk p D)) (hj : j ≤ 4096) :
  Calls Tryz.prog 135 #[.pointer (some ⟨lp,0,none⟩)] W (Ret fun v w => v = .int .i64 ((D.laid.length : Int) - 1 - j) ∧ St W noF [] w) := by
 have hc := hL.pts
 have hS := St.start W
 have hm := hD.disk.1.most
 have hLo := hL.ro
 have hDo := hD.ro
 refine Zab Tryz.func135 rfl Tryz.ntmps135 rfl ?_
 repeat (first|refine Yd0 ?_|refine Yaf ?_|refine Yag ?_|refine Ybr ?_|refine Yeb ?_|refine Yab ?_)
 refine Zao (.s 0 (.s 1 (.s 2 (.s 3 (.s 6 (.s 7 (.s 8 (.s 9 (.h 4 (.s 5 (.s 10 (.s 11 .nil))) .no))))))))) mixed (by kernel_rfl) rfl ?_
 have hS := hS.drew
 have hc := (hLo.rd hS).pts
 repeat (first|(refine X_id ?_;first|(refine Zaa 77 rfl rfl rfl rfl rfl (Zme p D _ (hDo.rd hS)) ?_;rintro _ _ ⟨rfl,rfl⟩))|refine Yah ?_|refine Yd2 ?_|(refine Zad ?_;first|refine Yay ?_|refine Ya0 ?_|refine Ybn ?_|refine Ybq ?_|refine Ybj ?_|refine Ycg ?_|refine Yc5 ?_|refine Yas ?_)|(refine Zac ?_;first|refine Yaz ?_))
 exact ⟨rfl,hS⟩
theorem Zq8 (hL : Rd W (Zb9 lp p o s m j done rd)) (hj : j ≤ 4096) :
  Calls Tryz.prog 138 #[.pointer (some ⟨lp,0,none⟩)] W (Ret fun v w => v = .int .i64 ((j : Int) / 2) ∧ W = w) := by
 have hc := hL.pts
 have hS := St.start W
 refine Zab Tryz.func138 rfl Tryz.ntmps138 rfl ?_
 repeat (first|refine Yd0 ?_|(refine X_id ?_;first|refine Yaf ?_|refine Yag ?_|refine Yau ?_|refine Yan ?_|refine Yc9 ?_|refine Ybr ?_|refine Yb4 ?_)|refine Yep ?_|refine Yd2 ?_)
 exact ⟨rfl,rfl⟩
def hasM (n : Int) (l : List (Int × List UInt8)) : Bool := l.all fun x => decide (x.1 < n)
theorem Zuf (a : Option Addr) (c : Nat) (l : List Wr) (hL : Rd W (Zb9 lp p o s m j done rd)) (hD : Rd W (disk p D)) (hj : j ≤ 4096) (hW : Wrs W noF a l) (hl : l.length ≤ 1048576) :
  Calls Tryz.prog 137 #[.pointer (some ⟨lp,0,none⟩),.slice a l.length c] W (Ret fun v w => v = .bool (hasM ((D.laid.length : Int) - 1 - j) (l.map Wr.data)) ∧ St W noF [] w) := by
 have hS := St.start W
 have hLo := hL.ro
 have hDo := hD.ro
 obtain ⟨n,hn⟩ : ∃ n,n = (D.laid.length : Int) - 1 - j := ⟨_,rfl⟩
 rw [← hn]
 refine Zab Tryz.func137 rfl Tryz.ntmps137 rfl ?_
 repeat (first|refine Yd0 ?_|refine Yev ?_|refine Yd3 ?_|refine Yab ?_)
 refine Zak (α := Nat) (fun i => [(0,.pointer (some ⟨lp,0,none⟩)),(7,.slice a l.length c),(8,.int .i64 (l.length : Nat)),(9,.int .i64 (i : Nat))])
  (fun i w => i ≤ l.length ∧ (∀ v ∈ l.take i,v.no < n) ∧ St W noF [] w) (fun i => l.length - i) 0 ⟨rfl,rfl,rfl,rfl,trivial⟩ ⟨Nat.zero_le _,by simp,hS⟩ ?_
 clear hS
 rintro i w ⟨hi,hok,hS⟩
 by_cases hlt : i < l.length
 ·have hx0 : l[i]? = some l[i] := List.getElem?_eq_getElem hlt
  have htk := List.take_succ_eq_append_getElem hlt
  generalize l[i] = v at hx0 htk
  have hr := hW.row
  have hxs : ((l.flatMap Wr.cells).drop (i * 2)).take 2 = [.int .i64 v.no,.slice v.x.a v.x.s.length v.x.c] := Znq hx0
  obtain ⟨ab,ao,rfl⟩ := (hW.row.rd hS).base (by intro e; rw [e] at hxs; simp at hxs)
  by_cases hno : v.no < n
  ·repeat (first|refine Yd0 ?_|(refine X_id ?_;first|refine Ya2 ?_|refine Ybc ?_|refine Ybp ?_|refine Yao (fun _ hS _ => ?_)|refine Yar (fun _ _ hS _ => ?_))|refine Yd4 ?_|refine Yab ?_)
   refine Zao (.s 0 (.s 1 (.s 2 (.h 3 (.s 4 .nil) .no)))) mixed (by kernel_rfl) rfl ?_
   have hS := hS.drew
   repeat (first|refine Yd0 ?_|(refine X_id ?_;first|(refine Zae 135 rfl rfl rfl rfl rfl hS (Zec lp p o s m j done rd D _ (hLo.rd hS) (hDo.rd hS) hj) ?_;rintro _ _ rfl hS)|refine Yd5 ?_)|refine Yer ?_|refine Yd8 ?_|(refine Zad ?_;first|refine Yay ?_|refine Ya0 ?_|refine Ybj ?_|refine Zaj rfl rfl (fun _ => Znd rfl rfl rfl (by omega)) rfl rfl ?_|refine Ybm ?_|refine Yas ?_)|(refine Zac ?_;first|refine Yaz ?_))
   refine Zaf (i + 1) ⟨rfl,rfl,rfl,rfl,trivial⟩ ⟨by omega,?_,hS.drops⟩ (by omega)
   rw [htk]
   intro x hx
   rcases List.mem_append.1 hx with h | h
   ·exact hok x h
   ·rw [List.mem_singleton.1 h]; exact hno
  ·repeat (first|refine Yd0 ?_|(refine X_id ?_;first|refine Ya2 ?_|refine Ybc ?_|refine Ybp ?_|refine Yao (fun _ hS _ => ?_)|refine Yar (fun _ _ hS _ => ?_))|refine Yd4 ?_|refine Yab ?_)
   refine Zao (.s 0 (.s 1 (.s 2 (.h 3 (.s 4 .nil) .no)))) mixed (by kernel_rfl) rfl ?_
   have hS := hS.drew
   repeat (first|refine Yd0 ?_|(refine X_id ?_;first|(refine Zae 135 rfl rfl rfl rfl rfl hS (Zec lp p o s m j done rd D _ (hLo.rd hS) (hDo.rd hS) hj) ?_;rintro _ _ rfl hS)|refine Yag ?_)|refine Yeh ?_|refine Yel ?_|(refine Zad ?_;first|refine Yay ?_|refine Ya0 ?_|refine Ybj ?_|refine Zaj rfl rfl (fun _ => Zjb rfl rfl rfl (by omega)) rfl rfl ?_|refine Ybm ?_|refine Yas ?_)|(refine Zac ?_;first|refine Yaz ?_))
   refine ⟨?_,hS.drops⟩
   have : hasM n (l.map Wr.data) = false := by
    unfold hasM
    rw [List.all_eq_false]
    exact ⟨v.data,List.mem_map.2 ⟨v,List.mem_of_getElem? hx0,rfl⟩,by simp [Wr.data,hno]⟩
   rw [this]
 ·obtain rfl : i = l.length := by omega
  repeat (first|refine Yd0 ?_|refine Yag ?_|refine Ya3 ?_|refine Yd9 ?_|refine Yez ?_)
  refine ⟨?_,hS⟩
  have : hasM n (l.map Wr.data) = true := by
   unfold hasM
   rw [List.all_eq_true]
   intro x hx
   obtain ⟨v,hv,rfl⟩ := List.mem_map.1 hx
   rw [List.take_length] at hok
   exact decide_eq_true (hok v hv)
  rw [this]
end

/-! ### steps -/
def Zde (x : Int × DiskM) (no : Int) (b : List UInt8) : Int × DiskM := if x.1 = 0 then x.2.write no b else x
def Zc5 (x : Int × DiskM) : Int × DiskM := if x.1 = 0 then x.2.flush else x
abbrev Zig (sp p : Nat) (e : Int) : Res := pts sp (.cells #[.pointer (some ⟨p,0,none⟩),.int .i64 e] 272)
theorem Zjm (sp p : Nat) (x : Int × DiskM) (no : Int) (a : Option Addr) (n c : Nat) (b : List UInt8) (W : World) (F : Nat → Prop) (hS : St W F [Zig sp p x.1,disk p x.2] W) (hb : Ro W F (bytes a b)) (hn : b.length = n) (hline : x.2.line.length < 1073741824) :
  Calls Tryz.prog 140 #[.pointer (some ⟨sp,0,none⟩),.int .i64 no,.slice a n c] W (Ret fun _ w => True ∧ St W F [Zig sp p (Zde x no b).1,disk p (Zde x no b).2] w) := by
 obtain ⟨e,D⟩ := x
 simp only at hS hline ⊢
 by_cases he : e = 0
 ·subst he
  refine Zab Tryz.func140 rfl Tryz.ntmps140 rfl ?_
  repeat (first|refine Yd0 ?_|(refine X_id ?_;first|refine Yaf ?_|refine Yau ?_|refine Yan ?_|refine Ybi ?_|refine Yap ?_)|refine Yea ?_|refine Yab ?_)
  obtain ⟨_,hc,hr,hw,hbk⟩ := hS.call [false,true]
  refine Zaa _ rfl rfl rfl rfl rfl (Z2h p D no a n c b _ _ hc (hw _ hb) hn hline) ?_
  rintro _ w ⟨rfl,hS⟩
  replace hS := hbk hS
  clear hc hr hw hbk
  repeat (first|refine Yd0 ?_|refine Yau ?_|refine Yan ?_|refine Yao (fun _ hS _ => ?_)|refine Ybs ?_)
  refine ⟨trivial,?_⟩
  simp only [Zde,if_true]
  have hS := hS.pick [1,0]
  exact hS
 ·refine Zab Tryz.func140 rfl Tryz.ntmps140 rfl ?_
  repeat (first|refine Yd0 ?_|(refine X_id ?_;first|refine Yaf ?_|refine Yau ?_|refine Yan ?_|refine Ybh ?_|refine Yap ?_)|refine Yeb ?_|refine Yab ?_|refine Ybs ?_)
  refine ⟨trivial,?_⟩
  simp only [Zde,if_neg he]
  exact hS
theorem Zmc (sp p : Nat) (x : Int × DiskM) (W : World) (F : Nat → Prop) (hS : St W F [Zig sp p x.1,disk p x.2] W) (hline : x.2.line.length < 1073741824) :
  Calls Tryz.prog 142 #[.pointer (some ⟨sp,0,none⟩)] W (Ret fun _ w => True ∧ St W F [Zig sp p (Zc5 x).1,disk p (Zc5 x).2] w) := by
 obtain ⟨e,D⟩ := x
 simp only at hS hline ⊢
 by_cases he : e = 0
 ·subst he
  refine Zab Tryz.func142 rfl Tryz.ntmps142 rfl ?_
  repeat (first|refine Yd0 ?_|(refine X_id ?_;first|refine Yaf ?_|refine Yau ?_|refine Yan ?_|refine Ybi ?_|refine Yap ?_)|refine Yea ?_|refine Yab ?_)
  obtain ⟨_,hc,hr,hw,hbk⟩ := hS.call [false,true]
  refine Zaa _ rfl rfl rfl rfl rfl (Z3w p D _ _ hc hline) ?_
  rintro _ w ⟨rfl,hS⟩
  replace hS := hbk hS
  clear hc hr hw hbk
  repeat (first|refine Yd0 ?_|refine Yau ?_|refine Yan ?_|refine Yao (fun _ hS _ => ?_)|refine Ybs ?_)
  refine ⟨trivial,?_⟩
  simp only [Zc5,if_true]
  have hS := hS.pick [1,0]
  exact hS
 ·refine Zab Tryz.func142 rfl Tryz.ntmps142 rfl ?_
  repeat (first|refine Yd0 ?_|(refine X_id ?_;first|refine Yaf ?_|refine Yau ?_|refine Yan ?_|refine Ybh ?_|refine Yap ?_)|refine Yeb ?_|refine Yab ?_|refine Ybs ?_)
  refine ⟨trivial,?_⟩
  simp only [Zc5,if_neg he]
  exact hS
end Cr
