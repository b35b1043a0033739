/-
  Layer 8 (tree): a directory's bytes written and read.
  Names: what package path and the document call one; path.sign.
  path.Name says nameOk.
  Layer 8 (tree): names looked for; paths that are right; a name of a directory.
  Layer 8 (tree) in plain words,2: trees; the nodes they have by number; paths gone. No program is in sight.
  Layer 8 (tree): a place's names; a name of a directory; the root.
  Layer 8 (tree): a path gone.
  Layer 8 (tree): slices copied; paths split; Get,List; what is ahead of a path's last name.
  Rows of the run's own whose elements have several cells: copied into,grown by zeros,asked whether they overlap.
  DERIVED: THE SHELF's CONTRACTS AT THIS DUMP,IN PLAIN WORDS (tools/lay-plain.mjs out of 'TryzShelf.lean',which tools/lay-shelf.mjs wrote): THE SAME DECLARATIONS UNDER THE SAME NAMES: 'import','namespace','open','def','theorem' AND NOTHING ELSE: no command of the shelf's: FOR A HAND-IN. Each laying: the table of numbers ('.._ren') and one theorem,a field a fact of the dump's own or the kernel's comparison; each contract: ONE APPLICATION.
  Layer 8 (tree): List; what is ahead of a path's last name.
  Layer 8 (tree): a name's place found in a list that rises.
-/
import Derived.Test.YtfoigjehifalpaaGreatDoorCda9
import Derived.Test.YtfoigjehifalpaaGreatDoorCda10
import Derived.Test.YtfoigjehifalpaaGreatDoorCda3
import Derived.Test.YtfoigjehifalpaaGreatDoorCda5
import Derived.Test.YtfoigjehifalpaaGreatDoorCda6
import Derived.Lib.Bytealg
import Derived.Test.YtfoigjehifalpaaGreatDoorCda8
import Derived.Lib.Overlaps
import Derived.KernelRfl
import Derived.Shelf.Strings.Builder1
import Derived.Shelf.Strings.Builder2
import Derived.Shelf.Small.Strs
import Derived.Shelf.Strings.BuilderF
import Derived.Shelf.Strconv.Atoi
import Derived.Shelf.Strconv.Itoa0
import Derived.Shelf.Strconv.Itoa1
import Derived.Shelf.LaysM
import Derived.Shelf.Strconv.Itoa2
import Derived.Shelf.Strconv.Itoa3
import Derived.Shelf.Strconv.AtoiErrFast
import Derived.Shelf.Strconv.ParseIntEmpty
import Derived.Shelf.Strconv.AtoiFail
import Derived.Shelf.Strconv.Clone
import Derived.Shelf.Strconv.SyntaxError
import Derived.Shelf.LaysC
import Derived.Shelf.Strconv.ToError
import Derived.Shelf.Strconv.Lower
import Derived.Shelf.Strconv.ParseUint10
import Derived.Shelf.Strconv.ParseUint10Empty
import Derived.Shelf.Strconv.ParseUint10Any
import Derived.Shelf.Strconv.ParseInt10
import Derived.Shelf.Strconv.AtoiLong
import Derived.Shelf.Strconv.AtoiInnerAll
import Derived.Shelf.Strconv.RangeError
import Derived.Shelf.Strconv.ToErrorRange
import Derived.Shelf.Strconv.AtoiAll
import Derived.Shelf.Strconv.ErrVarAll
import Derived.Shelf.Sort.Plain
import Derived.Shelf.Strings.Prefix
import Derived.Shelf.Bits.Mul64
import Derived.Shelf.Strings.Repeat
import Derived.Shelf.Slices.In.SortNone
import Derived.Test.YtfoigjehifalpaaGreatDoorProg
namespace Cr
open Go Go.Proofs
set_option maxRecDepth 100000
set_option maxHeartbeats 8000000
attribute [local irreducible] Calls

def nmC (x : Nm) : List Value := [.string (str x.1),.int .i64 x.2]
def nmV (l : List Nm) : List Value := l.flatMap nmC
theorem Zgy : ∀ l : List Nm,(nmV l).length = l.length * 2
 | [] => rfl
 | x :: l => by
  have := Zgy l
  simp only [nmV,List.flatMap_cons,List.length_append,nmC,List.length_cons,List.length_nil] at this ⊢; omega
theorem Zho : ∀ {l : List Nm} {i : Nat} {x : Nm},l[i]? = some x → ((nmV l).drop (i * 2)).take 2 = nmC x
 | [],i,x,h => by simp at h
 | y :: l,0,x,h => by
  obtain rfl : y = x := by simpa using h
  simp [nmV,nmC]
 | y :: l,i + 1,x,h => by
  have := Zho (l := l) (i := i) (x := x) (by simpa using h)
  rw [nmV,List.flatMap_cons,List.drop_append]
  simp only [nmC,List.length_cons,List.length_nil]
  rw [show (i + 1) * 2 - (0 + 1 + 1) = i * 2 by omega,List.drop_of_length_le (by simp; omega),List.nil_append]
  exact this
theorem Zj4 (l m : List Nm) : nmV (l ++ m) = nmV l ++ nmV m := by simp [nmV]
theorem Zjw (a : Option Addr) (l : List Nm) (c : Nat) (W : World) (hr : Ro W noF (row a (nmV l))) (hl : NmOk l) (hG : Lg W noF) :
  Calls Tryz.prog 88 #[.slice a l.length c] W (Ret fun v w => ∃ b q,v = .slice b (wrD l).length q ∧ (wrD l).length ≤ q ∧ St W noF [own 5 1 b q (bv (wrD l))] w) := by
 have hS := St.start W
 have hlen := hl.1
 have h0 : Ro W noF (row none ([] : List (List Value)).flatten) := Zh6 _ _ _
 refine Zab Tryz.func88 rfl Tryz.ntmps88 rfl ?_
 repeat (first|refine Yd7 ?_|refine Yag ?_|refine Yd8 ?_|refine Yab ?_)
 refine Zaa _ rfl rfl rfl rfl rfl (of_M none [] 0 [] _ h0 .nil (by simp [wMs])) ?_
 rintro _ w ⟨b,q,rows,X,rfl,hq,hMs,hS'⟩
 replace hS := hS.plus hS'
 clear hS'
 have hrow0 : rows = [] := List.eq_nil_of_length_eq_zero (by simpa using hMs.1)
 subst hrow0
 repeat (first|refine Yd7 ?_|refine Yaf ?_|refine Yas ?_|refine Yao (fun _ hS _ => ?_)|refine Yar (fun _ _ hS _ => ?_)|refine Yea ?_|refine Yab ?_)
 rename_i b3 _ _ _ _ _
 have hS2 : St W noF [own 38 4 b q ([] : List (List Value)).flatten,bag X,pts b3 (.cells (List.toArray [.int .i64 2,.int .i64 0,.slice none 0 0,.slice b 0 q]) 38 (0,0))] _ := hS.took
 clear hS
 refine Zal (α := Nat × Option Addr × Nat) (fun z => [(3,.pointer (some ⟨b3,0,none⟩)),(9,.slice a l.length c),(10,.int .i64 (l.length : Nat)),(11,.int .i64 (z.1 : Nat))])
  (fun z w => z.1 ≤ l.length ∧ z.1 ≤ z.2.2 ∧ ∃ rows X,Mrds (RX X) ((l.take z.1).map Ze1) rows ∧ St W noF [own 38 4 z.2.1 z.2.2 rows.flatten,bag X,pts b3 (.cells (List.toArray [.int .i64 2,.int .i64 0,.slice none 0 0,.slice z.2.1 z.1 z.2.2]) 38 (0,0))] w)
  (fun z => l.length - z.1) (0,b,q) ⟨rfl,rfl,rfl,rfl,trivial⟩ ⟨Nat.zero_le _,Nat.zero_le _,[],X,.nil,hS2⟩ ?_
 clear hS2
 rintro ⟨i,b,q⟩ w ⟨hi,hiq,rows,X,hMs,hS2⟩
 simp only at hi hiq hMs hS2
 have hrl : rows.flatten.length = i * 4 := by rw [hMs.flat,List.length_map,List.length_take,Nat.min_eq_left hi]
 by_cases hlt : i < l.length
 ·obtain ⟨y,hyx⟩ : ∃ y,y = l[i] := ⟨_,rfl⟩
  have hy0 : l[i]? = some y := by rw [hyx]; exact List.getElem?_eq_getElem hlt
  have hyo := hl.2 y (List.mem_of_getElem? hy0)
  have hxs := Zho hy0
  unfold nmC at hxs
  obtain ⟨ab,ao,rfl⟩ := hr.start.base (by
   intro e
   rw [e] at hxs
   simp at hxs)
  have hS := hS2
  repeat (first|refine Yd7 ?_|(refine X_id ?_;first|refine Ya1 ?_|refine Ybb ?_|refine Ybs ?_|refine Yao (fun _ hS _ => ?_)|refine Yar (fun _ _ hS _ => ?_))|refine Yeb ?_|refine Yab ?_)
  refine Zao (.s 0 (.s 1 (.s 2 (.s 3 (.s 5 (.s 6 (.h 4 (.h 7 (.h 8 (.h 9 (.h 10 (.h 11 (.s 12 (.h 13 .nil .no)) .no) .no) .no) .no) .no) .no))))))) mixed (by kernel_rfl) rfl ?_
  have hS := hS.drew
  repeat (first|(refine Zad ?_;first|refine Ybe ?_|refine Ybm ?_|refine Yau ?_))
  refine Zaa _ rfl rfl rfl rfl rfl (Zu2 y.1 _) ?_
  rintro _ w ⟨b1,c1,Y,rfl,hY,hS'⟩
  replace hS := hS.plus hS'
  clear hS'
  repeat (first|(refine Zad ?_;first|refine Yau ?_)|(refine Zac ?_;first|refine Ya0 ?_))
  refine Zaa _ rfl rfl rfl rfl rfl (Z5k y.2 _) ?_
  rintro _ w ⟨rfl,hS'⟩
  replace hS := hS.plus hS'
  clear hS'
  repeat (first|refine Ybf (fun _ _ hS _ => ?_)|(refine Zad ?_;first|refine Yau ?_)|(refine Zac ?_;first|refine Ya0 ?_))
  have hr2 := (hS.rd (List.mem_cons_self ..)).own_row.ro
  have hM2 : Mrds (RoR _ noF) [txM y.1,nuM y.2] [[.int .i64 1,.int .i64 0,.slice b1 y.1.length c1,.slice none 0 0],[.int .i64 0,.int .i64 y.2,.slice none 0 0,.slice none 0 0]] := (Mrds.nil.snoc (hY.ro (hS.rd (r := bag Y) (by simp)).ro)).snoc (Z27 (fun a => Zh6 _ _ a) y.2)
  refine Zaa _ rfl rfl rfl rfl rfl (of_M _ [txM y.1,nuM y.2] 2 [[.int .i64 1,.int .i64 0,.slice b1 y.1.length c1,.slice none 0 0],[.int .i64 0,.int .i64 y.2,.slice none 0 0,.slice none 0 0]] _ hr2 hM2 (by simp only [wMs,Zk3,List.length_nil]; omega)) ?_
  rintro _ w ⟨b4,q4,rows4,Z,rfl,_,hZ,hS'⟩
  replace hS := hS.plus hS'
  clear hS'
  simp only [List.length_cons,List.length_nil,Nat.zero_add,Nat.reduceAdd]
  repeat (first|refine Ybf (fun _ _ hS _ => ?_)|(refine Zad ?_;first|refine Yau ?_)|(refine Zac ?_;first|refine Ya0 ?_))
  have hnw := (hS.rd (List.mem_cons_self ..)).own_row
  refine Zas rfl rfl rfl rfl rfl hS hrl hiq hnw rfl (by simp [Value.oneCell']) (by omega) (by simp only [maxLen]; omega) (fun b' q' w hS hq' _ => ?_)
  repeat (first|refine Yd7 ?_|refine Yec ?_|refine Yao (fun _ hS _ => ?_)|refine Yad ?_|refine Yef ?_|(refine Zad ?_;first|refine Yaz ?_|refine Ybe ?_|refine Yau ?_)|(refine Zac ?_;first|refine Ya0 ?_))
  refine Zag (z := (i,b,q)) (i + 1,b',q') ⟨rfl,rfl,rfl,rfl,trivial⟩ ⟨hlt,hq',rows ++ [[.int .i64 2,.int .i64 0,.slice none 0 0,.slice b4 2 q4]],((b4,rows4.flatten) :: Z) ++ X,?_,?_⟩ (by dsimp only; omega)
  ·rw [List.take_succ_eq_append_getElem hlt,← hyx,List.map_append]
   refine (hMs.mono fun _ _ h => h.right).snoc ?_
   exact Mrd.mk' (l := [txM y.1,nuM y.2]) rfl rfl (Nat.zero_le _) .nil (.mem (List.mem_append_left _ (List.mem_cons_self ..))) hZ.1 fun i y cs h1 h2 => (hZ.2 i y cs h1 h2).mono fun _ _ h => h.tail.left
  ·have hS : St W noF [own 38 4 b4 q4 rows4.flatten,bag Z,bag X,own 38 4 b' q' (rows.flatten ++ [.int .i64 2,.int .i64 0,.slice none 0 0,.slice b4 2 q4]),pts b3 (.cells (List.toArray [.int .i64 2,.int .i64 0,.slice none 0 0,.slice b' (i + 1) q']) 38 (0,0))] _ := hS.took
   have hS := (hS.bagAdd (a := b4) (cs := rows4.flatten) fun _ h => h.row).bagJoin
   rw [List.flatten_append]
   simpa using hS.took (out := [own 38 4 b' q' (rows.flatten ++ [.int .i64 2,.int .i64 0,.slice none 0 0,.slice b4 2 q4]),bag (((b4,rows4.flatten) :: Z) ++ X),pts b3 (.cells (List.toArray [.int .i64 2,.int .i64 0,.slice none 0 0,.slice b' (i + 1) q']) 38 (0,0))])
 ·obtain rfl : i = l.length := by omega
  have hS := hS2
  rw [List.take_length] at hMs
  repeat (first|refine Yd7 ?_|refine Ya3 ?_|refine Ybg ?_|refine Yej ?_|refine Yed ?_)
  have hS3 : St W noF [own 38 4 b q rows.flatten,bag X] _ := hS.took
  have hS4 := hS3.bagAdd (a := b) (cs := rows.flatten) fun _ h => h.row
  have hv : Mrd (RX ((b,rows.flatten) :: X)) (dirM l) [.int .i64 2,.int .i64 0,.slice none 0 0,.slice b l.length q] :=
   .mk' rfl (by rw [List.length_map]) (Nat.zero_le _) .nil (.mem (List.mem_cons_self ..)) hMs.1 fun i y cs h1 h2 => (hMs.2 i y cs h1 h2).mono fun _ _ h => h.tail
  refine Zaa _ rfl rfl rfl rfl rfl (Zss (dirM l) _ _ (hv.ro (hS4.rd (List.mem_cons_self ..)).ro) (Z0j hl) (Zso hl.2) (by have := Zp6 hl; unfold wrD at this; omega) (hG.at_ hS)) ?_
  rintro _ w (⟨h,_⟩ | ⟨_,b',q',rfl,hq',hS'⟩)
  ·exact absurd (Zsy l) h
  replace hS := hS.plus hS'
  clear hS'
  repeat (first|refine Yd7 ?_|refine Ye3 ?_|refine Yek ?_|refine Yd9 ?_)
  have hS : St W noF [own 5 1 b' q' (bv (encM (dirM l)))] _ := hS.took
  exact ⟨b',q',rfl,hq',hS⟩
theorem Zzm (a : Option Addr) (s : List UInt8) (c : Nat) (W : World) (hb : Ro W noF (bytes a s)) (hsc : s.length ≤ c) (hl : s.length ≤ 512) (hG : Lg W noF) :
  Calls Tryz.prog 149 #[.slice a s.length c] W (Ret fun v w => ∃ b q,v = .slice b (rdD s).length q ∧ St W noF [own 281 2 b q (nmV (rdD s))] w) := by
 have hS := St.start W
 have hD := Zsv a s c hsc (by omega)
 unfold rdD
 refine Zab Tryz.func149 rfl Tryz.ntmps149 rfl ?_
 repeat (first|refine Yd7 ?_|refine Yel ?_|refine Yd8 ?_|refine Yab ?_)
 refine Zaa _ rfl rfl rfl rfl rfl (hD _ (hG.at_ hS) ((hb.rd hS).ro)) ?_
 rintro v w hV
 cases hd : decM s with
 | none =>
  rw [hd] at hV
  obtain ⟨e,rfl,he,hS'⟩ := hV
  replace hS := hS.plus hS'
  clear hS'
  repeat (first|refine Yd7 ?_|(refine X_id ?_;first|refine Yaf ?_|refine Yag ?_|refine Yan ?_|refine Yay ?_|refine Yas ?_|refine Yap ?_|refine Yao (fun _ hS _ => ?_)|refine Yar (fun _ _ hS _ => ?_))|refine Yea ?_|refine Yab ?_)
  refine Zal (α := Unit) (fun _ => [(5,.slice none 0 0),(15,.int .i64 0),(16,.int .i64 0)]) (fun _ w => St W noF [] w) (fun _ => 0) () ⟨rfl,rfl,rfl,trivial⟩ hS.drops ?_
  clear hS
  rintro _ w hS
  repeat (first|refine Yd7 ?_|refine Ye1 ?_|refine Yeg ?_|refine Ye2 ?_)
  exact ⟨_,_,rfl,hS.own_none _ _ _⟩
 | some t =>
  rw [hd] at hV
  obtain ⟨cs,X,rfl,hM,hS'⟩ := hV
  replace hS := hS.plus hS'
  clear hS'
  obtain ⟨k,n,tb,l⟩ := t
  obtain ⟨a1,c1,a2,c2,rows,rfl,hc1,hb1,hr1,hMs⟩ := hM.lit
  simp only [Mv.kind,Mv.num,Mv.txt,Mv.lst] at *
  have hll := Zma hd
  simp only [Mv.lst] at hll
  repeat (first|refine Yd7 ?_|(refine X_id ?_;first|refine Yaf ?_|refine Yag ?_|refine Yan ?_|refine Yay ?_|refine Yas ?_|refine Yap ?_|refine Yao (fun _ hS _ => ?_)|refine Yar (fun _ _ hS _ => ?_))|refine Yea ?_|refine Yab ?_)
  have hS : St W noF [bag X] _ := hS.took
  obtain ⟨F2,hS2,hro,hw,hbk⟩ := hS.call []
  have hX := hro _ (List.mem_cons_self ..)
  rename_i w1 _ _
  refine Zal (α := Nat × Option Addr × Nat × Nat) (fun z => [(5,.slice z.2.1 z.2.2.1 z.2.2.2),(14,.slice a2 l.length c2),(15,.int .i64 (l.length : Nat)),(16,.int .i64 (z.1 : Nat))])
   (fun z w => z.1 ≤ l.length ∧ z.2.2.1 = ((l.take z.1).filterMap Zfy).length ∧ z.2.2.1 ≤ z.2.2.2 ∧ St _ F2 [own 281 2 z.2.1 z.2.2.2 (nmV ((l.take z.1).filterMap Zfy))] w) (fun z => l.length - z.1) (0,none,0,0) ⟨rfl,rfl,rfl,rfl,trivial⟩ ⟨Nat.zero_le _,rfl,Nat.le_refl _,hS2.own_none _ _ _⟩ ?_
  clear hS hS2
  rintro ⟨i,b,n,q⟩ w ⟨hi,hn,hnq,hS2⟩
  simp only at hi hn hnq hS2
  by_cases hlt : i < l.length
  ·obtain ⟨y,hyx⟩ : ∃ y,y = l[i] := ⟨_,rfl⟩
   have hy0 : l[i]? = some y := by rw [hyx]; exact List.getElem?_eq_getElem hlt
   have htk : l.take (i + 1) = l.take i ++ [y] := by rw [List.take_succ_eq_append_getElem hlt,← hyx]
   obtain ⟨cs,hxs,hy⟩ := hMs.at_ hy0
   obtain ⟨d1,e1,d2,e2,rows2,rfl,_,_,hr2X,hM2⟩ := hy.lit
   have hr := hr1.ro hX
   obtain ⟨ab,ao,rfl⟩ := hr.start.base (by
    intro e
    rw [e] at hxs
    simp at hxs)
   have hS := hS2
   by_cases h2 : y.lst.length = 2
   ·obtain ⟨u,v,huv⟩ : ∃ u v,y.lst = [u,v] := by
     match hh : y.lst with
     | [] => rw [hh] at h2; simp at h2
     | [_] => rw [hh] at h2; simp at h2
     | [u,v] => exact ⟨u,v,rfl⟩
     | _ :: _ :: _ :: _ => rw [hh] at h2; simp at h2
    rw [huv] at hM2
    obtain ⟨cu,hcu,hu⟩ := hM2.at_ (i := 0) rfl
    obtain ⟨cv,hcv,hv⟩ := hM2.at_ (i := 1) rfl
    obtain ⟨f1,g1,f2,g2,rows3,rfl,_,hbu,_⟩ := hu.lit
    obtain ⟨f3,g3,f4,g4,rows4,rfl,_⟩ := hv.lit
    have hen : Zfy y = some (u.txt,v.num) := by unfold Zfy; rw [huv]
    repeat (first|refine Yd7 ?_|(refine X_id ?_;first|refine Yan ?_|refine Yas ?_|refine Ybh ?_|refine Ya1 ?_|refine Ybb ?_|refine Yap ?_|refine Ybs ?_|refine Yao (fun _ hS _ => ?_)|refine Yar (fun _ _ hS _ => ?_))|refine Yeb ?_|refine Yab ?_)
    have hr := hr2X.ro hX
    obtain ⟨xb,xo,rfl⟩ := hr.start.base (by
     intro e
     rw [e] at hcu
     simp at hcu)
    have hx : rows2.flatten[2]? = some (.slice f1 u.txt.length g1) := by
     have := congrArg (fun l => l[2]?) hcu
     simpa [List.getElem?_take,List.getElem?_drop] using this
    have hr2 := hr
    have hx2 : rows2.flatten[5]? = some (.int .i64 v.num) := by
     have := congrArg (fun l => l[1]?) hcv
     simpa [List.getElem?_take,List.getElem?_drop] using this
    have hb := hbu.ro hX
    refine Zao (.s 0 (.s 1 (.s 2 (.s 3 (.s 4 (.s 5 (.s 6 (.s 7 (.s 8 (.s 9 (.s 10 (.s 11 (.s 12 (.h 13 (.h 14 (.s 15 .nil) .no) .no)))))))))))))) mixed (by kernel_rfl) rfl ?_
    have hS := hS.drew
    repeat (first|refine Ybf (fun _ _ hS _ => ?_)|(refine Zad ?_;first|refine Ya2 ?_|refine Ybe ?_|refine Ydd ?_|refine Yca ?_|refine Yb3 ?_|refine Ybm ?_|refine Ydw ?_|refine Yau ?_|refine Zba (fun w' => w'.cell? _ = some _) rfl rfl ((hr2.rd hS).cellF (by first|omega|(dsimp only;omega)) hx2) (fun _ hc => Zat rfl rfl hc) rfl rfl ?_|refine Yd4 ?_)|(refine Zac ?_;first|refine Ya0 ?_))
    have hnw := (hS.rd (List.mem_cons_self ..)).own_row
    have hni : n ≤ i := by
     have := List.length_filterMap_le Zfy (l.take i)
     rw [List.length_take] at this; omega
    refine Zas rfl rfl rfl rfl rfl hS (by rw [Zgy,hn]) hnq hnw rfl (by simp [Value.oneCell']) (by dsimp only; omega) (by simp only [maxLen]; omega) (fun b' q' w hS hq' _ => ?_)
    repeat (first|refine Yd7 ?_|refine Yec ?_|refine Yad ?_|refine Yef ?_|(refine Zad ?_;first|refine Ye6 ?_)|(refine Zac ?_;first|refine Ya0 ?_))
    have hre : (l.take (i + 1)).filterMap Zfy = (l.take i).filterMap Zfy ++ [(u.txt,v.num)] := by rw [htk,List.filterMap_append]; simp [hen]
    refine Zag (z := (i,b,n,q)) (i + 1,b',n + 1,q') ⟨rfl,rfl,rfl,rfl,trivial⟩ ⟨hlt,by rw [hre,List.length_append,← hn]; rfl,hq',?_⟩ (by dsimp only; omega)
    rw [hre,Zj4]
    have hS : St w1 F2 [own 281 2 b' q' (nmV ((l.take i).filterMap Zfy) ++ [.string (str u.txt),.int .i64 v.num])] _ := hS.took
    exact hS
   ·have hen : Zfy y = none := by
     unfold Zfy
     match hh : y.lst with
     | [] => rfl
     | [_] => rfl
     | [u,v] => rw [hh] at h2; simp at h2
     | _ :: _ :: _ :: _ => rfl
    repeat (first|refine Yd7 ?_|(refine X_id ?_;first|refine Yaf ?_|refine Yan ?_|refine Yas ?_|refine Ybi ?_|refine Ya1 ?_|refine Ybb ?_|refine Yax ?_|refine Yap ?_|refine Ybs ?_|refine Yao (fun _ hS _ => ?_)|refine Yar (fun _ _ hS _ => ?_))|refine Yee ?_|refine Yef ?_)
    have hre : (l.take (i + 1)).filterMap Zfy = (l.take i).filterMap Zfy := by rw [htk,List.filterMap_append]; simp [hen]
    refine Zag (z := (i,b,n,q)) (i + 1,b,n,q) ⟨rfl,rfl,rfl,rfl,trivial⟩ ⟨hlt,by rw [hre]; exact hn,hnq,?_⟩ (by dsimp only; omega)
    rw [hre]
    exact hS.took
  ·obtain rfl : i = l.length := by omega
   have hS := hS2
   rw [List.take_length] at hn hS
   repeat (first|refine Yd7 ?_|refine Ye1 ?_|refine Yeg ?_|refine Ye2 ?_)
   replace hS := hbk hS
   subst hn
   have hS : St W noF [own 281 2 b q (nmV (l.filterMap Zfy))] _ := hS.took
   exact ⟨b,q,rfl,hS⟩
end Cr
namespace Cr
open Go Go.Proofs
set_option maxRecDepth 100000
set_option maxHeartbeats 2000000
attribute [local irreducible] Calls

def okC (c : UInt8) : Prop := (97 ≤ c.toNat ∧ c.toNat ≤ 122) ∨ (48 ≤ c.toNat ∧ c.toNat ≤ 57) ∨ c.toNat = 46 ∨ c.toNat = 45 ∨ c.toNat = 95
instance (c : UInt8) : Decidable (okC c) := by unfold okC; infer_instance
def nameOk (s : List UInt8) : Prop := 1 ≤ s.length ∧ s.length ≤ 24 ∧ s ≠ [46] ∧ s ≠ [46,46] ∧ ∀ c ∈ s,okC c
instance (s : List UInt8) : Decidable (nameOk s) := by unfold nameOk; infer_instance
theorem Z45 (c : UInt8) (W : World) : Calls Tryz.prog 91 #[.int .u8 (c.toNat : Int)] W (Ret fun v w => v = .bool (decide (okC c)) ∧ St W noF [] w) := by
 have hS := St.start W
 refine Zab Tryz.func91 rfl Tryz.ntmps91 rfl ?_
 repeat' (first | (refine G_id ?_; first | refine Zir ?_ | refine Zcv rfl rfl ?_ | refine Zzi rfl rfl rfl rfl ?_ | refine G_no rfl rfl rfl rfl rfl rfl ?_ | refine Zmj rfl rfl rfl rfl rfl ?_) | (refine X_id ?_; first | refine X_yl (Zbm rfl rfl) rfl rfl ?_ | refine X_yl (Za3 rfl rfl) rfl rfl ?_ | refine X_yl (Zhz rfl rfl rfl) rfl rfl ?_ | refine X_yl (Zf3 rfl rfl rfl) rfl rfl ?_ | refine X_yl (Zgj rfl rfl rfl (by omega)) rfl rfl ?_ | refine X_yl (Znp rfl rfl rfl (by omega)) rfl rfl ?_ | refine X_yl (Zjn rfl rfl rfl (by omega)) rfl rfl ?_ | refine X_yl (Zpz rfl rfl rfl) rfl rfl ?_ | refine X_yl (Zww rfl rfl rfl) rfl rfl ?_ | refine X_yl (Zs8 rfl rfl rfl) rfl rfl ?_) | (refine C_id ?_; first | refine Zco ?_ | refine Zav ?_ | refine Zk1 ?_) | (refine E_id ?_; first | refine Zci ?_ | refine Zi7 rfl (Zbv rfl) (Ret.mk ?_)) | (refine Ziq (d := 5) rfl ?_ ?_ <;> intro hd) | (refine Ziq (d := 9) rfl ?_ ?_ <;> intro hd) | (refine Ziq (d := 12) rfl ?_ ?_ <;> intro hd) | (refine Ziq (d := 17) rfl ?_ ?_ <;> intro hd) | (refine Ziq (d := 21) rfl ?_ ?_ <;> intro hd) | (refine Ziq (d := 25) rfl ?_ ?_ <;> intro hd) | (refine Zit rfl ?_ ?_ <;> intro hd))
 all_goals
  refine ⟨?_,hS⟩
  congr 1
  unfold okC
  first | (symm; exact decide_eq_true (by omega)) | (symm; exact decide_eq_false (by omega)) | exact decide_eq_decide.2 (by omega)
end Cr
namespace Cr
open Go Go.Proofs
set_option maxRecDepth 100000
set_option maxHeartbeats 2000000
attribute [local irreducible] Calls

theorem Zhp {s : List UInt8} (h : s.length < 1 ∨ 24 < s.length ∨ s = [46] ∨ s = [46,46]) : decide (nameOk s) = false := by
 refine decide_eq_false fun q => ?_
 obtain ⟨q1,q2,q3,q4,_⟩ := q
 rcases h with h | h | h | h
 ·omega
 ·omega
 ·exact q3 h
 ·exact q4 h
theorem Zye (s : List UInt8) (W : World) : Calls Tryz.prog 43 #[.string (str s)] W (Ret fun v w => v = .bool (decide (nameOk s)) ∧ St W noF [] w) := by
 have hS := St.start W
 have hz := Zbn s
 by_cases h1 : s.length < 1
 ·rw [Zhp (.inl h1)]
  refine Zab Tryz.func43 rfl Tryz.ntmps43 rfl ?_
  repeat (first|refine Yeq ?_|(refine X_id ?_;first|refine Yaf ?_|refine Yag ?_|refine Ybd ?_|refine Ycl ?_|refine Ya1 ?_)|refine Yae ?_|refine Ycf ?_|refine Yad ?_|refine Yah ?_|refine Yaj ?_|refine Yfe ?_)
  exact ⟨rfl,hS⟩
 by_cases h2 : 24 < s.length
 ·rw [Zhp (.inr (.inl h2))]
  refine Zab Tryz.func43 rfl Tryz.ntmps43 rfl ?_
  repeat (first|refine Ye4 ?_|(refine X_id ?_;first|refine Yaf ?_|refine Yag ?_|refine Ybd ?_|refine Ya4 ?_|refine Ycl ?_|refine Ya3 ?_|refine Ybx ?_)|refine Yae ?_|refine Ycf ?_|refine Yad ?_|refine Yah ?_|refine Yaj ?_|refine Yfe ?_)
  exact ⟨rfl,hS⟩
 by_cases h3 : s = [46]
 ·rw [Zhp (.inr (.inr (.inl h3)))]
  refine Zab Tryz.func43 rfl Tryz.ntmps43 rfl ?_
  repeat (first|refine Ye4 ?_|(refine X_id ?_;first|refine Yaf ?_|refine Yag ?_|refine Ybd ?_|refine Ya4 ?_|refine Ycl ?_|refine Ya3 ?_|refine Ybt ?_|refine Ycv ?_)|refine Yae ?_|refine Ycf ?_|refine Yad ?_|refine Yah ?_|refine Yaj ?_|refine Yfe ?_)
  exact ⟨rfl,hS⟩
 by_cases h4 : s = [46,46]
 ·rw [Zhp (.inr (.inr (.inr h4)))]
  refine Zab Tryz.func43 rfl Tryz.ntmps43 rfl ?_
  repeat (first|refine Yen ?_|(refine X_id ?_;first|refine Yaf ?_|refine Yag ?_|refine Ya4 ?_|refine Ycl ?_|refine Ya3 ?_|refine Ybt ?_|refine Ycv ?_|refine Ycm ?_)|refine Yae ?_|refine Ycf ?_|refine Yad ?_|refine Yah ?_|refine Yaj ?_|refine Yfe ?_)
  exact ⟨rfl,hS⟩
 refine Zab Tryz.func43 rfl Tryz.ntmps43 rfl ?_
 repeat (first|refine Yen ?_|(refine X_id ?_;first|refine Yaf ?_|refine Yag ?_|refine Ya4 ?_|refine Ycl ?_|refine Ya3 ?_|refine Ybt ?_|refine Ycm ?_)|refine Yae ?_|refine Zg8 ?_|refine Ycf ?_|refine Yad ?_|refine Yak ?_|refine Yal ?_|refine Yai ?_|refine Yab ?_)
 refine Zbt (α := Unit) (fun _ => []) (fun _ w => (∀ c ∈ s,okC c) ∧ St W noF [] w) ?_ ?_
 ·refine Zal (α := Nat) (fun i => [(0,.string (str s)),(21,.int .i64 (s.length : Nat)),(22,.int .i64 (i : Nat))]) (fun i w => i ≤ s.length ∧ (∀ c ∈ s.take i,okC c) ∧ St W noF [] w) (fun i => s.length - i) 0 ⟨rfl,rfl,rfl,trivial⟩ ⟨Nat.zero_le _,fun c hc => by simp at hc,hS⟩ ?_
  clear hS
  rintro i w ⟨hi,hok,hS⟩
  by_cases hlt : i < s.length
  ·obtain ⟨x,hx0⟩ : ∃ x,s[i]? = some x := ⟨_,List.getElem?_eq_getElem hlt⟩
   have hx : s[((i : Nat) : Int).toNat]? = some x := hx0
   have hq := Z45 x
   by_cases hc : okC x
   ·rw [decide_eq_true hc] at hq
    repeat (first|refine Yd7 ?_|(refine X_id ?_;first|(refine Zae 91 rfl rfl rfl rfl rfl hS (hq _) ?_;rintro _ _ rfl hS)|refine Yaf ?_|refine Yag ?_|refine Ya1 ?_|refine Yax ?_|refine Yc8 ?_)|refine Yae ?_|refine Yad ?_|refine Yak ?_|refine Yal ?_|refine Ya5 ?_|refine Yaj ?_|refine Yed ?_)
    refine Zag (z := i) (i + 1) ⟨rfl,rfl,rfl,trivial⟩ ⟨hlt,fun c hc' => ?_,hS⟩ (by omega)
    rw [List.take_add_one,hx0] at hc'
    rcases List.mem_append.1 hc' with h | h
    ·exact hok c h
    ·obtain rfl : c = x := by simpa using h
     exact hc
   ·rw [decide_eq_false hc] at hq
    repeat (first|refine Yd7 ?_|(refine X_id ?_;first|(refine Zae 91 rfl rfl rfl rfl rfl hS (hq _) ?_;rintro _ _ rfl hS)|refine Yaf ?_|refine Yag ?_|refine Ya1 ?_|refine Yc8 ?_)|refine Ye9 ?_|refine Yab ?_|refine Yaq ?_|refine Yb4 ?_|refine Ya8 ?_|refine Yam ?_)
    refine ⟨?_,hS⟩
    rw [decide_eq_false (fun q : nameOk s => hc (q.2.2.2.2 x (List.mem_of_getElem? hx0)))]
  ·repeat (first|refine Yd7 ?_|refine Ya3 ?_|refine Yej ?_|refine Yed ?_)
   refine Zbg () trivial ⟨?_,hS⟩
   rwa [List.take_of_length_le (by omega)] at hok
 ·clear hS
  rintro _ w ⟨hok,hS⟩
  repeat (first|refine Yd7 ?_|refine Yag ?_|refine Yek ?_|refine Yab ?_|refine Yb4 ?_|refine Yam ?_)
  refine ⟨?_,hS⟩
  rw [decide_eq_true (show nameOk s from ⟨by omega,by omega,h3,h4,hok⟩)]
end Cr
namespace Cr
open Go Go.Proofs
set_option maxRecDepth 100000
set_option maxHeartbeats 8000000
attribute [local irreducible] Calls

def ixN (s : List UInt8) : List Nm → Int
 | [] => -1
 | x :: l => if x.1 = s then 0 else if ixN s l < 0 then -1 else ixN s l + 1
theorem Zzx (s : List UInt8) : ∀ l : List Nm,-1 ≤ ixN s l
 | [] => by simp [ixN]
 | x :: l => by
  have := Zzx s l
  unfold ixN; split
  ·omega
  ·split <;> omega
theorem Zvu {s : List UInt8} : ∀ {l : List Nm} {k : Nat} {x : Nm},l[k]? = some x → x.1 = s → (∀ j,j < k → ∀ y,l[j]? = some y → y.1 ≠ s) → ixN s l = k
 | y :: l,0,x,h,hx,_ => by
  obtain rfl : y = x := by simpa using h
  simp [ixN,hx]
 | y :: l,k + 1,x,h,hx,hb => by
  have h0 := hb 0 (by omega) y rfl
  have ih := Zvu (l := l) (k := k) (by simpa using h) hx fun j hj z hz => hb (j + 1) (by omega) z (by simpa using hz)
  rw [ixN,if_neg h0,ih,if_neg (by omega)]; omega
theorem Zm7 {s : List UInt8} : ∀ {l : List Nm},(∀ x ∈ l,x.1 ≠ s) → ixN s l = -1
 | [],_ => rfl
 | y :: l,h => by
  rw [ixN,if_neg (h y (List.mem_cons_self ..)),Zm7 fun x hx => h x (List.mem_cons_of_mem _ hx)]; rfl
def strV (p : List (List UInt8)) : List Value := p.map fun s => .string (str s)
theorem Zef (p : List (List UInt8)) : (strV p).length = p.length := by simp [strV]
theorem Zms {p : List (List UInt8)} {i : Nat} {s : List UInt8} (h : p[i]? = some s) : (strV p)[i]? = some (.string (str s)) := by simp [strV,h]
def Zb6 (p : List (List UInt8)) : Prop := p.length ≤ 8 ∧ ∀ s ∈ p,nameOk s
instance (p : List (List UInt8)) : Decidable (Zb6 p) := by unfold Zb6; infer_instance

theorem Zzz (x : Nm) (b : Nat) (s : List UInt8) (T : TypeId) (fz : Nat × Nat) (W : World) (hb : Rd W (pts b (.cells (List.toArray [.string (str s)]) T fz))) :
  Calls Tryz.prog 157 #[.agg (List.toArray [.string (str x.1),.int .i64 x.2]),.pointer (some ⟨b,0,none⟩)] W (Ret fun v w => v = .bool (decide (x.1 = s)) ∧ St W noF [] w) := by
 have hc := hb.ro
 have hS := St.start W
 by_cases h : x.1 = s
 ·refine Zab Tryz.func157 rfl Tryz.ntmps157 rfl ?_
  repeat (first|refine Yd7 ?_|(refine X_id ?_;first|refine Yag ?_|refine Yan ?_|refine Yap ?_|refine Ya9 (fun _ _ hS _ => ?_)|refine Ycv ?_|refine Yb6 ?_)|refine Yek ?_|refine Yd9 ?_)
  refine ⟨?_,hS.drops⟩
  simp [h]
 ·have h' : str x.1 ≠ str s := fun e => h (Zu7 e)
  refine Zab Tryz.func157 rfl Tryz.ntmps157 rfl ?_
  repeat (first|refine Yd7 ?_|(refine X_id ?_;first|refine Yag ?_|refine Yan ?_|refine Yap ?_|refine Ya9 (fun _ _ hS _ => ?_)|refine Ycm ?_|refine Yb6 ?_)|refine Yek ?_|refine Yd9 ?_)
  refine ⟨?_,hS.drops⟩
  simp [h,h']
theorem Zyr (a : Option Addr) (l : List Nm) (c b : Nat) (s : List UInt8) (T : TypeId) (fz : Nat × Nat) (W : World) (hr0 : Rd W (row a (nmV l))) (hb : Rd W (pts b (.cells (List.toArray [.string (str s)]) T fz))) (hl : l.length ≤ 1048576) :
  Calls Tryz.prog 156 #[.slice a l.length c,.func (.func 157) #[] #[.pointer (some ⟨b,0,none⟩)]] W (Ret fun v w => v = .int .i64 (ixN s l) ∧ St W noF [] w) := by
 have hbo := hb.ro
 have hr1 := hr0.ro
 have hS := St.start W
 refine Zab Tryz.func156 rfl Tryz.ntmps156 rfl ?_
 repeat (first|refine Yd7 ?_|refine Ye7 ?_|refine Yea ?_|refine Yab ?_)
 refine Zal (α := Nat) (fun k => [(0,.slice a l.length c),(1,.func (.func 157) #[] #[.pointer (some ⟨b,0,none⟩)]),(7,.int .i64 (l.length : Nat)),(8,.int .i64 (k : Nat))])
  (fun k w => k ≤ l.length ∧ (∀ j,j < k → ∀ y,l[j]? = some y → y.1 ≠ s) ∧ St W noF [] w) (fun k => l.length - k) 0 ⟨rfl,rfl,rfl,rfl,trivial⟩ ⟨Nat.zero_le _,fun j hj => absurd hj (by omega),hS⟩ ?_
 clear hS
 rintro k w ⟨hk,hne,hS2⟩
 by_cases hlt : k < l.length
 ·have hx0 : l[k]? = some l[k] := List.getElem?_eq_getElem (by omega)
  generalize l[k] = x at hx0
  have hr := hr1
  have hxs : ((nmV l).drop (k * 2)).take 2 = [.string (str x.1),.int .i64 x.2] := Zho hx0
  obtain ⟨xb,xo,rfl⟩ := (hr.rd hS2).base (by intro e; rw [e] at hxs; simp at hxs)
  have hS := hS2
  by_cases hq : x.1 = s
  ·have hc1 := fun w h => Zzz x b s T fz w h
   rw [decide_eq_true hq] at hc1
   repeat (first|refine Yd7 ?_|(refine X_id ?_;first|refine Yaf ?_|refine Yag ?_|refine Ya1 ?_|refine Ybb ?_|refine Ybs ?_)|refine Yeb ?_|refine Yab ?_)
   refine Zby (first := []) (captured := [.pointer (some ⟨b,0,none⟩)]) rfl rfl rfl rfl rfl (hc1 _ (hbo.rd hS)) ?_
   rintro _ w' ⟨rfl,hS'⟩
   replace hS := hS.plus hS'
   clear hS'
   repeat (first|refine Yd7 ?_|refine Yel ?_|refine Yeo ?_|refine Yes ?_)
   exact ⟨by rw [Zvu hx0 hq hne],hS⟩
  ·have hc1 := fun w h => Zzz x b s T fz w h
   rw [decide_eq_false hq] at hc1
   repeat (first|refine Yd7 ?_|(refine X_id ?_;first|refine Yaf ?_|refine Yag ?_|refine Ya1 ?_|refine Ybb ?_|refine Ybs ?_)|refine Yeb ?_|refine Yab ?_)
   refine Zby (first := []) (captured := [.pointer (some ⟨b,0,none⟩)]) rfl rfl rfl rfl rfl (hc1 _ (hbo.rd hS)) ?_
   rintro _ w' ⟨rfl,hS'⟩
   replace hS := hS.plus hS'
   clear hS'
   repeat (first|refine Yd7 ?_|refine Yec ?_|refine Yey ?_|refine Yef ?_)
   refine Zag (k + 1) ⟨rfl,rfl,rfl,rfl,trivial⟩ ⟨by omega,fun j hj y hy => ?_,hS⟩ (by omega)
   by_cases hjk : j = k
   ·subst hjk; rw [hx0] at hy; cases hy; exact hq
   ·exact hne j (by omega) y hy
 ·obtain rfl : k = l.length := by omega
  have hS := hS2
  repeat (first|refine Yd7 ?_|refine Yag ?_|refine Ya3 ?_|refine Yeg ?_|refine Ye2 ?_)
  rw [Zm7 fun x hx => (by
   obtain ⟨j,hj,he⟩ := List.mem_iff_getElem.1 hx
   exact hne j hj x (by rw [List.getElem?_eq_getElem hj,he]))]
  exact ⟨rfl,hS⟩
theorem Z3u (a : Option Addr) (l : List Nm) (c : Nat) (s : List UInt8) (W : World) (hr : Rd W (row a (nmV l))) (hl : l.length ≤ 1048576) :
  Calls Tryz.prog 99 #[.slice a l.length c,.string (str s)] W (Ret fun v w => v = .int .i64 (ixN s l) ∧ St W noF [] w) := by
 have hro := hr.ro
 have hS := St.start W
 refine Zab Tryz.func99 rfl Tryz.ntmps99 rfl ?_
 repeat (first|refine Yd7 ?_|refine Yaf ?_|refine Yag ?_|refine Yce ?_|refine Ya9 (fun _ _ hS _ => ?_)|refine Yd8 ?_|refine Yab ?_)
 refine Zaa _ rfl rfl rfl rfl rfl (Zyr a l c _ s _ _ _ (hro.rd hS) (hS.rd (List.mem_cons_self ..)) hl) ?_
 rintro _ w' ⟨rfl,hS'⟩
 replace hS := hS.plus hS'
 clear hS'
 repeat (first|refine Yd7 ?_|refine Yag ?_|refine Yah ?_|refine Yd9 ?_)
 exact ⟨rfl,hS.drops⟩
theorem Zvd (s : List UInt8) (W : World) : Calls Tryz.prog 182 #[.string (str s)] W (Ret fun v w => v = .bool (!decide (nameOk s)) ∧ St W noF [] w) := by
 have hS := St.start W
 have hn := fun W => Zye s W
 refine Zab Tryz.func182 rfl Tryz.ntmps182 rfl ?_
 repeat (first|refine Yd7 ?_|(refine X_id ?_;first|(refine Zae 43 rfl rfl rfl rfl rfl hS (hn _) ?_;rintro _ _ rfl hS)|refine Yaf ?_|refine Yag ?_|refine X_yl (Z4l rfl rfl) rfl rfl ?_)|refine Yek ?_|refine Yd9 ?_)
 exact ⟨by simp,hS⟩
theorem Zyq (a : Option Addr) (p : List (List UInt8)) (c : Nat) (W : World) (hr0 : Rd W (row a (strV p))) (hl : p.length ≤ 1048576) :
  Calls Tryz.prog 103 #[.slice a p.length c,.func (.func 182) #[] #[]] W (Ret fun v w => (∃ z : Int,v = .int .i64 z ∧ (z < 0 ↔ ∀ s ∈ p,nameOk s)) ∧ St W noF [] w) := by
 have hr1 := hr0.ro
 have hS := St.start W
 refine Zab Tryz.func103 rfl Tryz.ntmps103 rfl ?_
 repeat (first|refine Yd7 ?_|refine Ye7 ?_|refine Yea ?_|refine Yab ?_)
 refine Zal (α := Nat) (fun k => [(0,.slice a p.length c),(1,.func (.func 182) #[] #[]),(7,.int .i64 (p.length : Nat)),(8,.int .i64 (k : Nat))])
  (fun k w => k ≤ p.length ∧ (∀ j,j < k → ∀ y,p[j]? = some y → nameOk y) ∧ St W noF [] w) (fun k => p.length - k) 0 ⟨rfl,rfl,rfl,rfl,trivial⟩ ⟨Nat.zero_le _,fun j hj => absurd hj (by omega),hS⟩ ?_
 clear hS
 rintro k w ⟨hk,hne,hS2⟩
 by_cases hlt : k < p.length
 ·have hx0 : p[k]? = some p[k] := List.getElem?_eq_getElem (by omega)
  generalize p[k] = x at hx0
  have hr := hr1
  have hx := Zms hx0
  obtain ⟨xb,xo,rfl⟩ := (hr.rd hS2).base (by intro e; rw [e] at hx; simp at hx)
  have hS := hS2
  by_cases hq : nameOk x
  ·have hc1 := fun w => Zvd x w
   rw [decide_eq_true hq] at hc1
   repeat (first|refine Yd7 ?_|refine Ye8 ?_|refine Yeb ?_|refine Yab ?_)
   refine Zby (first := []) (captured := []) rfl rfl rfl rfl rfl (hc1 _) ?_
   rintro _ w' ⟨rfl,hS'⟩
   replace hS := hS.plus hS'
   clear hS'
   repeat (first|refine Yd7 ?_|refine Yec ?_|refine Yey ?_|refine Yef ?_)
   refine Zag (k + 1) ⟨rfl,rfl,rfl,rfl,trivial⟩ ⟨by omega,fun j hj y hy => ?_,hS⟩ (by omega)
   by_cases hjk : j = k
   ·subst hjk; rw [hx0] at hy; cases hy; exact hq
   ·exact hne j (by omega) y hy
  ·have hc1 := fun w => Zvd x w
   rw [decide_eq_false hq] at hc1
   repeat (first|refine Yd7 ?_|refine Ye8 ?_|refine Yeb ?_|refine Yab ?_)
   refine Zby (first := []) (captured := []) rfl rfl rfl rfl rfl (hc1 _) ?_
   rintro _ w' ⟨rfl,hS'⟩
   replace hS := hS.plus hS'
   clear hS'
   repeat (first|refine Yd7 ?_|refine Yel ?_|refine Yeo ?_|refine Yes ?_)
   exact ⟨⟨(k : Nat),rfl,⟨fun h => absurd h (by omega),fun h => absurd (h x (List.mem_of_getElem? hx0)) hq⟩⟩,hS⟩
 ·obtain rfl : k = p.length := by omega
  have hS := hS2
  repeat (first|refine Yd7 ?_|refine Yag ?_|refine Ya3 ?_|refine Yeg ?_|refine Ye2 ?_)
  refine ⟨⟨-1,rfl,⟨fun _ s hs => ?_,fun _ => by omega⟩⟩,hS⟩
  obtain ⟨j,hj,he⟩ := List.mem_iff_getElem.1 hs
  exact hne j hj s (by rw [List.getElem?_eq_getElem hj,he])
theorem Zvi (a : Option Addr) (p : List (List UInt8)) (c : Nat) (W : World) (hr : Rd W (row a (strV p))) (hl : p.length ≤ 1048576) :
  Calls Tryz.prog 123 #[.slice a p.length c] W (Ret fun v w => v = .bool (decide (Zb6 p)) ∧ St W noF [] w) := by
 have hro := hr.ro
 have hS := St.start W
 by_cases h8 : p.length ≤ 8
 ·have hcf : ∀ W,Rd W (row a (strV p)) → Calls Tryz.prog 54 #[.slice a p.length c,.func (.func 182) #[] #[]] W (Ret fun v w => v = .bool (!decide (Zb6 p)) ∧ St W noF [] w) := by
   intro W hr
   have hS := St.start W
   refine Zab Tryz.func54 rfl Tryz.ntmps54 rfl ?_
   repeat (first|refine Yd7 ?_|refine Yel ?_|refine Yd8 ?_|refine Yab ?_)
   refine Zaa _ rfl rfl rfl rfl rfl (Zyq a p c _ hr hl) ?_
   rintro _ w ⟨⟨z,rfl,hz⟩,hS'⟩
   replace hS := hS.plus hS'
   clear hS'
   by_cases h : z < 0
   ·repeat (first|refine Yd7 ?_|refine Yag ?_|refine Yb9 ?_|refine Yah ?_|refine Yd9 ?_)
    have : Zb6 p := ⟨h8,hz.1 h⟩
    exact ⟨by simp [this],hS⟩
   ·repeat (first|refine Yd7 ?_|refine Yag ?_|refine Yb7 ?_|refine Yah ?_|refine Yd9 ?_)
    have : ¬ Zb6 p := fun q => h (hz.2 q.2)
    exact ⟨by simp [this],hS⟩
  refine Zab Tryz.func123 rfl Tryz.ntmps123 rfl ?_
  repeat (first|refine Yen ?_|(refine X_id ?_;first|(refine Zae 54 rfl rfl rfl rfl rfl hS (hcf _ (hro.rd hS)) ?_;rintro _ _ rfl hS)|refine Yaf ?_|refine Yag ?_|refine Ybd ?_|refine X_yl (Zno rfl rfl) rfl rfl ?_|refine Yas ?_|refine Ydx ?_)|refine Yek ?_|refine Yd9 ?_)
  refine ⟨by simp,hS⟩
 ·have : ¬ Zb6 p := fun q => h8 q.1
  refine Zab Tryz.func123 rfl Tryz.ntmps123 rfl ?_
  repeat (first|refine Yeq ?_|(refine X_id ?_;first|refine Yaf ?_|refine Yag ?_|refine Ya4 ?_|refine Yas ?_|refine X_yl (Znp rfl rfl rfl (by omega)) rfl rfl ?_)|refine Yek ?_|refine Yd9 ?_)
  exact ⟨by simp [this],hS⟩
end Cr
namespace Cr
open Go

inductive Tn where
 | mk (nm : List UInt8) (no : Int) (st : StatM) (data : List UInt8) (kids : List Tn)
def Tn.nm : Tn → List UInt8 | .mk nm _ _ _ _ => nm
def Tn.no : Tn → Int | .mk _ no _ _ _ => no
def Tn.st : Tn → StatM | .mk _ _ st _ _ => st
def Tn.data : Tn → List UInt8 | .mk _ _ _ data _ => data
def Tn.kids : Tn → List Tn | .mk _ _ _ _ kids => kids
def Tn.names (t : Tn) : List Nm := t.kids.map fun k => (k.nm,k.no)
def Tn.nd (t : Tn) : Nd := ⟨t.st,if t.st.kind = 1 then wrD t.names else t.data⟩
mutual
def subT : Tn → List Tn
 | .mk nm no st data kids => .mk nm no st data kids :: subL kids
def subL : List Tn → List Tn
 | [] => []
 | k :: l => subT k ++ subL l
end
mutual
def hgtT : Tn → Nat
 | .mk _ _ _ _ kids => hgtL kids
def hgtL : List Tn → Nat
 | [] => 0
 | k :: l => max (1 + hgtT k) (hgtL l)
end
def ent (u : Tn) : Int × Nd := (u.no,u.nd)
def Zcd (t : Tn) : List (Int × Nd) := (subT t).map ent
def Zc3 (l : List Tn) : List (Int × Nd) := (subL l).map ent
def Nt (t : Tn) (no : Int) : Option Nd := getA no (Zcd t)
def ltS (a b : List UInt8) : Prop := Lib.compareBytes a b < 0
instance (a b : List UInt8) : Decidable (ltS a b) := by unfold ltS; infer_instance
theorem Zwk : ∀ a : List UInt8,Lib.compareBytes a a = 0
 | [] => rfl
 | x :: a => by rw [Lib.compareBytes,if_neg (UInt8.lt_irrefl x),if_neg (UInt8.lt_irrefl x),Zwk a]
theorem Z4a : ∀ {a b : List UInt8},Lib.compareBytes a b = 0 → a = b
 | [],[],_ => rfl
 | [],_ :: _,h => by rw [Lib.compareBytes] at h; cases h
 | _ :: _,[],h => by rw [Lib.compareBytes] at h; cases h
 | x :: a,y :: b,h => by
  rw [Lib.compareBytes] at h
  split at h
  ·cases h
  ·rename_i h1
   split at h
   ·cases h
   ·rename_i h2
    rw [Z4a h,UInt8.le_antisymm (UInt8.not_lt.1 h2) (UInt8.not_lt.1 h1)]
theorem Zs1 : ∀ {a b c : List UInt8},Lib.compareBytes a b < 0 → Lib.compareBytes b c < 0 → Lib.compareBytes a c < 0
 | [],[],c,h,_ => by rw [Lib.compareBytes] at h; cases h
 | [],_ :: _,[],_,h => by rw [Lib.compareBytes] at h; cases h
 | [],_ :: _,_ :: _,_,_ => by rw [Lib.compareBytes]; decide
 | _ :: _,[],c,h,_ => by rw [Lib.compareBytes] at h; cases h
 | _ :: _,_ :: _,[],_,h => by rw [Lib.compareBytes] at h; cases h
 | x :: a,y :: b,z :: c,h1,h2 => by
  rw [Lib.compareBytes] at h1 h2 ⊢
  by_cases hxy : x < y
  ·by_cases hyz : y < z
   ·rw [if_pos (UInt8.lt_trans hxy hyz)]; decide
   ·rw [if_neg hyz] at h2
    by_cases hzy : z < y
    ·rw [if_pos hzy] at h2; cases h2
    ·have : y = z := UInt8.le_antisymm (UInt8.not_lt.1 hzy) (UInt8.not_lt.1 hyz)
     subst this
     rw [if_pos hxy]; decide
  ·rw [if_neg hxy] at h1
   by_cases hyx : y < x
   ·rw [if_pos hyx] at h1; cases h1
   ·rw [if_neg hyx] at h1
    have : x = y := UInt8.le_antisymm (UInt8.not_lt.1 hyx) (UInt8.not_lt.1 hxy)
    subst this
    by_cases hyz : x < z
    ·rw [if_pos hyz]; decide
    ·rw [if_neg hyz] at h2 ⊢
     by_cases hzy : z < x
     ·rw [if_pos hzy] at h2; cases h2
     ·rw [if_neg hzy] at h2 ⊢
      exact Zs1 h1 h2
theorem Z3f {a b : List UInt8} (h : ltS a b) : a ≠ b := fun e => by subst e; unfold ltS at h; rw [Zwk] at h; cases h
theorem Zou {a b c : List UInt8} (h : ltS a b) (h2 : ltS b c) : ltS a c := Zs1 h h2
theorem Zyh {a b : List UInt8} (h : ¬ ltS a b) (hne : a ≠ b) : ltS b a := by
 unfold ltS at *
 have key : ∀ a b : List UInt8,0 < Lib.compareBytes a b → Lib.compareBytes b a < 0 := by
  intro a
  induction a with
  | nil => intro b h; cases b <;> (rw [Lib.compareBytes] at h; cases h)
  | cons x a ih =>
   intro b h
   cases b with
   | nil => rw [Lib.compareBytes]; decide
   | cons y b =>
    rw [Lib.compareBytes] at h ⊢
    by_cases hxy : x < y
    ·rw [if_pos hxy] at h; cases h
    ·rw [if_neg hxy] at h
     by_cases hyx : y < x
     ·rw [if_pos hyx]; decide
     ·rw [if_neg hyx] at h ⊢
      rw [if_neg hxy]
      exact ih b h
 have h0 : Lib.compareBytes a b ≠ 0 := fun e => hne (Z4a e)
 exact key a b (by omega)
structure TnOk (n : Nat) (u : Tn) : Prop where
 chk : u.st.check = 0
 low : 0 ≤ u.no ∧ u.no < n
 dir : u.st.kind = 1 → u.data = [] ∧ (wrD u.names).length ≤ 512
 rise : u.kids.Pairwise fun a b => ltS a.nm b.nm
 nmk : ∀ k ∈ u.kids,nameOk k.nm
 leaf : u.st.kind ≠ 1 → u.kids = [] ∧ u.data.length ≤ 512
structure TreeOk (n : Nat) (t : Tn) : Prop where
 node : ∀ u ∈ subT t,TnOk n u
 nodup : ((Zcd t).map (·.1)).Nodup
 root : t.no = 0 ∧ t.st.kind = 1
 high : hgtT t ≤ 8
 small : n ≤ 1000000
theorem Zd0 (t : Tn) : subT t = t :: subL t.kids := by cases t; rw [subT]; rfl
theorem Zeh (t : Tn) : t ∈ subT t := by rw [Zd0]; exact List.mem_cons_self ..
theorem mem_subL : ∀ {l : List Tn} {u : Tn},u ∈ subL l ↔ ∃ k ∈ l,u ∈ subT k
 | [],u => by simp [subL]
 | k :: l,u => by
  rw [subL,List.mem_append,mem_subL]
  simp
theorem Zqs {t k : Tn} (h : k ∈ t.kids) : k ∈ subT t := by
 rw [Zd0]; exact List.mem_cons_of_mem _ (mem_subL.2 ⟨k,h,Zeh k⟩)
theorem Zfl {t k u : Tn} (h : k ∈ t.kids) (hu : u ∈ subT k) : u ∈ subT t := by
 rw [Zd0]; exact List.mem_cons_of_mem _ (mem_subL.2 ⟨k,h,hu⟩)
mutual
theorem Zdy : ∀ {t u v : Tn},u ∈ subT t → v ∈ subT u → v ∈ subT t
 | .mk nm no st data kids,u,v,hu,hv => by
  rw [subT] at hu ⊢
  rcases List.mem_cons.1 hu with rfl | hu
  ·rw [subT] at hv; exact hv
  ·exact List.mem_cons_of_mem _ (Zlf hu hv)
theorem Zlf : ∀ {l : List Tn} {u v : Tn},u ∈ subL l → v ∈ subT u → v ∈ subL l
 | [],u,v,hu,_ => by rw [subL] at hu; cases hu
 | k :: l,u,v,hu,hv => by
  rw [subL] at hu ⊢
  rcases List.mem_append.1 hu with hu | hu
  ·exact List.mem_append_left _ (Zdy hu hv)
  ·exact List.mem_append_right _ (Zlf hu hv)
end
theorem Zjf : ∀ {l : List Tn} {k : Tn},k ∈ l → 1 + hgtT k ≤ hgtL l
 | x :: l,k,h => by
  rw [hgtL]
  rcases List.mem_cons.1 h with rfl | h
  ·exact Nat.le_max_left _ _
  ·exact Nat.le_trans (Zjf h) (Nat.le_max_right _ _)
theorem Zer (t : Tn) : hgtT t = hgtL t.kids := by cases t; rw [hgtT]; rfl
def kidT (s : List UInt8) (l : List Tn) : Option Tn := l.find? fun k => decide (k.nm = s)
def Zcr (u : Tn) (s : List UInt8) : Except Int Tn :=
 if u.st.kind = 1 then match kidT s u.kids with
  | some k => .ok k
  | none => .error 7
 else .error 17
def goT : Tn → List (List UInt8) → Except Int Tn
 | t,[] => .ok t
 | t,s :: p => match Zcr t s with
  | .ok k => goT k p
  | .error e => .error e
theorem Zsd {s : List UInt8} {l : List Tn} {k : Tn} (h : kidT s l = some k) : k ∈ l ∧ k.nm = s :=
 ⟨List.mem_of_find?_eq_some h,by simpa using List.find?_some h⟩
theorem Zjg {u k : Tn} {s : List UInt8} (h : Zcr u s = .ok k) : u.st.kind = 1 ∧ k ∈ u.kids ∧ k.nm = s := by
 unfold Zcr at h
 split at h
 ·rename_i hk
  split at h
  ·rename_i x hx
   injection h with h
   subst h
   exact ⟨hk,Zsd hx⟩
  ·cases h
 ·cases h
theorem Zo5 {u : Tn} {s : List UInt8} {e : Int} (h : Zcr u s = .error e) : e = 7 ∨ e = 17 := by
 unfold Zcr at h
 split at h
 ·split at h
  ·cases h
  ·injection h with h; exact .inl h.symm
 ·injection h with h; exact .inr h.symm
theorem Zct : ∀ {p : List (List UInt8)} {t u : Tn},goT t p = .ok u → u ∈ subT t
 | [],t,u,h => by
  rw [goT] at h; injection h with h; subst h; exact Zeh t
 | s :: p,t,u,h => by
  rw [goT] at h
  cases hs : Zcr t s with
  | error e => rw [hs] at h; cases h
  | ok k => rw [hs] at h; exact Zfl (Zjg hs).2.1 (Zct h)
theorem Zjh : ∀ (p : List (List UInt8)) (t : Tn) (s : List UInt8),goT t (p ++ [s]) = match goT t p with | .ok u => Zcr u s | .error e => .error e
 | [],t,s => by
  show goT t [s] = Zcr t s
  rw [goT]
  cases Zcr t s <;> simp [goT]
 | x :: p,t,s => by
  rw [List.cons_append,goT,goT]
  cases Zcr t x with
  | error e => rfl
  | ok k => exact Zjh p k s
theorem Zvx : ∀ (p q : List (List UInt8)) (t : Tn),goT t (p ++ q) = match goT t p with | .ok u => goT u q | .error e => .error e
 | [],q,t => by rw [List.nil_append,goT]
 | x :: p,q,t => by
  rw [List.cons_append,goT,goT]
  cases Zcr t x with
  | error e => rfl
  | ok k => exact Zvx p q k

section
variable {n : Nat} {t : Tn}
theorem TreeOk.at_ (h : TreeOk n t) {u : Tn} (hu : u ∈ subT t) : Nt t u.no = some u.nd :=
 Zd8 h.nodup (List.mem_map.2 ⟨u,hu,rfl⟩)
theorem TreeOk.names (h : TreeOk n t) {u : Tn} (hu : u ∈ subT t) : NmOk u.names ∨ 512 < (wrD u.names).length := by
 by_cases hl : u.names.length ≤ 1024
 ·refine .inl ⟨hl,fun x hx => ?_⟩
  obtain ⟨k,hk,rfl⟩ := List.mem_map.1 hx
  have h1 := (h.node u hu).nmk k hk
  have hks : k ∈ subT t := by
   clear hx h1 hl
   exact Zdy hu (Zqs hk)
  have h2 := (h.node k hks).low
  have h3 := h.small
  have := h1.2.1
  exact ⟨show k.nm.length ≤ 64 by omega,h2.1,show k.no ≤ 1000000 by omega⟩
 ·refine .inr ?_
  have hge := Zjj (m := 7) (l := u.names.map Ze1) fun x hx => by
   obtain ⟨y,_,rfl⟩ := List.mem_map.1 hx
   exact Zkk y 6
  rw [wrD,dirM,Zbo]
  simp only [List.length_map,List.length_cons,List.length_append,List.length_nil] at hge ⊢
  omega
theorem TreeOk.rd (h : TreeOk n t) {u : Tn} (hu : u ∈ subT t) (hk : u.st.kind = 1) : NmOk u.names ∧ rdD u.nd.data = u.names := by
 have hok : NmOk u.names := (h.names hu).resolve_right (by have := ((h.node u hu).dir hk).2; omega)
 refine ⟨hok,?_⟩
 show rdD (if u.st.kind = 1 then wrD u.names else u.data) = _
 rw [if_pos hk]
 exact Zvf hok.2
theorem TreeOk.len (h : TreeOk n t) {u : Tn} (hu : u ∈ subT t) : u.nd.data.length ≤ 512 := by
 show (if u.st.kind = 1 then wrD u.names else u.data).length ≤ 512
 by_cases hk : u.st.kind = 1
 ·rw [if_pos hk]; exact ((h.node u hu).dir hk).2
 ·rw [if_neg hk]; exact ((h.node u hu).leaf hk).2
def Zvv (N : Int → Option Nd) (nd : Nd) (s : List UInt8) : Except Int (Int × Nd) :=
 if nd.st.kind = 1 then match (rdD nd.data).find? (fun x => decide (x.1 = s)) with
  | some x => match N x.2 with
   | some y => .ok (x.2,y)
   | none => .error 0
  | none => .error 7
 else .error 17
theorem Zlr (u : Tn) (s : List UInt8) : (u.names.find? fun x => decide (x.1 = s)) = (kidT s u.kids).map fun k => (k.nm,k.no) := by
 unfold Tn.names kidT
 rw [List.find?_map]; rfl
theorem TreeOk.into (h : TreeOk n t) {u : Tn} (hu : u ∈ subT t) (s : List UInt8) : Zvv (Nt t) u.nd s = match Zcr u s with
  | .ok k => .ok (k.no,k.nd)
  | .error e => .error e := by
 unfold Zvv Zcr
 rw [show u.nd.st = u.st from rfl]
 by_cases hk : u.st.kind = 1
 ·rw [if_pos hk,if_pos hk,(h.rd hu hk).2,Zlr]
  cases hq : kidT s u.kids with
  | none => rfl
  | some k =>
   have := h.at_ (Zdy hu (Zqs (Zsd hq).1))
   simp only [Option.map_some,this]
 ·rw [if_neg hk,if_neg hk]
end
end Cr
namespace Cr
open Go Go.Proofs
set_option maxRecDepth 100000
set_option maxHeartbeats 8000000
attribute [local irreducible] Calls

abbrev plV (no : Int) (nd : Nd) (a : Option Addr) (q : Nat) : List Value := [.int .i64 no,.int .i64 nd.st.kind,.int .i64 nd.st.mode,.int .i64 nd.st.owner,.int .i64 nd.st.group,.slice a nd.data.length q]
abbrev pl0 : List Value := [.int .i64 0,.int .i64 0,.int .i64 0,.int .i64 0,.int .i64 0,.slice none 0 0]
theorem Zr5 (no : Int) (nd : Nd) (a : Option Addr) (q : Nat) (W : World) (hb : Rd W (bytes a nd.data)) (hq : nd.data.length ≤ q) (hl : nd.data.length ≤ 512) (hG : Lg W noF) :
  Calls Tryz.prog 105 #[.agg (List.toArray [.int .i64 no,.int .i64 nd.st.kind,.int .i64 nd.st.mode,.int .i64 nd.st.owner,.int .i64 nd.st.group,.slice a nd.data.length q])] W (Ret fun v w =>
   (nd.st.kind = 1 ∧ ∃ b c,v = .tuple #[.slice b (rdD nd.data).length c,.int .i64 0] ∧ St W noF [own 281 2 b c (nmV (rdD nd.data))] w) ∨ (nd.st.kind ≠ 1 ∧ v = .tuple #[.slice none 0 0,.int .i64 17] ∧ St W noF [] w)) := by
 have hS := St.start W
 have hbo := hb.ro
 by_cases hk : nd.st.kind = 1
 ·refine Zab Tryz.func105 rfl Tryz.ntmps105 rfl ?_
  repeat (first|refine Yd7 ?_|(refine X_id ?_;first|refine Yag ?_|refine Yan ?_|refine Ybz ?_|refine Yba ?_|refine Yap ?_|refine Ya9 (fun _ _ hS _ => ?_))|refine Yei ?_|refine Yab ?_)
  refine Zaa _ rfl rfl rfl rfl rfl (Zzm a nd.data q _ (hbo.rd hS).ro hq hl (hG.at_ hS)) ?_
  rintro _ w ⟨b,c,rfl,hS'⟩
  replace hS := hS.plus hS'
  clear hS'
  repeat (first|refine Yd7 ?_|refine Yag ?_|refine Yah ?_|refine Yev ?_)
  exact .inl ⟨hk,b,c,rfl,hS.took⟩
 ·refine Zab Tryz.func105 rfl Tryz.ntmps105 rfl ?_
  repeat (first|refine Yd7 ?_|(refine X_id ?_;first|refine Yag ?_|refine Yan ?_|refine Ybz ?_|refine Ybl ?_|refine Yap ?_|refine Ya9 (fun _ _ hS _ => ?_))|refine Yeo ?_|refine Yab ?_|refine Yaq ?_|refine Ybo ?_)
  exact .inr ⟨hk,rfl,hS.drops⟩
def Z4p (X : List RowD) (r : Except Int (Int × Nd)) (v : Value) : Prop := match r with
 | .error e => v = .tuple #[.agg (List.toArray pl0),.int .i64 e] ∧ e ≠ 0
 | .ok x => ∃ a q,v = .tuple #[.agg (List.toArray (plV x.1 x.2 a q)),.int .i64 0] ∧ x.2.data.length ≤ q ∧ RX X a (bv x.2.data)
theorem Zqm (b : List UInt8) : 2 * (rdD b).length ≤ b.length := by
 unfold rdD
 cases h : decM b with
 | none => simp
 | some v =>
  have h1 := Zma h
  have h2 := List.length_filterMap_le Zfy v.lst
  simp only [rdV]; omega
theorem Rd.rd {w : World} {r : Res} {W : World} {F : Nat → Prop} {rs : List Res} (H : Rd w r) (_ : St W F rs w) : Rd w r := H
theorem Zhs {s : List UInt8} : ∀ {l : List Nm},(ixN s l < 0 ∧ l.find? (fun x => decide (x.1 = s)) = none) ∨ ∃ (k : Nat) (x : Nm),ixN s l = k ∧ l[k]? = some x ∧ l.find? (fun x => decide (x.1 = s)) = some x
 | [] => .inl ⟨by simp [ixN],rfl⟩
 | y :: l => by
  unfold ixN
  by_cases h : y.1 = s
  ·exact .inr ⟨0,y,by rw [if_pos h]; rfl,rfl,by simp [h]⟩
  ·rw [if_neg h]
   rcases Zhs (s := s) (l := l) with ⟨h1,h2⟩ | ⟨k,x,h1,h2,h3⟩
   ·exact .inl ⟨by rw [if_pos h1]; decide,by simp [h,h2]⟩
   ·exact .inr ⟨k + 1,x,by rw [h1,if_neg (by omega)]; omega,by simpa using h2,by simp [h,h3]⟩
section
variable {c f tp n : Nat} {b : Int} {T N : Int → Option Nd} {X : List RowD}
theorem Z3k (no : Int) (nd : Nd) (a : Option Addr) (q : Nat) (s : List UInt8) (W : World) (F : Nat → Prop) (hT : TreeRo W F f tp n b T) (hG : Lg W F) (ha : RX X a (bv nd.data)) (hq : nd.data.length ≤ q) (hl : nd.data.length ≤ 512) (hN : Zvv N nd s ≠ .error 0) (hS : St W F [chR c f b T N X] W) :
  Calls Tryz.prog 104 #[.pointer (some ⟨c,0,none⟩),.agg (List.toArray [.int .i64 no,.int .i64 nd.st.kind,.int .i64 nd.st.mode,.int .i64 nd.st.owner,.int .i64 nd.st.group,.slice a nd.data.length q]),.string (str s)] W (Ret fun v w => ∃ X',(∀ x ∈ X,x ∈ X') ∧ St W F [chR c f b T N X'] w ∧ Z4p X' (Zvv N nd s) v) := by
 unfold Zvv at hN ⊢
 refine Zab Tryz.func104 rfl Tryz.ntmps104 rfl ?_
 repeat (first|refine Yd7 ?_|refine Yag ?_|refine Ybg ?_|refine Ya9 (fun _ _ hS _ => ?_)|refine Yar (fun _ _ hS _ => ?_)|refine Yd8 ?_|refine Yab ?_)
 refine Zaa _ rfl rfl rfl rfl rfl (Zr5 no nd a q _ (ha.rd (hS.rd (r := chR c f b T N X) (by simp)).ch) hq hl (hG.at_ hS)) ?_
 rintro _ w (⟨hk,nb,nc,rfl,hS'⟩ | ⟨hk,rfl,hS'⟩)
 ·replace hS := hS.plus hS'
  clear hS'
  rw [if_pos hk] at hN ⊢
  have hlen := Zqm nd.data
  repeat (first|refine Yd7 ?_|refine Yfb ?_|refine Yei ?_|refine Yab ?_)
  refine Zaa _ rfl rfl rfl rfl rfl (Z3u nb (rdD nd.data) nc s _ (hS.rd (r := own 281 2 nb nc (nmV (rdD nd.data))) (by simp)).own_row (by omega)) ?_
  rintro _ w ⟨rfl,hS'⟩
  replace hS := hS.plus hS'
  clear hS'
  rcases Zhs (s := s) (l := rdD nd.data) with ⟨h1,h2⟩ | ⟨k,x,h1,h2,h3⟩
  ·rw [h2]
   repeat (first|refine Yd7 ?_|(refine X_id ?_;first|refine Yaf ?_|refine Yag ?_|refine Ya1 ?_|refine Ybn ?_|refine Yao (fun _ hS _ => ?_))|refine Yeo ?_|refine Yab ?_|refine Yaq ?_|refine Yby ?_)
   exact ⟨X,fun _ h => h,hS.took,rfl,by decide⟩
  ·rw [h1]
   rw [h3] at hN ⊢
   simp only at hN ⊢
   cases hNx : N x.2 with
   | none => rw [hNx] at hN; exact absurd rfl hN
   | some y =>
    have hkl := (List.getElem?_eq_some_iff.1 h2).1
    have hx : (nmV (rdD nd.data))[k * 2 + 1]? = some (.int .i64 x.2) := by
     have := congrArg (fun l => l[1]?) (Zho h2)
     simpa [List.getElem?_take,List.getElem?_drop,nmC] using this
    obtain ⟨xb,xo,rfl⟩ := ((hS.rd (r := own 281 2 nb nc (nmV (rdD nd.data))) (by simp)).own_row).base (by intro e; rw [e] at hx; simp at hx)
    have hr := (hS.rd (r := own 281 2 (some ⟨xb,xo,none⟩) nc (nmV (rdD nd.data))) (by simp)).own_row
    repeat (first|refine Yd7 ?_|(refine X_id ?_;first|refine Yaf ?_|refine Yag ?_|refine Ybz ?_|refine Ya3 ?_|refine Ybb ?_|refine X_yl (Zat rfl rfl ((hr.rd hS).cellF (by first|omega|(dsimp only;omega)) hx)) rfl rfl ?_)|refine Yei ?_|refine Yab ?_)
    clear hr
    obtain ⟨_,hc,_,hw,hbk⟩ := hS.call [false,false,false,true]
    refine Zaa _ rfl rfl rfl rfl rfl (Z1e x.2 _ _ (hT.mono hw) hc) ?_
    rintro v w ⟨X',hX',hS,y',a',q',rfl,hy⟩
    replace hS := hbk hS
    clear hbk hw hc
    obtain ⟨rfl,hq',hrow⟩ := hy y hNx
    rw [hNx]
    simp only [Option.isSome_some]
    repeat (first|refine Yd7 ?_|refine Ye3 ?_|refine Yao (fun _ hS _ => ?_)|refine Yar (fun _ _ hS _ => ?_)|refine Yae ?_|refine Yab ?_)
    refine Zao (.s 0 (.s 1 (.s 2 (.s 3 (.s 4 (.s 5 (.s 6 (.h 7 (.s 8 .nil) .no)))))))) mixed (by kernel_rfl) rfl ?_
    have hS := hS.drew
    have hr := (hS.rd (r := own 281 2 (some ⟨xb,xo,none⟩) nc (nmV (rdD nd.data))) (by simp)).own_row
    repeat (first|refine Yao (fun _ hS _ => ?_)|refine Yah ?_|refine Yab ?_|refine Yby ?_|(refine Zad ?_;first|refine Yaz ?_|refine Ya2 ?_|refine Ybk ?_|refine Ydd ?_|refine Yca ?_|refine Yb3 ?_|refine Yb0 ?_|refine Yau ?_|refine Zba (fun w' => w'.cell? _ = some _) rfl rfl ((hr.rd hS).cellF (by first|omega|(dsimp only;omega)) hx) (fun _ hc => Zat rfl rfl hc) rfl rfl ?_)|(refine Zac ?_;first|refine Ydf ?_))
    exact ⟨X',hX',hS.took,a',q',rfl,hq',hrow⟩
 ·replace hS := hS.plus hS'
  clear hS'
  rw [if_neg hk]
  repeat (first|refine Yd7 ?_|refine Yfi ?_|refine Yao (fun _ hS _ => ?_)|refine Yeo ?_|refine Yab ?_|refine Yaq ?_|refine Yby ?_)
  exact ⟨X,fun _ h => h,hS.took,rfl,by decide⟩
end
end Cr
namespace Cr
open Go Go.Proofs
set_option maxRecDepth 100000
set_option maxHeartbeats 8000000
attribute [local irreducible] Calls

def goR (t : Tn) (p : List (List UInt8)) : Except Int (Int × Nd) :=
 if Zb6 p then match goT t p with
  | .ok u => .ok (u.no,u.nd)
  | .error e => .error e
 else .error 10
section
variable {c f tp n : Nat} {b : Int} {T : Int → Option Nd} {t : Tn} {X : List RowD}
theorem top_ (ht : TreeOk n t) (W : World) (F : Nat → Prop) (hT : TreeRo W F f tp n b T) (hS : St W F [chR c f b T (Nt t) X] W) :
  Calls Tryz.prog 124 #[.pointer (some ⟨c,0,none⟩)] W (Ret fun v w => ∃ X',(∀ x ∈ X,x ∈ X') ∧ St W F [chR c f b T (Nt t) X'] w ∧ ∃ a q,v = .agg (List.toArray (plV 0 t.nd a q)) ∧ t.nd.data.length ≤ q ∧ RX X' a (bv t.nd.data)) := by
 have h0 : Nt t 0 = some t.nd := by have := ht.at_ (Zeh t); rwa [ht.root.1] at this
 refine Zab Tryz.func124 rfl Tryz.ntmps124 rfl ?_
 repeat (first|refine Yd7 ?_|refine Yaf ?_|refine Yar (fun _ _ hS _ => ?_)|refine Yd8 ?_|refine Yab ?_)
 obtain ⟨_,hc,_,hw,hbk⟩ := hS.call [false,true]
 refine Zaa _ rfl rfl rfl rfl rfl (Z1e 0 _ _ (hT.mono hw) hc) ?_
 rintro v w ⟨X',hX',hS,y',a',q',rfl,hy⟩
 replace hS := hbk hS
 clear hbk hw hc
 obtain ⟨rfl,hq',hrow⟩ := hy _ h0
 rw [h0]
 simp only [Option.isSome_some]
 repeat (first|refine Yd7 ?_|(refine X_id ?_;first|refine Yaf ?_|refine Yag ?_|refine Yay ?_|refine Ybn ?_|refine Ybg ?_|refine Yao (fun _ hS _ => ?_)|refine Yar (fun _ _ hS _ => ?_))|refine Yek ?_|refine Yab ?_|refine Ybv ?_)
 exact ⟨X',hX',hS.took,a',q',rfl,hq',hrow⟩
theorem Zyu (ht : TreeOk n t) (pa : Option Addr) (p : List (List UInt8)) (pc : Nat) (W : World) (F : Nat → Prop) (hT : TreeRo W F f tp n b T) (hG : Lg W F) (hp : Ro W F (row pa (strV p))) (hpl : p.length ≤ 1048576) (hS : St W F [chR c f b T (Nt t) X] W) :
  Calls Tryz.prog 74 #[.pointer (some ⟨c,0,none⟩),.slice pa p.length pc] W (Ret fun v w => ∃ X',(∀ x ∈ X,x ∈ X') ∧ St W F [chR c f b T (Nt t) X'] w ∧ Z4p X' (goR t p) v) := by
 unfold goR
 have hR := fun W h => Zvi pa p pc W h hpl
 by_cases hr : Zb6 p
 case neg =>
  rw [if_neg hr]
  simp only [decide_eq_false hr] at hR
  refine Zab Tryz.func74 rfl Tryz.ntmps74 rfl ?_
  repeat (first|refine Yd7 ?_|(refine X_id ?_;first|(refine Zae 123 rfl rfl rfl rfl rfl hS (hR _ (hp.rd hS)) ?_;rintro _ _ rfl hS)|refine Yaf ?_|refine Yag ?_|refine Ybr ?_|refine Ybn ?_|refine Ybq ?_|refine Yao (fun _ hS _ => ?_)|refine Yar (fun _ _ hS _ => ?_))|refine Yfc ?_|refine Yab ?_|refine Yaq ?_|refine Yby ?_)
  exact ⟨X,fun _ h => h,hS.took,rfl,by decide⟩
 rw [if_pos hr]
 simp only [decide_eq_true hr] at hR
 clear hr
 refine Zab Tryz.func74 rfl Tryz.ntmps74 rfl ?_
 repeat (first|refine Yd7 ?_|(refine X_id ?_;first|(refine Zae 123 rfl rfl rfl rfl rfl hS (hR _ (hp.rd hS)) ?_;rintro _ _ rfl hS)|refine Yaf ?_|refine Yag ?_|refine Ybc ?_|refine Ybq ?_|refine Yar (fun _ _ hS _ => ?_))|refine Yei ?_|refine Yab ?_)
 rename_i b4 _ _ _ _
 obtain ⟨_,hc,_,hw,hbk⟩ := hS.call [false,true]
 refine Zaa _ rfl rfl rfl rfl rfl (top_ ht _ _ (hT.mono hw) hc) ?_
 rintro v w ⟨X',hX',hS,a,q,rfl,hq,hrow⟩
 replace hS := hbk hS
 clear hbk hw hc
 repeat (first|refine Yd7 ?_|refine Yaf ?_|refine Yas ?_|refine Yao (fun _ hS _ => ?_)|refine Yar (fun _ _ hS _ => ?_)|refine Yea ?_|refine Yab ?_)
 rename_i b6 _ _ _ _ _
 have hS : St W F [chR c f b T (Nt t) X',pts b6 (.cells (List.toArray (plV 0 t.nd a q)) 153 (0,0)),pts b4 (.cells (List.toArray pl0) 153 (0,0))] _ := hS.took
 refine Zal (α := Nat) (fun i => [(0,.pointer (some ⟨c,0,none⟩)),(4,.pointer (some ⟨b4,0,none⟩)),(6,.pointer (some ⟨b6,0,none⟩)),(20,.slice pa p.length pc),(21,.int .i64 (p.length : Nat)),(22,.int .i64 (i : Nat))])
  (fun i w => i ≤ p.length ∧ ∃ u a q X',goT t (p.take i) = .ok u ∧ (∀ x ∈ X,x ∈ X') ∧ u.nd.data.length ≤ q ∧ RX X' a (bv u.nd.data) ∧ St W F [chR c f b T (Nt t) X',pts b6 (.cells (List.toArray (plV u.no u.nd a q)) 153 (0,0)),pts b4 (.cells (List.toArray pl0) 153 (0,0))] w)
  (fun i => p.length - i) 0 ⟨rfl,rfl,rfl,rfl,rfl,rfl,trivial⟩ ⟨Nat.zero_le _,t,a,q,X',by rw [List.take_zero,goT],hX',hq,hrow,by rw [ht.root.1]; exact hS⟩ ?_
 clear hS hrow hq hX'
 rintro i w ⟨hi,u,a,q,X',hgo,hX',hq,hrow,hS2⟩
 have hu := Zct hgo
 by_cases hlt : i < p.length
 ·have hx0 : p[i]? = some p[i] := List.getElem?_eq_getElem (by omega)
  have htk : p.take (i + 1) = p.take i ++ [p[i]] := List.take_succ_eq_append_getElem hlt
  generalize p[i] = s at hx0 htk
  have hr := hp
  have hx := Zms hx0
  obtain ⟨xb,xo,rfl⟩ := (hr.rd hS2).base (by intro e; rw [e] at hx; simp at hx)
  have hS := hS2
  repeat (first|refine Yd7 ?_|(refine X_id ?_;first|refine Yaf ?_|refine Yag ?_|refine Ya1 ?_|refine Ybb ?_|refine Ybg ?_|refine Ybw ?_)|refine Yeb ?_|refine Yab ?_)
  obtain ⟨_,hc,_,hw,hbk⟩ := hS.call [true,false,false]
  have hin := ht.into hu s
  refine Zaa _ rfl rfl rfl rfl rfl (Z3k u.no u.nd a q s _ _ (hT.mono hw) (hG.mono hw) hrow hq (ht.len hu) (by rw [hin]; cases hg : Zcr u s with | ok k => simp | error e => rcases Zo5 hg with rfl | rfl <;> simp) hc) ?_
  rintro v w ⟨X2,hX2,hS,hv⟩
  replace hS := hbk hS
  clear hbk hw hc
  rw [hin] at hv
  cases hg : Zcr u s with
  | error e =>
   rw [hg] at hv
   obtain ⟨rfl,he⟩ := hv
   have hres : goT t p = .error e := by
    rw [← List.take_append_drop (i + 1) p,htk,Zvx,Zjh,hgo]; simp only [hg]
   rw [hres]
   repeat (first|refine Yd7 ?_|refine Yfi ?_|refine Yao (fun _ hS _ => ?_)|refine Yar (fun _ _ hS _ => ?_)|refine Yeo ?_|refine Yab ?_|refine Yaq ?_|refine Ya8 ?_|refine Yby ?_)
   exact ⟨X2,fun x hx => hX2 x (hX' x hx),hS.took,rfl,he⟩
  | ok k =>
   rw [hg] at hv
   obtain ⟨a',q',rfl,hq',hrow'⟩ := hv
   repeat (first|refine Yd7 ?_|(refine X_id ?_;first|refine Yaf ?_|refine Yag ?_|refine Yay ?_|refine Yba ?_|refine Yax ?_|refine Ybg ?_|refine Yao (fun _ hS _ => ?_)|refine Yar (fun _ _ hS _ => ?_))|refine Yei ?_|refine Yef ?_)
   refine Zag (i + 1) ⟨rfl,rfl,rfl,rfl,rfl,rfl,trivial⟩ ⟨hlt,k,a',q',X2,by rw [htk,Zjh,hgo]; exact hg,fun x hx => hX2 x (hX' x hx),hq',hrow',?_⟩ (by omega)
   exact hS.took
 ·obtain rfl : i = p.length := by omega
  have hS := hS2
  rw [List.take_length] at hgo
  rw [hgo]
  repeat (first|refine Yd7 ?_|refine Yag ?_|refine Ya3 ?_|refine Ybg ?_|refine Yao (fun _ hS _ => ?_)|refine Yeg ?_|refine Yab ?_|refine Ya6 ?_|refine Ya7 ?_|refine Yby ?_)
  exact ⟨X',hX',hS.took,a,q,rfl,hq,hrow⟩
def shN (nd : Nd) : Nd := ⟨nd.st,if nd.st.kind = 1 then [] else nd.data⟩
theorem Z2r (nd : Nd) (a : Option Addr) (q : Nat) (W : World) (hb : Rd W (bytes a nd.data)) (hl : nd.data.length ≤ 512) :
  Calls Tryz.prog 75 #[.agg (List.toArray [.int .i64 nd.st.kind,.int .i64 nd.st.mode,.int .i64 nd.st.owner,.int .i64 nd.st.group,.slice a nd.data.length q])] W (Ret fun v w => ∃ a' q',v = .agg (ndV (shN nd) a' q').toArray ∧ (shN nd).data.length ≤ q' ∧ St W noF [own 5 1 a' q' (bv (shN nd).data)] w) := by
 have hbo := hb.ro
 have hS := St.start W
 unfold shN
 by_cases hk : nd.st.kind = 1
 ·rw [if_pos hk]
  refine Zab Tryz.func75 rfl Tryz.ntmps75 rfl ?_
  repeat (first|refine Yd7 ?_|(refine X_id ?_;first|refine Yan ?_|refine Ybh ?_|refine Ybn ?_|refine Yap ?_|refine Ybg ?_|refine Yao (fun _ hS _ => ?_)|refine Ya9 (fun _ _ hS _ => ?_)|refine Yar (fun _ _ hS _ => ?_))|refine Yeo ?_|refine Yab ?_|refine Yaq ?_|refine Ybv ?_)
  exact ⟨none,0,rfl,Nat.le_refl _,(hS.took (out := [])).own_none _ _ _⟩
 ·rw [if_neg hk]
  refine Zab Tryz.func75 rfl Tryz.ntmps75 rfl ?_
  repeat (first|refine Yd7 ?_|(refine X_id ?_;first|refine Yan ?_|refine Ybi ?_|refine Yap ?_|refine Ya9 (fun _ _ hS _ => ?_)|refine Yar (fun _ _ hS _ => ?_))|refine Yei ?_|refine Yab ?_)
  refine Zao (.s 0 (.s 1 (.s 2 (.s 3 (.h 4 (.s 5 (.h 6 .nil .no)) .no))))) mixed (by kernel_rfl) rfl ?_
  have hS := hS.drew
  repeat (first|(refine Zad ?_;first|refine Ybe ?_|refine Ybm ?_|refine Yb0 ?_|refine Yau ?_))
  refine Zaa _ rfl rfl rfl rfl rfl (Zdj a nd.data.length q nd.data _ (hbo.rd hS) rfl (by omega)) ?_
  rintro _ w ⟨a',q',rfl,_,hqq,hS'⟩
  replace hS := hS.plus hS'
  clear hS'
  repeat (first|refine Yao (fun _ hS _ => ?_)|refine Yah ?_|refine Yab ?_|refine Ybv ?_|(refine Zad ?_;first|refine Yaz ?_|refine Yca ?_|refine Yau ?_)|(refine Zac ?_;first|refine Ya0 ?_))
  exact ⟨a',q',rfl,hqq,hS.took⟩
end
end Cr
namespace Cr
open Go Go.Proofs
set_option maxRecDepth 100000
set_option maxHeartbeats 8000000
attribute [local irreducible] Calls

theorem Zqq (l : List Nm) : ∀ u ∈ nmV l,u.oneCell' = true := fun u hu => by
 obtain ⟨x,_,hx⟩ := List.mem_flatMap.1 hu
 simp only [nmC,List.mem_cons,List.not_mem_nil,or_false] at hx
 rcases hx with rfl | rfl <;> rfl
theorem Zxx (l : List (List UInt8)) : ∀ u ∈ strV l,u.oneCell' = true := fun u hu => by
 obtain ⟨x,_,rfl⟩ := List.mem_map.1 hu; rfl
theorem Zvm (a : Option Addr) (l : List Nm) (c : Nat) (W : World) (hs : Rd W (row a (nmV l))) (hlim : l.length ≤ 1048576) :
  Calls Tryz.prog 164 #[.slice a l.length c] W (Ret fun v w => ∃ a' c',v = .slice a' l.length c' ∧ l.length ≤ c' ∧ St W noF [own 281 2 a' c' (nmV l)] w) := by
 have hS := St.start W
 cases a with
 | none =>
  have h0 : nmV l = [] := hs.none_nil
  obtain rfl : l = [] := by
   have := Zgy l
   rw [h0] at this
   exact List.eq_nil_of_length_eq_zero (by simp at this; omega)
  refine Zab Tryz.func164 rfl Tryz.ntmps164 rfl ?_
  repeat (first|refine Yd7 ?_|refine Yaf ?_|refine Yag ?_|refine Ycr ?_|refine Yeo ?_|refine Yep ?_)
  exact ⟨none,0,rfl,Nat.le_refl _,hS.own_none _ _ _⟩
 | some ad =>
  refine Zab Tryz.func164 rfl Tryz.ntmps164 rfl ?_
  repeat (first|refine Yd7 ?_|refine Yaf ?_|refine Yag ?_|refine Ycr ?_|refine Ybf (fun _ _ hS _ => ?_)|refine Yei ?_|refine Yab ?_)
  rename_i b w hb
  have hs := hs.below hb
  refine Zas rfl rfl rfl rfl rfl hS rfl (by omega) hs (Zgy l) (Zqq l) (by omega) (by simp only [maxLen]; omega) (fun a' c' w hS hc hnil => ?_)
  repeat (first|refine Yd7 ?_|refine Yag ?_|refine Yah ?_|refine Yd9 ?_)
  exact ⟨a',c',by rw [Nat.zero_add],by omega,hS⟩
theorem Zqe (a : Option Addr) (l : List (List UInt8)) (c : Nat) (W : World) (hs : Rd W (row a (strV l))) (hlim : l.length ≤ 1048576) :
  Calls Tryz.prog 154 #[.slice a l.length c] W (Ret fun v w => ∃ a' c',v = .slice a' l.length c' ∧ l.length ≤ c' ∧ St W noF [own 9 1 a' c' (strV l)] w) := by
 have hS := St.start W
 cases a with
 | none =>
  have h0 : strV l = [] := hs.none_nil
  obtain rfl : l = [] := List.map_eq_nil_iff.1 h0
  refine Zab Tryz.func154 rfl Tryz.ntmps154 rfl ?_
  repeat (first|refine Yd7 ?_|refine Yaf ?_|refine Yag ?_|refine Ycr ?_|refine Yeo ?_|refine Yep ?_)
  exact ⟨none,0,rfl,Nat.le_refl _,hS.own_none _ _ _⟩
 | some ad =>
  refine Zab Tryz.func154 rfl Tryz.ntmps154 rfl ?_
  repeat (first|refine Yd7 ?_|refine Yaf ?_|refine Yag ?_|refine Ycr ?_|refine Ybf (fun _ _ hS _ => ?_)|refine Yei ?_|refine Yab ?_)
  rename_i b w hb
  have hs := hs.below hb
  refine Zas rfl rfl rfl rfl rfl hS rfl (by omega) hs (by rw [Zef,Nat.mul_one]) (Zxx l) (by omega) (by simp only [maxLen]; omega) (fun a' c' w hS hc hnil => ?_)
  repeat (first|refine Yd7 ?_|refine Yag ?_|refine Yah ?_|refine Yd9 ?_)
  exact ⟨a',c',by rw [Nat.zero_add],by omega,hS⟩
theorem Zzp (pa : Option Addr) (p : List (List UInt8)) (pc : Nat) (W : World) (hp : Rd W (row pa (strV p))) (hpc : p.length ≤ pc) (hpl : p.length ≤ 1048576) :
  Calls Tryz.prog 96 #[.slice pa p.length pc] W (Ret fun v w => (Zb6 p ∧ ∃ q s a' c',p = q ++ [s] ∧ v = .tuple #[.slice a' q.length c',.string (str s),.int .i64 0] ∧ q.length ≤ c' ∧ St W noF [own 9 1 a' c' (strV q)] w) ∨
   ((¬ Zb6 p ∨ p = []) ∧ v = .tuple #[.slice none 0 0,.string (str []),.int .i64 10] ∧ St W noF [] w)) := by
 have hS := St.start W
 have hR := fun W h => Zvi pa p pc W h hpl
 have hp' := hp.ro
 by_cases hr : Zb6 p
 case neg =>
  simp only [decide_eq_false hr] at hR
  refine Zab Tryz.func96 rfl Tryz.ntmps96 rfl ?_
  repeat (first|refine Yeq ?_|(refine X_id ?_;first|(refine Zae 123 rfl rfl rfl rfl rfl hS (hR _ (hp'.rd hS)) ?_;rintro _ _ rfl hS)|refine Yaf ?_|refine Yag ?_|refine Ybd ?_|refine Ybr ?_)|refine Yeo ?_|refine Yab ?_|refine Yaq ?_|refine Ydq ?_)
  exact .inr ⟨.inl hr,rfl,hS⟩
 simp only [decide_eq_true hr] at hR
 rcases List.eq_nil_or_concat p with rfl | ⟨q,s,rfl⟩
 ·refine Zab Tryz.func96 rfl Tryz.ntmps96 rfl ?_
  repeat (first|refine Yen ?_|(refine X_id ?_;first|(refine Zae 123 rfl rfl rfl rfl rfl hS (hR _ (hp'.rd hS)) ?_;rintro _ _ rfl hS)|refine Yaf ?_|refine Yag ?_|refine Ya4 ?_|refine Ybc ?_|refine Yas ?_|refine Yco ?_)|refine Yeo ?_|refine Yab ?_|refine Yaq ?_|refine Ydq ?_)
  exact .inr ⟨.inr rfl,rfl,hS⟩
 ·have hlen : (q ++ [s]).length = q.length + 1 := by simp
  have hx : (strV (q ++ [s]))[q.length]? = some (.string (str s)) := Zms (by simp)
  obtain ⟨xb,xo,rfl⟩ := hp.base (by simp [strV])
  have hr := hp'
  simp only [List.concat_eq_append,hlen] at *
  refine Zab Tryz.func96 rfl Tryz.ntmps96 rfl ?_
  repeat (first|refine Yen ?_|(refine X_id ?_;first|(refine Zae 123 rfl rfl rfl rfl rfl hS (hR _ (hp'.rd hS)) ?_;rintro _ _ rfl hS)|refine Yaf ?_|refine Yag ?_|refine Ya4 ?_|refine Ybc ?_|refine Yas ?_|refine Ybi ?_|refine Yb1 ?_)|refine Yei ?_|refine Yab ?_)
  refine Zao (.s 0 (.s 1 (.s 2 (.s 3 (.s 5 (.s 6 (.s 7 (.s 8 (.h 4 (.s 9 (.s 10 (.s 11 .nil))) .no))))))))) mixed (by kernel_rfl) rfl ?_
  have hS := hS.drew
  repeat (first|(refine Zad ?_;first|refine Ya2 ?_))
  refine Zak rfl rfl (fun _ => Zkv (l := 0) (h := q.length) (k := q.length) rfl rfl rfl rfl rfl ⟨_,_,rfl,by omega,by omega,by omega⟩ ⟨_,_,rfl,by omega,by omega,by omega⟩ (.inl ⟨rfl,rfl⟩)) rfl rfl ?_
  simp only [Nat.sub_zero]
  repeat (first|(refine Zad ?_;first|refine Ya2 ?_|refine Yb3 ?_|refine Ydw ?_|refine Yau ?_))
  have hsub : Ro W noF (row (Cr.sub (some ⟨xb,xo,none⟩) 0 1 q.length) (strV q)) := by
   have := hp'.sub (l := 0) (h := q.length) (e := 1) (c := q.length) (Nat.le_refl _) (Nat.zero_le _)
   rwa [Nat.zero_mul,List.drop_zero,Nat.sub_zero,Nat.mul_one,show (strV (q ++ [s])).take q.length = strV q by
    rw [show strV (q ++ [s]) = strV q ++ [.string (str s)] by simp [strV],List.take_append_of_le_length (Nat.le_of_eq (Zef q).symm),List.take_of_length_le (Nat.le_of_eq (Zef q))]] at this
  refine Zaa _ rfl rfl rfl rfl rfl (Zqe _ q _ _ (hsub.rd hS) (by omega)) ?_
  rintro _ w ⟨a',c',rfl,hc',hS'⟩
  replace hS := hS.plus hS'
  clear hS'
  repeat (first|refine Yah ?_|refine Yab ?_|refine Ydq ?_|(refine Zad ?_;first|refine Ye6 ?_)|(refine Zac ?_;first|refine Ya0 ?_))
  exact .inl ⟨by assumption,q,s,a',c',rfl,rfl,hc',hS.took⟩
section
variable {c f tp n : Nat} {b : Int} {T : Int → Option Nd} {t : Tn} {X : List RowD}
def getR (t : Tn) (p : List (List UInt8)) : Except Int Nd := match goR t p with
 | .ok x => .ok (shN x.2)
 | .error e => .error e
def Z4s (X : List RowD) (r : Except Int Nd) (v : Value) : Prop := match r with
 | .error e => v = .tuple #[nd0,.int .i64 e] ∧ e ≠ 0
 | .ok x => ∃ a q,v = .tuple #[.agg (ndV x a q).toArray,.int .i64 0] ∧ x.data.length ≤ q ∧ RX X a (bv x.data)
theorem get_ (ht : TreeOk n t) (pa : Option Addr) (p : List (List UInt8)) (pc : Nat) (W : World) (F : Nat → Prop) (hT : TreeRo W F f tp n b T) (hG : Lg W F) (hp : Ro W F (row pa (strV p))) (hpl : p.length ≤ 1048576) (hS : St W F [chR c f b T (Nt t) X] W) :
  Calls Tryz.prog 34 #[.pointer (some ⟨c,0,none⟩),.slice pa p.length pc] W (Ret fun v w => ∃ X',(∀ x ∈ X,x ∈ X') ∧ St W F [chR c f b T (Nt t) X'] w ∧ Z4s X' (getR t p) v) := by
 unfold getR
 refine Zab Tryz.func34 rfl Tryz.ntmps34 rfl ?_
 repeat (first|refine Yd7 ?_|refine Yel ?_|refine Yar (fun _ _ hS _ => ?_)|refine Yd8 ?_|refine Yab ?_)
 obtain ⟨_,hc,_,hw,hbk⟩ := hS.call [false,true]
 refine Zaa _ rfl rfl rfl rfl rfl (Zyu ht pa p pc _ _ (hT.mono hw) (hG.mono hw) (hw _ hp) hpl hc) ?_
 rintro v w ⟨X',hX',hS,hv⟩
 replace hS := hbk hS
 clear hbk hw hc
 cases hg : goR t p with
 | error e =>
  rw [hg] at hv
  obtain ⟨rfl,he⟩ := hv
  repeat (first|refine Yd7 ?_|refine Yfi ?_|refine Yao (fun _ hS _ => ?_)|refine Yar (fun _ _ hS _ => ?_)|refine Yeo ?_|refine Yab ?_|refine Yaq ?_|refine Yby ?_)
  exact ⟨X',hX',hS.took,rfl,he⟩
 | ok x =>
  rw [hg] at hv
  obtain ⟨a',q',rfl,hq',hrow⟩ := hv
  have hlen : x.2.data.length ≤ 512 := by
   unfold goR at hg
   split at hg
   ·split at hg
    ·rename_i u hu
     injection hg with hg
     rw [← hg]; exact ht.len (Zct hu)
    ·cases hg
   ·cases hg
  repeat (first|refine Yd7 ?_|(refine X_id ?_;first|refine Yaf ?_|refine Yag ?_|refine Yan ?_|refine Yay ?_|refine Yba ?_|refine Ybg ?_|refine Yao (fun _ hS _ => ?_)|refine Yar (fun _ _ hS _ => ?_))|refine Yei ?_|refine Yab ?_)
  refine Zaa _ rfl rfl rfl rfl rfl (Z2r x.2 a' q' _ (hrow.rd (hS.rd (r := chR c f b T (Nt t) X') (by simp)).ch) hlen) ?_
  rintro _ w ⟨a2,q2,rfl,hq2,hS'⟩
  replace hS := hS.plus hS'
  clear hS'
  repeat (first|refine Yd7 ?_|refine Yag ?_|refine Yao (fun _ hS _ => ?_)|refine Yah ?_|refine Yab ?_|refine Yby ?_)
  have hS : St W F [own 5 1 a2 q2 (bv (shN x.2).data),chR c f b T (Nt t) X'] _ := hS.took
  have hS := (hS.toBag (a := a2) (cs := bv (shN x.2).data) fun _ h => h.row).chAdd
  exact ⟨_,fun y hy => List.mem_append_right _ (hX' y hy),hS,a2,q2,rfl,hq2,.mem (List.mem_append_left _ (List.mem_cons_self ..))⟩
end
end Cr
namespace Cr
open Go Go.Proofs
set_option maxRecDepth 100000
set_option maxHeartbeats 8000000
attribute [local irreducible] Calls

section
variable {W : World} {F : Nat → Prop} {rs : List Res} {w : World}
theorem St.openOwn {T e : Nat} {a : Option Addr} {c : Nat} {cs : List Value} (hS : St W F (own T e a c cs :: rs) w) (hne : cs ≠ []) : ∃ (b : Nat) (l : List Value),a = some ⟨b,0,none⟩ ∧ l.length = c * e ∧ l.take cs.length = cs ∧ c ≤ maxLen ∧ St W F (pts b (.cells l.toArray T (0,0)) :: rs) w := by
 obtain ⟨h,⟨h1,h2,⟨hl,hc,hh⟩,hr,hd,hu⟩,s⟩ := hS
 rcases hh with ⟨rfl,_⟩ | ⟨b,cells,rfl,rfl,hs,ht⟩
 ·exact absurd (List.eq_nil_of_length_eq_zero (by simpa using hl)) hne
 ·exact ⟨b,cells.toList,rfl,by simpa using hs,ht,hc,h,⟨_,h2,rfl,hr,hd,hu⟩,s⟩
theorem St.ptsNe {b b' : Nat} {o o' : Obj} (hS : St W F (pts b o :: pts b' o' :: rs) w) : b ≠ b' := by
 obtain ⟨h,⟨h1,h2,rfl,⟨h3,h4,rfl,_,_,hu'⟩,hd,_⟩,_⟩ := hS
 intro e
 subst e
 rcases hd b with h' | h'
 ·rw [Zam] at h'; cases h'
 ·rw [hu',Zam] at h'; cases h'
end
section
variable {P : Program} {o : Oper} {σ : Env} {w : World} {N : Nat} {ds : Md} {K : Env → World → Prop} {x y : Operand} {t : TypeId}
theorem Znw {sT T e : TypeId} {g off n c m c2 d : Nat} {a : Option Addr} {l news : List Value} {W : World} {F : Nat → Prop} {rs rs' : List Res} {z : Value} {bytes : Nat} {TT : TypeId} (ho : o.op = .call { callee := .builtin .copy,args := #[x,y],argTypes := #[t,sT] }) (hx : ev σ x = some (.slice (some ⟨g,off,none⟩) n c)) (hy : ev σ y = some (.slice a m c2))
  [h : Und P t (.slice T)] [hi : Inf P T z e bytes] (hd : o.dst = some d) (hN : Nat.blt d N = true) (hS : St W F rs w) [hh : Has rs g (.cells l.toArray TT (0,0))] (hnews : Rd w (row a news)) (hl : news.length = min m n * e) (h1 : ∀ u ∈ news,u.oneCell' = true) (hfit : off + news.length ≤ l.length)
  [hu : Upd rs g (.cells (Zai l off news).toArray TT (0,0)) rs'] (hk : ∀ w',St W F rs' w' → K ((d,.int .i64 ((min m n : Nat) : Int)) :: σ) w') : X P o N ds σ w K := ⟨fun f ha K' Q' hK => by
 have hb := hS.has (b := g) (o := .cells l.toArray TT (0,0))
 obtain ⟨i,hi',hz',hsz,hby⟩ := info_parts hi.inf
 subst hsz
 have hmn : Nat.min m n = min m n := rfl
 have hfc : (Builtin.firstCells i.size (Nat.min m n) (.slice a m c2)).run P w = .ok news.toArray w := by
  have := Zay (P := P) (size := i.size) (m := Nat.min m n) (c := c2) hnews (by rw [hmn]; exact hl)
  cases a <;> exact this
 have hst := run_storeCells_at P g off TT news 0 l.toArray w hb (by simpa using hfit) h1
 simp only [Nat.add_zero] at hst
 have hexec : (execOp f.eval o).run P w = .ok (.value (.int .i64 ((Nat.min m n : Nat) : Int))) (w.setRow g (Zai l off news).toArray) := by
  simp only [execOp,ho,resolve,invoke,builtin,ha.eval hx,ha.eval hy,Builtin.copy_,Sem.run_bind,Sem.run_pure,Result.andThen_ok,List.map_toArray,List.map_cons,List.map_nil]
  simp [run_underlying h.und,Builtin.lenOf,Go.sizeOf,typeInfo,hi',hfc,hst,goInt,Zai]
 unfold Oper.wp
 rw [hexec]
 have u := Za6 hb (Zai l off news).toArray
 have := hK _ _ _ (ha.put (Zan hN) (.int .i64 ((Nat.min m n : Nat) : Int))) (hk _ (hS.upd u))
 rw [← hd] at this
 exact this⟩
theorem Zky {T bytes c n m e : Nat} {k k' : IntKind} {a : Option Addr} {cs : List Value} {z : Value} {W : World} {F : Nat → Prop} {rs : List Res} {d : Nat} {tx : TypeId} (ho : o.op = .call { callee := .builtin .append,args := #[x,y],argTypes := #[t,tx] }) (hx : ev σ x = some (.slice a n c)) (hy : ev σ y = some (.int k (m : Nat)))
  [h : Und P t (.slice T)] [hx' : Und P tx (.int k')] [hi : Inf P T z e bytes] (hd : o.dst = some d) (hN : Nat.blt d N = true) (hS : St W F rs w) (hr : Rd w (row a cs)) (hcs : cs.length = n * e) (hg : c < n + m) (hm : 0 < m) (he : 0 < e)
  (hfit : (n + m) * bytes ≤ 140737488355328) (hmax : n + m ≤ maxLen)
  (hk : ∀ b c' zs w',zs.length = m * e → St W F (own T e (some ⟨b,0,none⟩) c' (cs ++ zs) :: rs) w' → n + m ≤ c' → K ((d,.slice (some ⟨b,0,none⟩) (n + m) c') :: σ) w') : X P o N ds σ w K := ⟨fun f ha K' Q' hK => by
 obtain ⟨i,hi',hz',hsz,hby⟩ := info_parts hi.inf
 subst hby
 subst hsz
 have hzs : z.cells.size = i.size := hi.zs
 have hlt : ((n + m : Nat) : Int) ≤ 9223372036854775807 := by simp only [maxLen] at hmax; omega
 have hw64 : IntKind.i64.wrap (m : Int) = m := w64 (by omega) (by omega)
 have hm0 : ¬ ((m : Int) < 0) := by omega
 have hmb : ¬ (281474976710656 < (m : Int) * i.bytes) := by
  have h1 : (n + m) * i.bytes = n * i.bytes + m * i.bytes := Nat.add_mul ..
  rw [← Int.natCast_mul]
  generalize m * i.bytes = q at h1 ⊢
  omega
 have hge : n + m ≤ grownCap w (n + m) c T := grownCap_ge w (n + m) c T
 have hcm : grownCap w (n + m) c T ≤ maxLen := grownCap_le_maxLen w (n + m) c T hmax
 have hn' : ¬ (n + m ≤ c) := by omega
 have hmin : ¬ (9223372036854775807 < ((n : Int) + (m : Int))) := by omega
 have h48 : ¬ (281474976710656 < Builtin.nextslicecap (n + m) c * i.bytes) := by have := growslice_fits (show c < n + m by omega) hfit; omega
 have hod : (Builtin.firstCells i.size n (.slice a n c)).run P w.drew = .ok cs.toArray w.drew := Zay (P := P) (size := i.size) (by obtain ⟨g,hg,ha⟩ := hr; exact ⟨g,hg,ha⟩) hcs
 let blk := cs.toArray ++ Builtin.zeroCells z.cells m ++ Builtin.zeroCells z.cells (grownCap w (n + m) c T - (n + m))
 have hlen : blk.toList.length = grownCap w (n + m) c T * i.size := by
  simp only [blk,Array.length_toList,Array.size_append,List.size_toArray,size_zeroCells,hzs,hcs,← Nat.add_mul]
  congr 1; omega
 have hexec : (execOp f.eval o).run P w = .ok (.value (.slice (some ⟨w.heap.size,0,none⟩) (n + m) (grownCap w (n + m) c T))) (w.drew.alloc (.cells blk T)) := by
  have hmm : m ≠ 0 := by omega
  have hmz : ¬ (m * i.size = 0) := Nat.ne_of_gt (Nat.mul_pos hm he)
  simp [execOp,ho,resolve,invoke,builtin,ha.eval hx,ha.eval hy,Builtin.append_,run_underlying h.und,run_underlying hx'.und,Go.sizeOf,typeInfo,zeroValue,hi',hz',hw64,hm0,hmb,hmz,Nat.ne_of_gt he,hn',hmin,h48,asInt,asIntOf,Question.forced,hod,hmm,newRow,grownCap,blk]
 unfold Oper.wp
 rw [hexec]
 have := hK _ _ _ (ha.put (Zan hN) (.slice (some ⟨w.heap.size,0,none⟩) (n + m) (grownCap w (n + m) c T))) (hk w.heap.size _ (Builtin.zeroCells z.cells m).toList (w.drew.alloc (.cells blk T)) (by simp [size_zeroCells,hzs]) (St.imp (hS.drew.alloc (.cells blk T)) fun g hg => hg.mono_head (by
  have key := Za4 (T := T) (e := i.size) (c := grownCap w (n + m) c T) (b := w.heap.size) (l := blk.toList) (cs := cs ++ (Builtin.zeroCells z.cells m).toList) hlen hcm (by
   simp only [blk,Array.toList_append]; exact List.take_left)
  simpa using key)) hge)
 rw [← hd] at this
 exact this⟩
end
class EOver (P : Program) (g : FuncId) (T : TypeId) : Prop where
 run : ∀ {b b' : Nat} {l l' : List Value} {n c i n' c' : Nat} {w : World},b ≠ b' → w.heap[b]? = some (.cells l.toArray T (0,0)) → w.heap[b']? = some (.cells l'.toArray T (0,0)) → l' ≠ [] → (callFunc g #[.slice (some ⟨b,0,none⟩) n c,.slice (some ⟨b',i,none⟩) n' c']).run P w = .ok (.value (.bool false)) w
instance : EOver Tryz.prog 207 281 := ⟨fun {b b' l l' n c i n' c' w} hne hb hb' hl => by
 rw [run_callFunc_extern Tryz.func207 (by kernel_rfl) (by kernel_rfl) (by kernel_rfl) (e := Extern.SlicesOverlaps.overlaps #[209,209] #[4]) (by kernel_rfl)]
 rw [Lib.run_overlaps_apart w 209 4 281 (by kernel_rfl) 2 (fun w => Zbp w) ⟨b,0,none⟩ ⟨b',i,none⟩ n c n' c' hne 281 281 l.length l'.length (by simp [World.shape?,hb]) (by simp [World.shape?,hb']) (by simpa using hl) (Zea hb) (Zea hb)]
 rfl⟩
end Cr
namespace Go.Proofs
open Go.Shelf
def Tryz.lays106_ren : Go.Shelf.Ren := ⟨fun | 106 => 162 | 213 => 206 | 265 => 236 | n => n,fun | 9 => 9 | 3 => 3 | n => n,fun | n => n⟩
theorem Tryz.lays106 : Go.Proofs.Lays.n106 Tryz.prog Tryz.lays106_ren := {
 mixed := by kernel_rfl
 f106 := Tryz.func162.trans (congrArg some (by kernel_rfl))
 f213 := Tryz.func206.trans (congrArg some (by kernel_rfl))
 f265 := Tryz.func236.trans (congrArg some (by kernel_rfl))
 t3 := Tryz.underlying3
 a3 := Tryz.isAgg3
 z3 := Tryz.sizeOf3
 v3 := Tryz.zeroValue3
 t9 := Tryz.underlying9
 a9 := Tryz.isAgg9
 z9 := Tryz.sizeOf9
 v9 := Tryz.zeroValue9 }
open Go.RowKit in
theorem Tryz.strings_Compare (a b : ByteArray) (w : World) :
  Calls Tryz.prog 162 #[.string a,.string b] w fun e w' => e = .returned (.int .i64 (Lib.compareBytes a.data.toList b.data.toList)) ∧ w' = w := Any.strings_Compare Tryz.lays106 a b w
end Go.Proofs
namespace Cr
open Go Go.Proofs
set_option maxRecDepth 100000
set_option maxHeartbeats 8000000
attribute [local irreducible] Calls

theorem Zo6 {n : Nat} {t : Tn} (ht : TreeOk n t) {p : List (List UInt8)} {x : Int × Nd} (h : goR t p = .ok x) : Zb6 p ∧ ∃ u,goT t p = .ok u ∧ u ∈ subT t ∧ x = (u.no,u.nd) := by
 unfold goR at h
 split at h
 ·rename_i hr
  split at h
  ·rename_i u hu
   injection h with h
   exact ⟨hr,u,hu,Zct hu,h.symm⟩
  ·cases h
 ·cases h
def lstR (t : Tn) (p : List (List UInt8)) : List (List UInt8) × Int := match goR t p with
 | .error e => ([],e)
 | .ok x => if x.2.st.kind = 1 then ((rdD x.2.data).map (·.1),0) else ([],17)
section
variable {c f tp n : Nat} {b : Int} {T : Int → Option Nd} {t : Tn} {X : List RowD}
theorem Z5f (ht : TreeOk n t) (pa : Option Addr) (p : List (List UInt8)) (pc : Nat) (W : World) (F : Nat → Prop) (hT : TreeRo W F f tp n b T) (hG : Lg W F) (hp : Ro W F (row pa (strV p))) (hpl : p.length ≤ 1048576) (hS : St W F [chR c f b T (Nt t) X] W) :
  Calls Tryz.prog 179 #[.pointer (some ⟨c,0,none⟩),.slice pa p.length pc] W (Ret fun v w => ∃ X' a q,(∀ x ∈ X,x ∈ X') ∧ v = .tuple #[.slice a (lstR t p).1.length q,.int .i64 (lstR t p).2] ∧ (lstR t p).1.length ≤ q ∧ St W F [own 9 1 a q (strV (lstR t p).1),chR c f b T (Nt t) X'] w) := by
 unfold lstR
 refine Zab Tryz.func179 rfl Tryz.ntmps179 rfl ?_
 repeat (first|refine Yd7 ?_|refine Yel ?_|refine Yd8 ?_|refine Yab ?_)
 obtain ⟨_,hc,_,hw,hbk⟩ := hS.call [true]
 refine Zaa _ rfl rfl rfl rfl rfl (Zyu ht pa p pc _ _ (hT.mono hw) (hG.mono hw) (hw _ hp) hpl hc) ?_
 rintro v w ⟨X',hX',hS,hv⟩
 replace hS := hbk hS
 clear hbk hw hc
 cases hg : goR t p with
 | error e =>
  rw [hg] at hv
  obtain ⟨rfl,he⟩ := hv
  repeat (first|refine Yd7 ?_|refine Yfd ?_|refine Yao (fun _ hS _ => ?_)|refine Yar (fun _ _ hS _ => ?_)|refine Yeo ?_|refine Yab ?_|refine Yaq ?_|refine Ybo ?_)
  exact ⟨X',none,0,hX',rfl,Nat.le_refl _,(hS.took (out := [chR c f b T (Nt t) X'])).own_none _ _ _⟩
 | ok x =>
  rw [hg] at hv
  obtain ⟨a',q',rfl,hq',hrow⟩ := hv
  obtain ⟨_,u,_,hu,hxu⟩ := Zo6 ht hg
  have hlen : x.2.data.length ≤ 512 := by rw [hxu]; exact ht.len hu
  have hrl := Zqm x.2.data
  simp only
  repeat (first|refine Yd7 ?_|(refine X_id ?_;first|refine Yaf ?_|refine Yag ?_|refine Yay ?_|refine Yba ?_|refine Ybg ?_|refine Yao (fun _ hS _ => ?_)|refine Yar (fun _ _ hS _ => ?_))|refine Yei ?_|refine Yab ?_)
  refine Zaa _ rfl rfl rfl rfl rfl (Zr5 x.1 x.2 a' q' _ (hrow.rd (hS.rd (r := chR c f b T (Nt t) X') (by simp)).ch) hq' hlen (hG.at_ hS)) ?_
  rintro _ w (⟨hk,nb,nc,rfl,hS'⟩ | ⟨hk,rfl,hS'⟩)
  ·replace hS := hS.plus hS'
   clear hS'
   rw [if_pos hk]
   generalize hl : rdD x.2.data = l at hS hrl ⊢
   simp only
   repeat (first|refine Yd7 ?_|refine Yaf ?_|refine Yag ?_|refine Yay ?_|refine Yas ?_|refine Yea ?_|refine Yab ?_)
   have hS : St W F [own 281 2 nb nc (nmV l),chR c f b T (Nt t) X'] _ := hS.took
   refine Zal (α := Nat × Option Addr × Nat) (fun z => [(7,.int .i64 0),(9,.slice z.2.1 z.1 z.2.2),(26,.slice nb l.length nc),(27,.int .i64 (l.length : Nat)),(28,.int .i64 (z.1 : Nat))])
    (fun z w => z.1 ≤ l.length ∧ z.1 ≤ z.2.2 ∧ St W F [own 9 1 z.2.1 z.2.2 (strV ((l.take z.1).map (·.1))),own 281 2 nb nc (nmV l),chR c f b T (Nt t) X'] w) (fun z => l.length - z.1) (0,none,0) ⟨rfl,rfl,rfl,rfl,rfl,trivial⟩ ⟨Nat.zero_le _,Nat.le_refl _,hS.own_none _ _ _⟩ ?_
   clear hS
   rintro ⟨i,oa,oc⟩ w ⟨hi,hio,hS2⟩
   simp only at hi hio hS2
   by_cases hlt : i < l.length
   ·have hx0 : l[i]? = some l[i] := List.getElem?_eq_getElem (by omega)
    have htk : l.take (i + 1) = l.take i ++ [l[i]] := List.take_succ_eq_append_getElem hlt
    generalize l[i] = y at hx0 htk
    have hxs : ((nmV l).drop (i * 2)).take 2 = [.string (str y.1),.int .i64 y.2] := Zho hx0
    have hr := (hS2.rd (r := own 281 2 nb nc (nmV l)) (by simp)).own_row
    obtain ⟨xb,xo,rfl⟩ := hr.base (by intro e; rw [e] at hxs; simp at hxs)
    have hS := hS2
    repeat (first|refine Yd7 ?_|(refine X_id ?_;first|refine Yaf ?_|refine Yan ?_|refine Ya1 ?_|refine Ybb ?_|refine Yap ?_|refine Ybs ?_|refine Yao (fun _ hS _ => ?_)|refine Yar (fun _ _ hS _ => ?_)|refine Ybf (fun _ _ hS _ => ?_))|refine Yeb ?_|refine Yab ?_)
    have hnw := (hS.rd (List.mem_cons_self ..)).own_row
    refine Zas rfl rfl rfl rfl rfl hS (by rw [Zef,List.length_map,List.length_take]; omega) hio hnw rfl (by simp [Value.oneCell']) (by dsimp only; omega) (by simp only [maxLen]; omega) (fun b' q' w hS hq' _ => ?_)
    repeat (first|refine Yd7 ?_|refine Yem ?_|refine Yad ?_|refine Yef ?_)
    refine Zag (z := (i,oa,oc)) (i + 1,b',q') ⟨rfl,rfl,rfl,rfl,rfl,trivial⟩ ⟨hlt,hq',?_⟩ (by dsimp only; omega)
    rw [htk,List.map_append,show strV ((l.take i).map (·.1) ++ [y].map (·.1)) = strV ((l.take i).map (·.1)) ++ [.string (str y.1)] by simp [strV]]
    exact hS.took
   ·obtain rfl : i = l.length := by omega
    have hS := hS2
    rw [List.take_length] at hS
    repeat (first|refine Yd7 ?_|refine Ye1 ?_|refine Yeg ?_|refine Yab ?_|refine Ya6 ?_|refine Ya7 ?_|refine Ybo ?_)
    exact ⟨X',oa,oc,hX',by rw [List.length_map],by rw [List.length_map]; exact hio,hS.took⟩
  ·replace hS := hS.plus hS'
   clear hS'
   rw [if_neg hk]
   repeat (first|refine Yd7 ?_|refine Yaf ?_|refine Yag ?_|refine Yay ?_|refine Yas ?_|refine Yea ?_|refine Yab ?_)
   refine Zal (α := Unit) (fun _ => [(7,.int .i64 17),(9,.slice none 0 0),(27,.int .i64 0),(28,.int .i64 0)]) (fun _ w => St W F [chR c f b T (Nt t) X'] w) (fun _ => 0) () ⟨rfl,rfl,rfl,rfl,trivial⟩ hS.took ?_
   clear hS
   rintro _ w hS
   repeat (first|refine Yd7 ?_|refine Ye1 ?_|refine Yeg ?_|refine Yab ?_|refine Ya6 ?_|refine Ya7 ?_|refine Ybo ?_)
   exact ⟨X',none,0,hX',rfl,Nat.le_refl _,hS.own_none _ _ _⟩
def Zfb (t : Tn) (p : List (List UInt8)) : Except Int (Tn × List UInt8) :=
 if Zb6 p then match p.getLast? with
  | none => .error 10
  | some s => match goT t p.dropLast with
   | .error e => .error e
   | .ok u => if u.st.kind = 1 then .ok (u,s) else .error 17
 else .error 10
def Z2e (X : List RowD) (r : Except Int (Tn × List UInt8)) (v : Value) : Prop := match r with
 | .error e => e ≠ 0 ∧ ∃ no nd a q b m k s,v = .tuple #[.agg (List.toArray (plV no nd a q)),.slice b m k,.string s,.int .i64 e]
 | .ok x => ∃ a q nb nc,v = .tuple #[.agg (List.toArray (plV x.1.no x.1.nd a q)),.slice nb x.1.names.length nc,.string (str x.2),.int .i64 0] ∧ x.1.nd.data.length ≤ q ∧ RX X a (bv x.1.nd.data) ∧ RX X nb (nmV x.1.names)
theorem Zql {p q : List (List UInt8)} (h : Zb6 (p ++ q)) : Zb6 p := ⟨by have := h.1; rw [List.length_append] at this; omega,fun s hs => h.2 s (List.mem_append_left _ hs)⟩
theorem Zt0 {t : Tn} {q : List (List UInt8)} {s : List UInt8} (h : Zb6 (q ++ [s])) : Zfb t (q ++ [s]) = match goT t q with
  | .error e => .error e
  | .ok u => if u.st.kind = 1 then .ok (u,s) else .error 17 := by
 unfold Zfb
 rw [if_pos h,List.getLast?_append,List.dropLast_concat]
 simp only [List.getLast?_singleton,Option.some_or]
theorem Zvr {t : Tn} {p : List (List UInt8)} (h : ¬ Zb6 p ∨ p = []) : Zfb t p = .error 10 := by
 unfold Zfb
 rcases h with h | h
 ·rw [if_neg h]
 ·subst h; simp
theorem Zvy {t : Tn} {q : List (List UInt8)} (h : Zb6 q) : goR t q = match goT t q with
  | .ok u => .ok (u.no,u.nd)
  | .error e => .error e := by
 unfold goR; rw [if_pos h] <;> cases goT t q <;> rfl
theorem Z3h (ht : TreeOk n t) (pa : Option Addr) (p : List (List UInt8)) (pc : Nat) (W : World) (F : Nat → Prop) (hT : TreeRo W F f tp n b T) (hG : Lg W F) (hp : Ro W F (row pa (strV p))) (hpc : p.length ≤ pc) (hpl : p.length ≤ 1048576) (hS : St W F [chR c f b T (Nt t) X] W) :
  Calls Tryz.prog 98 #[.pointer (some ⟨c,0,none⟩),.slice pa p.length pc] W (Ret fun v w => ∃ X',(∀ x ∈ X,x ∈ X') ∧ St W F [chR c f b T (Nt t) X'] w ∧ Z2e X' (Zfb t p) v) := by
 refine Zab Tryz.func98 rfl Tryz.ntmps98 rfl ?_
 repeat (first|refine Yd7 ?_|refine Yaf ?_|refine Yag ?_|refine Ybq ?_|refine Yar (fun _ _ hS _ => ?_)|refine Yei ?_|refine Yab ?_)
 refine Zaa _ rfl rfl rfl rfl rfl (Zzp pa p pc _ (hp.rd hS) hpc hpl) ?_
 rintro _ w (⟨hr,q,s,a',c',rfl,rfl,hc',hS'⟩ | ⟨hbad,rfl,hS'⟩)
 ·replace hS := hS.plus hS'
  clear hS'
  have hl := Zt0 (t := t) hr
  rw [List.length_append] at hpl
  repeat (first|refine Yd7 ?_|refine Yfb ?_|refine Yei ?_|refine Yab ?_)
  obtain ⟨_,hc,hr1,hw,hbk⟩ := hS.call [false,false,true]
  refine Zaa _ rfl rfl rfl rfl rfl (Zyu ht a' q c' _ _ (hT.mono hw) (hG.mono hw) (hr1 _ (List.mem_cons_self ..)).own_row (by omega) hc) ?_
  rintro v w ⟨X',hX',hS,hv⟩
  replace hS := hbk hS
  clear hbk hw hc hr1
  rw [Zvy (Zql hr)] at hv
  cases hg : goT t q with
  | error e =>
   rw [hg] at hv hl
   rw [hl]
   obtain ⟨rfl,he⟩ := hv
   repeat (first|refine Yd7 ?_|refine Yfi ?_|refine Yao (fun _ hS _ => ?_)|refine Yar (fun _ _ hS _ => ?_)|refine Yeo ?_|refine Yab ?_|refine Yaq ?_|refine Yck ?_)
   exact ⟨X',hX',hS.took,he,0,⟨⟨0,0,0,0⟩,[]⟩,none,0,none,0,0,_,rfl⟩
  | ok u =>
   rw [hg] at hv hl
   obtain ⟨a2,q2,rfl,hq2,hrow⟩ := hv
   have hu := Zct hg
   simp only at hq2 hrow
   repeat (first|refine Yd7 ?_|(refine X_id ?_;first|refine Yaf ?_|refine Yag ?_|refine Yay ?_|refine Yba ?_|refine Ybg ?_|refine Yao (fun _ hS _ => ?_)|refine Yar (fun _ _ hS _ => ?_))|refine Yei ?_|refine Yab ?_)
   refine Zaa _ rfl rfl rfl rfl rfl (Zr5 u.no u.nd a2 q2 _ (hrow.rd (hS.rd (r := chR c f b T (Nt t) X') (by simp)).ch) hq2 (ht.len hu) (hG.at_ hS)) ?_
   rintro _ w (⟨hk,nb,nc,rfl,hS'⟩ | ⟨hk,rfl,hS'⟩)
   ·replace hS := hS.plus hS'
    clear hS'
    have hk' : u.st.kind = 1 := hk
    simp only [if_pos hk'] at hl
    rw [hl]
    rw [(ht.rd hu hk').2] at hS ⊢
    repeat (first|refine Yd7 ?_|(refine X_id ?_;first|refine Yaf ?_|refine Yag ?_|refine Yay ?_|refine Ybg ?_|refine Yao (fun _ hS _ => ?_))|refine Yek ?_|refine Yab ?_|refine Yck ?_)
    have hS : St W F [own 281 2 nb nc (nmV u.names),chR c f b T (Nt t) X'] _ := hS.took
    have hS := (hS.toBag (a := nb) (cs := nmV u.names) fun _ h => h.row).chAdd
    exact ⟨_,fun y hy => List.mem_append_right _ (hX' y hy),hS,a2,q2,nb,nc,rfl,hq2,hrow.right,.mem (List.mem_append_left _ (List.mem_cons_self ..))⟩
   ·replace hS := hS.plus hS'
    clear hS'
    have hk' : ¬ u.st.kind = 1 := hk
    simp only [if_neg hk'] at hl
    rw [hl]
    repeat (first|refine Yd7 ?_|(refine X_id ?_;first|refine Yaf ?_|refine Yag ?_|refine Yay ?_|refine Ybg ?_|refine Yao (fun _ hS _ => ?_))|refine Yek ?_|refine Yab ?_|refine Yck ?_)
    exact ⟨X',hX',hS.took,by decide,u.no,u.nd,a2,q2,none,0,0,_,rfl⟩
 ·replace hS := hS.plus hS'
  clear hS'
  rw [Zvr hbad]
  repeat (first|refine Yd7 ?_|refine Yfi ?_|refine Yao (fun _ hS _ => ?_)|refine Yeo ?_|refine Yab ?_|refine Yaq ?_|refine Yck ?_)
  exact ⟨X,fun _ h => h,hS.took,by decide,0,⟨⟨0,0,0,0⟩,[]⟩,none,0,none,0,0,_,rfl⟩
end
end Cr
namespace Cr
open Go Go.Proofs
set_option maxRecDepth 100000
set_option maxHeartbeats 8000000
attribute [local irreducible] Calls

theorem Z2u (a b : List UInt8) (W : World) : Calls Tryz.prog 162 #[.string (str a),.string (str b)] W (Ret fun v w => v = .int .i64 (Lib.compareBytes a b) ∧ St W noF [] w) := by
 refine (Tryz.strings_Compare (str a) (str b) W).mono ?_
 rintro e w ⟨rfl,rfl⟩
 exact ⟨_,rfl,rfl,St.start _⟩
theorem Z32 (x : Nm) (s : List UInt8) (W : World) : Calls Tryz.prog 161 #[.agg (List.toArray [.string (str x.1),.int .i64 x.2]),.string (str s)] W (Ret fun v w => v = .int .i64 (Lib.compareBytes x.1 s) ∧ St W noF [] w) := by
 have hS := St.start W
 have hc := fun W => Z2u x.1 s W
 refine Zab Tryz.func161 rfl Tryz.ntmps161 rfl ?_
 repeat (first|refine Yd7 ?_|(refine X_id ?_;first|(refine Zae 162 rfl rfl rfl rfl rfl hS (hc _) ?_;rintro _ _ rfl hS)|refine Yaf ?_|refine Yag ?_|refine Yan ?_|refine Yap ?_|refine Ya9 (fun _ _ hS _ => ?_))|refine Yek ?_|refine Yd9 ?_)
 exact ⟨rfl,hS.drops⟩
theorem Zxl {i k m : Nat} (h : i + k ≤ 9223372036854775807) (hm : m = (i + k) / 2) : IntKind.i64.wrap (ishr IntKind.u64 (IntKind.u64.wrap ((i : Int) + (k : Int))) (Int.toNat 1)) = (m : Int) := by
 have h1 : IntKind.u64.wrap ((i : Int) + (k : Int)) = ((i + k : Nat) : Int) := by
  unfold IntKind.wrap
  simp only [IntKind.bits,IntKind.signed]
  simp
  omega
 rw [h1,show Int.toNat 1 = 1 from rfl,Zyo 1 (by decide),hm]
 exact w64 (by omega) (by omega)
def PosN (s : List UInt8) (l : List Nm) (i : Nat) : Prop := i ≤ l.length ∧ (∀ j,j < i → ∀ y,l[j]? = some y → ltS y.1 s) ∧ ∀ j,i ≤ j → ∀ y,l[j]? = some y → ¬ ltS y.1 s
theorem Zza (a : Option Addr) (l : List Nm) (c : Nat) (s : List UInt8) (W : World) (hr0 : Rd W (row a (nmV l))) (hl : l.length ≤ 1048576) (hm : l.Pairwise fun x y => ltS x.1 y.1) :
  Calls Tryz.prog 160 #[.slice a l.length c,.string (str s),.func (.func 161) #[] #[]] W (Ret fun v w => (∃ (i : Nat) (b : Bool),v = .tuple #[.int .i64 (i : Nat),.bool b] ∧ PosN s l i) ∧ St W noF [] w) := by
 have hr1 := hr0.ro
 have hmono : ∀ (i j : Nat) (x y : Nm),i < j → l[i]? = some x → l[j]? = some y → ltS y.1 s → ltS x.1 s := fun i j x y hij hx hy h => by
  obtain ⟨hi,hxe⟩ := List.getElem?_eq_some_iff.1 hx
  obtain ⟨hj,hye⟩ := List.getElem?_eq_some_iff.1 hy
  have := List.pairwise_iff_getElem.1 hm i j hi hj hij
  rw [hxe,hye] at this
  exact Zou this h
 have hS := St.start W
 refine Zab Tryz.func160 rfl Tryz.ntmps160 rfl ?_
 repeat (first|refine Yd7 ?_|refine Ye7 ?_|refine Yea ?_|refine Yab ?_)
 refine Zbt (α := Nat) (fun i => [(0,.slice a l.length c),(1,.string (str s)),(2,.func (.func 161) #[] #[]),(8,.int .i64 (l.length : Nat)),(9,.int .i64 (i : Nat))]) (fun i w => PosN s l i ∧ St W noF [] w) ?_ ?_
 ·refine Zal (α := Nat × Nat) (fun z => [(0,.slice a l.length c),(1,.string (str s)),(2,.func (.func 161) #[] #[]),(8,.int .i64 (l.length : Nat)),(9,.int .i64 (z.1 : Nat)),(10,.int .i64 (z.2 : Nat))])
   (fun z w => z.1 ≤ z.2 ∧ z.2 ≤ l.length ∧ (∀ j,j < z.1 → ∀ y,l[j]? = some y → ltS y.1 s) ∧ (∀ j,z.2 ≤ j → ∀ y,l[j]? = some y → ¬ ltS y.1 s) ∧ St W noF [] w) (fun z => z.2 - z.1) (0,l.length) ⟨rfl,rfl,rfl,rfl,rfl,rfl,trivial⟩ ⟨Nat.zero_le _,Nat.le_refl _,fun j hj => absurd hj (by simp),fun j hj y hy => (by have := (List.getElem?_eq_some_iff.1 hy).1; simp only at hj; omega),hS⟩ ?_
  clear hS
  rintro ⟨i,k⟩ w ⟨hik,hkl,h1,h2,hS2⟩
  simp only at hik hkl h1 h2 hS2
  by_cases hlt : i < k
  ·obtain ⟨m,hm2⟩ : ∃ m,m = (i + k) / 2 := ⟨_,rfl⟩
   have hx0 : l[m]? = some l[m] := List.getElem?_eq_getElem (by omega)
   generalize l[m] = x at hx0
   have hr := hr1
   have hxs : ((nmV l).drop (m * 2)).take 2 = [.string (str x.1),.int .i64 x.2] := Zho hx0
   obtain ⟨xb,xo,rfl⟩ := (hr.rd hS2).base (by intro e; rw [e] at hxs; simp at hxs)
   have hS := hS2
   have hcm := fun W => Z32 x s W
   repeat (first|refine Yd7 ?_|(refine X_id ?_;first|refine Yaf ?_|refine Yag ?_|refine Ya1 ?_|refine Yax ?_|refine Ydc ?_|refine Ycx ?_)|refine Yeb ?_|refine Yab ?_)
   rw [Zxl (by omega) hm2]
   by_cases hq : ltS x.1 s
   ·have hq' : Lib.compareBytes x.1 s < 0 := hq
    repeat (first|refine Yaa ?_|refine Yaf ?_|refine Ybb ?_|refine Ybs ?_)
    refine Zby (first := []) (captured := []) rfl rfl rfl rfl rfl (hcm _) ?_
    rintro _ w' ⟨rfl,hS'⟩
    replace hS := hS.plus hS'
    clear hS'
    repeat (first|refine Yd7 ?_|refine Yaf ?_|refine Yag ?_|refine Ya1 ?_|refine Yax ?_|refine Yad ?_|refine Yaj ?_|refine Yef ?_)
    refine Zag (z := (i,k)) (m + 1,k) ⟨rfl,rfl,rfl,rfl,rfl,rfl,trivial⟩ ⟨by dsimp only; omega,hkl,fun j hj y hy => ?_,h2,hS⟩ (by dsimp only; omega)
    by_cases hjm : j = m
    ·subst hjm; rw [hx0] at hy; cases hy; exact hq
    ·exact hmono j m y x (by simp only at hj; omega) hy hx0 hq
   ·have hq' : ¬ Lib.compareBytes x.1 s < 0 := hq
    repeat (first|refine Yaa ?_|refine Yaf ?_|refine Ybb ?_|refine Ybs ?_)
    refine Zby (first := []) (captured := []) rfl rfl rfl rfl rfl (hcm _) ?_
    rintro _ w' ⟨rfl,hS'⟩
    replace hS := hS.plus hS'
    clear hS'
    repeat (first|refine Yd7 ?_|refine Ye1 ?_|refine Yad ?_|refine Yai ?_|refine Yef ?_)
    refine Zag (z := (i,k)) (i,m) ⟨rfl,rfl,rfl,rfl,rfl,rfl,trivial⟩ ⟨by dsimp only; omega,by dsimp only; omega,h1,fun j hj y hy hjs => ?_,hS⟩ (by dsimp only; omega)
    by_cases hjm : j = m
    ·subst hjm; rw [hx0] at hy; cases hy; exact hq hjs
    ·exact hq (hmono m j x y (by simp only at hj; omega) hx0 hy hjs)
  ·obtain rfl : i = k := by omega
   have hS := hS2
   repeat (first|refine Yd7 ?_|refine Yaf ?_|refine Ya3 ?_|refine Yej ?_|refine Yed ?_)
   exact Zbg i ⟨rfl,rfl,rfl,rfl,rfl,trivial⟩ ⟨⟨hkl,h1,h2⟩,hS⟩
 ·rintro i w ⟨hp,hS2⟩
  have hil := hp.1
  by_cases hlt : i < l.length
  ·have hx0 : l[i]? = some l[i] := List.getElem?_eq_getElem hlt
   generalize l[i] = x at hx0
   have hr := hr1
   have hxs : ((nmV l).drop (i * 2)).take 2 = [.string (str x.1),.int .i64 x.2] := Zho hx0
   obtain ⟨xb,xo,rfl⟩ := (hr.rd hS2).base (by intro e; rw [e] at hxs; simp at hxs)
   have hcm := fun W => Z32 x s W
   have hS := hS2
   by_cases hq : Lib.compareBytes x.1 s = 0
   ·repeat (first|refine Yaa ?_|refine Yaw ?_|refine Yaf ?_|refine Ya1 ?_|refine Ybb ?_|refine Ybs ?_|refine Yd8 ?_)
    refine Zby (first := []) (captured := []) rfl rfl rfl rfl rfl (hcm _) ?_
    rintro _ w' ⟨rfl,hS'⟩
    replace hS := hS.plus hS'
    clear hS'
    repeat (first|refine Yen ?_|refine Yag ?_|refine Ybd ?_|refine Ybh ?_|refine Yah ?_|refine Yev ?_)
    exact ⟨⟨i,_,rfl,hp⟩,hS⟩
   ·repeat (first|refine Yaa ?_|refine Yaw ?_|refine Yaf ?_|refine Ya1 ?_|refine Ybb ?_|refine Ybs ?_|refine Yd8 ?_)
    refine Zby (first := []) (captured := []) rfl rfl rfl rfl rfl (hcm _) ?_
    rintro _ w' ⟨rfl,hS'⟩
    replace hS := hS.plus hS'
    clear hS'
    repeat (first|refine Yen ?_|refine Yag ?_|refine Ybd ?_|refine Ybi ?_|refine Yah ?_|refine Yev ?_)
    exact ⟨⟨i,_,rfl,hp⟩,hS⟩
  ·have hS := hS2
   repeat (first|refine Yeq ?_|refine Yaf ?_|refine Yag ?_|refine Ya4 ?_|refine Ya3 ?_|refine Yek ?_|refine Yev ?_)
   exact ⟨⟨i,_,rfl,hp⟩,hS⟩
end Cr
