/-
  Layer 8 (tree): a directory's bytes written and read.
  Names: what package path and the document call one; path.sign.
  path.Name says nameOk.
  Layer 8 (tree): names looked for; paths that are right; a name of a directory.
  Layer 8 (tree) in plain words,2: trees; the nodes they have by number; paths gone. No program is in sight.
  Layer 8 (tree): a place's names; a name of a directory; the root.
  Layer 8 (tree): a path gone.
  Layer 8 (tree): slices copied; paths split; Get,List; what is ahead of a path's last name.
  The base of a row of the run's own. Over any program.
  Rows of the run's own whose elements have several cells: copied into,grown by zeros,asked whether they overlap.
  DERIVED: THE SHELF's CONTRACTS AT THIS DUMP,IN PLAIN WORDS (tools/lay-plain.mjs out of 'TryzShelf.lean',which tools/lay-shelf.mjs wrote): THE SAME DECLARATIONS UNDER THE SAME NAMES: 'import','namespace','open','def','theorem' AND NOTHING ELSE: no command of the shelf's: FOR A HAND-IN. Each laying: the table of numbers ('.._ren') and one theorem,a field a fact of the dump's own or the kernel's comparison; each contract: ONE APPLICATION.
  Layer 8 (tree): List; what is ahead of a path's last name.
-/
import Derived.Test.YtjpjbgkjfdhjjaaGreatDoorAks8
import Derived.Test.YtjpjbgkjfdhjjaaGreatDoorAks9
import Derived.Test.YtjpjbgkjfdhjjaaGreatDoorAks3
import Derived.Test.YtjpjbgkjfdhjjaaGreatDoorAks4
import Derived.Test.YtjpjbgkjfdhjjaaGreatDoorAks6
import Derived.Lib.Bytealg
import Derived.Lib.Overlaps
import Derived.KernelRfl
import Derived.Shelf.Strings.Builder1
import Derived.Shelf.Strings.Builder2
import Derived.Shelf.Small.Strs
import Derived.Shelf.Strings.BuilderF
import Derived.Shelf.Strconv.Atoi
import Derived.Shelf.Strconv.Itoa0
import Derived.Shelf.Strconv.Itoa1
import Derived.Shelf.LaysM
import Derived.Shelf.Strconv.Itoa2
import Derived.Shelf.Strconv.Itoa3
import Derived.Shelf.Strconv.AtoiErrFast
import Derived.Shelf.Strconv.ParseIntEmpty
import Derived.Shelf.Strconv.AtoiFail
import Derived.Shelf.Strconv.Clone
import Derived.Shelf.Strconv.SyntaxError
import Derived.Shelf.LaysC
import Derived.Shelf.Strconv.ToError
import Derived.Shelf.Strconv.Lower
import Derived.Shelf.Strconv.ParseUint10
import Derived.Shelf.Strconv.ParseUint10Empty
import Derived.Shelf.Strconv.ParseUint10Any
import Derived.Shelf.Strconv.ParseInt10
import Derived.Shelf.Strconv.AtoiLong
import Derived.Shelf.Strconv.AtoiInnerAll
import Derived.Shelf.Strconv.RangeError
import Derived.Shelf.Strconv.ToErrorRange
import Derived.Shelf.Strconv.AtoiAll
import Derived.Shelf.Strconv.ErrVarAll
import Derived.Shelf.Strings.Search1
import Derived.Shelf.Strings.Search2
import Derived.Shelf.Strings.Search3
import Derived.Shelf.Strings.Count
import Derived.Shelf.Strings.Shaped
import Derived.Shelf.Sort.Plain
import Derived.Shelf.Strings.Prefix
import Derived.Shelf.Strings.Split
import Derived.Shelf.Strings.SplitShaped
import Derived.Shelf.Unicode.DecodeSlow
import Derived.Shelf.Slices.In.SortNone
import Derived.Test.YtjpjbgkjfdhjjaaGreatDoorProg
namespace Cr
open Go Go.Proofs
set_option maxRecDepth 100000
set_option maxHeartbeats 64000000
attribute [local irreducible] Calls

def nmC (x : Nm) : List Value := [.string (str x.1),.int .i64 x.2]
def nmV (l : List Nm) : List Value := l.flatMap nmC
theorem Zgk : ∀ l : List Nm,(nmV l).length = l.length * 2
 | [] => rfl
 | x :: l => by
  have := Zgk l
  simp only [nmV,List.flatMap_cons,List.length_append,nmC,List.length_cons,List.length_nil] at this ⊢; omega
theorem Zhc : ∀ {l : List Nm} {i : Nat} {x : Nm},l[i]? = some x → ((nmV l).drop (i * 2)).take 2 = nmC x
 | [],i,x,h => by simp at h
 | y :: l,0,x,h => by
  obtain rfl : y = x := by simpa using h
  simp [nmV,nmC]
 | y :: l,i + 1,x,h => by
  have := Zhc (l := l) (i := i) (x := x) (by simpa using h)
  rw [nmV,List.flatMap_cons,List.drop_append];simp only [nmC,List.length_cons,List.length_nil]
  rw [show (i + 1) * 2 - (0 + 1 + 1) = i * 2 by omega,List.drop_of_length_le (by simp; omega),List.nil_append]
  exact this
theorem Zj2 (l m : List Nm) : nmV (l ++ m) = nmV l ++ nmV m := by simp [nmV]
theorem Zjm (a : Option Addr) (l : List Nm) (c : Nat) (W : World) (hr : Ro W noF (row a (nmV l))) (hl : NmOk l) (hG : Lg W noF) :
  Calls Tryz.prog 51 #[.slice a l.length c] W (Ret fun v w => ∃ b q,v = .slice b (wrD l).length q ∧ (wrD l).length ≤ q ∧ St W noF [own 5 1 b q (bv (wrD l))] w) := by
 have hS := St.start W
 have hlen := hl.1
 have h0 : Ro W noF (row none ([] : List (List Value)).flatten) := Zhv _ _ _
 refine Zab Tryz.func51 rfl Tryz.ntmps51 rfl ?_
 repeat (first|refine Yd1 ?_|refine Yag ?_|refine Yd2 ?_|refine Yab ?_)
 refine Zaa _ rfl rfl rfl rfl rfl (of_M none [] 0 [] _ h0 .nil (by simp [wMs])) ?_
 rintro _ w ⟨b,q,rows,X,rfl,hq,hMs,hS'⟩
 replace hS := hS.plus hS';clear hS';have hrow0 : rows = [] := List.eq_nil_of_length_eq_zero (by simpa using hMs.1)
 subst hrow0
 repeat (first|refine Yd1 ?_|refine Yaf ?_|refine Yar ?_|refine Yao (fun _ hS _ => ?_)|refine Yas (fun _ _ hS _ => ?_)|refine Yd4 ?_|refine Yab ?_)
 rename_i b3 _ _ _ _ _;have hS2 : St W noF [own 206 4 b q ([] : List (List Value)).flatten,bag X,pts b3 (.cells (List.toArray [.int .i64 2,.int .i64 0,.slice none 0 0,.slice b 0 q]) 206 (0,0))] _ := hS.took
 clear hS;refine Zak (α := Nat × Option Addr × Nat) (fun z => [(3,.pointer (some ⟨b3,0,none⟩)),(9,.slice a l.length c),(10,.int .i64 (l.length : Nat)),(11,.int .i64 (z.1 : Nat))])
  (fun z w => z.1 ≤ l.length ∧ z.1 ≤ z.2.2 ∧ ∃ rows X,Mrds (RX X) ((l.take z.1).map Zdu) rows ∧ St W noF [own 206 4 z.2.1 z.2.2 rows.flatten,bag X,pts b3 (.cells (List.toArray [.int .i64 2,.int .i64 0,.slice none 0 0,.slice z.2.1 z.1 z.2.2]) 206 (0,0))] w)
  (fun z => l.length - z.1) (0,b,q) ⟨rfl,rfl,rfl,rfl,trivial⟩ ⟨Nat.zero_le _,Nat.zero_le _,[],X,.nil,hS2⟩ ?_
 clear hS2;rintro ⟨i,b,q⟩ w ⟨hi,hiq,rows,X,hMs,hS2⟩
 simp only at hi hiq hMs hS2
 have hrl : rows.flatten.length = i * 4 := by rw [hMs.flat,List.length_map,List.length_take,Nat.min_eq_left hi]
 by_cases hlt : i < l.length
 ·obtain ⟨y,hyx⟩ : ∃ y,y = l[i] := ⟨_,rfl⟩
  have hy0 : l[i]? = some y := by rw [hyx]; exact List.getElem?_eq_getElem hlt
  have hyo := hl.2 y (List.mem_of_getElem? hy0)
  have hxs := Zhc hy0
  unfold nmC at hxs
  obtain ⟨ab,ao,rfl⟩ := hr.start.base (by
   intro e
   rw [e] at hxs;simp at hxs)
  have hS := hS2
  repeat (first|refine Yd1 ?_|(refine X_id ?_;first|refine Ya0 ?_|refine Ybd ?_|refine Ybp ?_|refine Yao (fun _ hS _ => ?_)|refine Yas (fun _ _ hS _ => ?_))|refine Yd5 ?_|refine Yab ?_)
  refine Zaq (.s 0 (.s 1 (.s 2 (.s 3 (.s 5 (.s 6 (.h 4 (.h 7 (.h 8 (.h 9 (.h 10 (.h 11 (.s 12 (.h 13 .nil .no)) .no) .no) .no) .no) .no) .no))))))) mixed (by kernel_rfl) rfl ?_
  have hS := hS.drew
  repeat (first|(refine Zae ?_;first|refine Ybk ?_|refine Ybm ?_|refine Yay ?_))
  refine Zaa _ rfl rfl rfl rfl rfl (Z2q y.1 _) ?_
  rintro _ w ⟨b1,c1,Y,rfl,hY,hS'⟩
  replace hS := hS.plus hS';clear hS';repeat (first|(refine Zae ?_;first|refine Yay ?_)|(refine Zac ?_;first|refine Yaz ?_))
  refine Zaa _ rfl rfl rfl rfl rfl (Z46 y.2 _) ?_
  rintro _ w ⟨rfl,hS'⟩
  replace hS := hS.plus hS';clear hS';repeat (first|refine Ybi (fun _ _ hS _ => ?_)|(refine Zae ?_;first|refine Yay ?_)|(refine Zac ?_;first|refine Yaz ?_))
  have hr2 := (hS.rd (List.mem_cons_self ..)).own_row.ro
  have hM2 : Mrds (RoR _ noF) [txM y.1,nuM y.2] [[.int .i64 1,.int .i64 0,.slice b1 y.1.length c1,.slice none 0 0],[.int .i64 0,.int .i64 y.2,.slice none 0 0,.slice none 0 0]] := (Mrds.nil.snoc (hY.ro (hS.rd (r := bag Y) (by simp)).ro)).snoc (Z3b (fun a => Zhv _ _ a) y.2)
  refine Zaa _ rfl rfl rfl rfl rfl (of_M _ [txM y.1,nuM y.2] 2 [[.int .i64 1,.int .i64 0,.slice b1 y.1.length c1,.slice none 0 0],[.int .i64 0,.int .i64 y.2,.slice none 0 0,.slice none 0 0]] _ hr2 hM2 (by simp only [wMs,Znx,List.length_nil]; omega)) ?_
  rintro _ w ⟨b4,q4,rows4,Z,rfl,_,hZ,hS'⟩
  replace hS := hS.plus hS';clear hS';simp only [List.length_cons,List.length_nil,Nat.zero_add,Nat.reduceAdd]
  repeat (first|refine Ybi (fun _ _ hS _ => ?_)|(refine Zae ?_;first|refine Yay ?_)|(refine Zac ?_;first|refine Yaz ?_))
  have hnw := (hS.rd (List.mem_cons_self ..)).own_row
  refine Zar rfl rfl rfl rfl rfl hS hrl hiq hnw rfl (by simp [Value.oneCell']) (by omega) (by simp only [maxLen]; omega) (fun b' q' w hS hq' _ => ?_)
  repeat (first|refine Yd1 ?_|refine Yd6 ?_|refine Yao (fun _ hS _ => ?_)|refine Yad ?_|refine Yd9 ?_|(refine Zae ?_;first|refine Ya2 ?_|refine Ybk ?_|refine Yay ?_)|(refine Zac ?_;first|refine Yaz ?_))
  refine Zaf (z := (i,b,q)) (i + 1,b',q') ⟨rfl,rfl,rfl,rfl,trivial⟩ ⟨hlt,hq',rows ++ [[.int .i64 2,.int .i64 0,.slice none 0 0,.slice b4 2 q4]],((b4,rows4.flatten) :: Z) ++ X,?_,?_⟩ (by dsimp only; omega)
  ·rw [List.take_succ_eq_append_getElem hlt,← hyx,List.map_append]
   refine (hMs.mono fun _ _ h => h.right).snoc ?_
   exact Mrd.mk' (l := [txM y.1,nuM y.2]) rfl rfl (Nat.zero_le _) .nil (.mem (List.mem_append_left _ (List.mem_cons_self ..))) hZ.1 fun i y cs h1 h2 => (hZ.2 i y cs h1 h2).mono fun _ _ h => h.tail.left
  ·have hS : St W noF [own 206 4 b4 q4 rows4.flatten,bag Z,bag X,own 206 4 b' q' (rows.flatten ++ [.int .i64 2,.int .i64 0,.slice none 0 0,.slice b4 2 q4]),pts b3 (.cells (List.toArray [.int .i64 2,.int .i64 0,.slice none 0 0,.slice b' (i + 1) q']) 206 (0,0))] _ := hS.took
   have hS := (hS.bagAdd (a := b4) (cs := rows4.flatten) fun _ h => h.row).bagJoin
   rw [List.flatten_append]
   simpa using hS.took (out := [own 206 4 b' q' (rows.flatten ++ [.int .i64 2,.int .i64 0,.slice none 0 0,.slice b4 2 q4]),bag (((b4,rows4.flatten) :: Z) ++ X),pts b3 (.cells (List.toArray [.int .i64 2,.int .i64 0,.slice none 0 0,.slice b' (i + 1) q']) 206 (0,0))])
 ·obtain rfl : i = l.length := by omega
  have hS := hS2
  rw [List.take_length] at hMs;repeat (first|refine Yd1 ?_|refine Ya1 ?_|refine Ybh ?_|refine Yed ?_|refine Yd7 ?_)
  have hS3 : St W noF [own 206 4 b q rows.flatten,bag X] _ := hS.took
  have hS4 := hS3.bagAdd (a := b) (cs := rows.flatten) fun _ h => h.row
  have hv : Mrd (RX ((b,rows.flatten) :: X)) (dirM l) [.int .i64 2,.int .i64 0,.slice none 0 0,.slice b l.length q] :=
   .mk' rfl (by rw [List.length_map]) (Nat.zero_le _) .nil (.mem (List.mem_cons_self ..)) hMs.1 fun i y cs h1 h2 => (hMs.2 i y cs h1 h2).mono fun _ _ h => h.tail
  refine Zaa _ rfl rfl rfl rfl rfl (Zyz (dirM l) _ _ (hv.ro (hS4.rd (List.mem_cons_self ..)).ro) (Z0n hl) (Zsn hl.2) (by have := Zpv hl; unfold wrD at this; omega) (hG.at_ hS)) ?_
  rintro _ w (⟨h,_⟩ | ⟨_,b',q',rfl,hq',hS'⟩)
  ·exact absurd (Zst l) h
  replace hS := hS.plus hS';clear hS';repeat (first|refine Yd1 ?_|refine Yex ?_|refine Yee ?_|refine Yd3 ?_)
  have hS : St W noF [own 5 1 b' q' (bv (encM (dirM l)))] _ := hS.took
  exact ⟨b',q',rfl,hq',hS⟩
theorem Zzm (a : Option Addr) (s : List UInt8) (c : Nat) (W : World) (hb : Ro W noF (bytes a s)) (hsc : s.length ≤ c) (hl : s.length ≤ 512) (hG : Lg W noF) :
  Calls Tryz.prog 78 #[.slice a s.length c] W (Ret fun v w => ∃ b q,v = .slice b (rdD s).length q ∧ St W noF [own 93 2 b q (nmV (rdD s))] w) := by
 have hS := St.start W
 have hD := Zy3 a s c hsc (by omega)
 unfold rdD
 refine Zab Tryz.func78 rfl Tryz.ntmps78 rfl ?_
 repeat (first|refine Yd1 ?_|refine Yef ?_|refine Yd2 ?_|refine Yab ?_)
 refine Zaa _ rfl rfl rfl rfl rfl (hD _ (hG.at_ hS) ((hb.rd hS).ro)) ?_
 rintro v w hV
 cases hd : decM s with
 | none =>
  rw [hd] at hV;obtain ⟨e,rfl,he,hS'⟩ := hV
  replace hS := hS.plus hS';clear hS';repeat (first|refine Yd1 ?_|(refine X_id ?_;first|refine Yaf ?_|refine Yag ?_|refine Yan ?_|refine Yax ?_|refine Yar ?_|refine Yaq ?_|refine Yao (fun _ hS _ => ?_)|refine Yas (fun _ _ hS _ => ?_))|refine Yd4 ?_|refine Yab ?_)
  refine Zak (α := Unit) (fun _ => [(5,.slice none 0 0),(15,.int .i64 0),(16,.int .i64 0)]) (fun _ w => St W noF [] w) (fun _ => 0) () ⟨rfl,rfl,rfl,trivial⟩ hS.drops ?_
  clear hS;rintro _ w hS
  repeat (first|refine Yd1 ?_|refine Ye2 ?_|refine Yea ?_|refine Ye3 ?_)
  exact ⟨_,_,rfl,hS.own_none _ _ _⟩
 | some t =>
  rw [hd] at hV;obtain ⟨cs,X,rfl,hM,hS'⟩ := hV
  replace hS := hS.plus hS';clear hS';obtain ⟨k,n,tb,l⟩ := t
  obtain ⟨a1,c1,a2,c2,rows,rfl,hc1,hb1,hr1,hMs⟩ := hM.lit
  simp only [Mv.kind,Mv.num,Mv.txt,Mv.lst] at *
  have hll := Zl4 hd
  simp only [Mv.lst] at hll
  repeat (first|refine Yd1 ?_|(refine X_id ?_;first|refine Yaf ?_|refine Yag ?_|refine Yan ?_|refine Yax ?_|refine Yar ?_|refine Yaq ?_|refine Yao (fun _ hS _ => ?_)|refine Yas (fun _ _ hS _ => ?_))|refine Yd4 ?_|refine Yab ?_)
  have hS : St W noF [bag X] _ := hS.took
  obtain ⟨F2,hS2,hro,hw,hbk⟩ := hS.call []
  have hX := hro _ (List.mem_cons_self ..)
  rename_i w1 _ _;refine Zak (α := Nat × Option Addr × Nat × Nat) (fun z => [(5,.slice z.2.1 z.2.2.1 z.2.2.2),(14,.slice a2 l.length c2),(15,.int .i64 (l.length : Nat)),(16,.int .i64 (z.1 : Nat))])
   (fun z w => z.1 ≤ l.length ∧ z.2.2.1 = ((l.take z.1).filterMap Zfk).length ∧ z.2.2.1 ≤ z.2.2.2 ∧ St _ F2 [own 93 2 z.2.1 z.2.2.2 (nmV ((l.take z.1).filterMap Zfk))] w) (fun z => l.length - z.1) (0,none,0,0) ⟨rfl,rfl,rfl,rfl,trivial⟩ ⟨Nat.zero_le _,rfl,Nat.le_refl _,hS2.own_none _ _ _⟩ ?_
  clear hS hS2;rintro ⟨i,b,n,q⟩ w ⟨hi,hn,hnq,hS2⟩
  simp only at hi hn hnq hS2
  by_cases hlt : i < l.length
  ·obtain ⟨y,hyx⟩ : ∃ y,y = l[i] := ⟨_,rfl⟩
   have hy0 : l[i]? = some y := by rw [hyx]; exact List.getElem?_eq_getElem hlt
   have htk : l.take (i + 1) = l.take i ++ [y] := by rw [List.take_succ_eq_append_getElem hlt,← hyx]
   obtain ⟨cs,hxs,hy⟩ := hMs.at_ hy0
   obtain ⟨d1,e1,d2,e2,rows2,rfl,_,_,hr2X,hM2⟩ := hy.lit
   have hr := hr1.ro hX
   obtain ⟨ab,ao,rfl⟩ := hr.start.base (by
    intro e
    rw [e] at hxs;simp at hxs)
   have hS := hS2
   by_cases h2 : y.lst.length = 2
   ·obtain ⟨u,v,huv⟩ : ∃ u v,y.lst = [u,v] := by
     match hh : y.lst with
     | [] => rw [hh] at h2; simp at h2
     | [_] => rw [hh] at h2; simp at h2
     | [u,v] => exact ⟨u,v,rfl⟩
     | _ :: _ :: _ :: _ => rw [hh] at h2; simp at h2
    rw [huv] at hM2;obtain ⟨cu,hcu,hu⟩ := hM2.at_ (i := 0) rfl
    obtain ⟨cv,hcv,hv⟩ := hM2.at_ (i := 1) rfl
    obtain ⟨f1,g1,f2,g2,rows3,rfl,_,hbu,_⟩ := hu.lit
    obtain ⟨f3,g3,f4,g4,rows4,rfl,_⟩ := hv.lit
    have hen : Zfk y = some (u.txt,v.num) := by unfold Zfk; rw [huv]
    repeat (first|refine Yd1 ?_|(refine X_id ?_;first|refine Yan ?_|refine Yar ?_|refine Ybf ?_|refine Ya0 ?_|refine Ybd ?_|refine Yaq ?_|refine Ybp ?_|refine Yao (fun _ hS _ => ?_)|refine Yas (fun _ _ hS _ => ?_))|refine Yd5 ?_|refine Yab ?_)
    have hr := hr2X.ro hX
    obtain ⟨xb,xo,rfl⟩ := hr.start.base (by
     intro e
     rw [e] at hcu;simp at hcu)
    have hx : rows2.flatten[2]? = some (.slice f1 u.txt.length g1) := by
     have := congrArg (fun l => l[2]?) hcu
     simpa [List.getElem?_take,List.getElem?_drop] using this
    have hr2 := hr
    have hx2 : rows2.flatten[5]? = some (.int .i64 v.num) := by
     have := congrArg (fun l => l[1]?) hcv
     simpa [List.getElem?_take,List.getElem?_drop] using this
    have hb := hbu.ro hX
    refine Zaq (.s 0 (.s 1 (.s 2 (.s 3 (.s 4 (.s 5 (.s 6 (.s 7 (.s 8 (.s 9 (.s 10 (.s 11 (.s 12 (.h 13 (.h 14 (.s 15 .nil) .no) .no)))))))))))))) mixed (by kernel_rfl) rfl ?_
    have hS := hS.drew
    repeat (first|refine Ybi (fun _ _ hS _ => ?_)|(refine Zae ?_;first|refine Ya4 ?_|refine Ybk ?_|refine Yc6 ?_|refine Yb8 ?_|refine Yb5 ?_|refine Ybm ?_|refine Ydf ?_|refine Yay ?_|refine Zb1 (fun w' => w'.cell? _ = some _) rfl rfl ((hr2.rd hS).cellF (by first|omega|(dsimp only;omega)) hx2) (fun _ hc => Zaw rfl rfl hc) rfl rfl ?_|refine Zb1 (fun w' => Rd w' (bytes _ _)) rfl rfl (hb.rd hS) (fun _ h => Zcu rfl rfl h rfl) rfl rfl ?_)|(refine Zac ?_;first|refine Yaz ?_))
    have hnw := (hS.rd (List.mem_cons_self ..)).own_row
    have hni : n ≤ i := by
     have := List.length_filterMap_le Zfk (l.take i)
     rw [List.length_take] at this; omega
    refine Zar rfl rfl rfl rfl rfl hS (by rw [Zgk,hn]) hnq hnw rfl (by simp [Value.oneCell']) (by dsimp only; omega) (by simp only [maxLen]; omega) (fun b' q' w hS hq' _ => ?_)
    repeat (first|refine Yd1 ?_|refine Yd6 ?_|refine Yad ?_|refine Yd9 ?_|(refine Zae ?_;first|refine Ye0 ?_)|(refine Zac ?_;first|refine Yaz ?_))
    have hre : (l.take (i + 1)).filterMap Zfk = (l.take i).filterMap Zfk ++ [(u.txt,v.num)] := by rw [htk,List.filterMap_append]; simp [hen]
    refine Zaf (z := (i,b,n,q)) (i + 1,b',n + 1,q') ⟨rfl,rfl,rfl,rfl,trivial⟩ ⟨hlt,by rw [hre,List.length_append,← hn]; rfl,hq',?_⟩ (by dsimp only; omega)
    rw [hre,Zj2];have hS : St w1 F2 [own 93 2 b' q' (nmV ((l.take i).filterMap Zfk) ++ [.string (str u.txt),.int .i64 v.num])] _ := hS.took
    exact hS
   ·have hen : Zfk y = none := by
     unfold Zfk
     match hh : y.lst with
     | [] => rfl
     | [_] => rfl
     | [u,v] => rw [hh] at h2; simp at h2
     | _ :: _ :: _ :: _ => rfl
    repeat (first|refine Yd1 ?_|(refine X_id ?_;first|refine Yaf ?_|refine Yan ?_|refine Yar ?_|refine Ybg ?_|refine Ya0 ?_|refine Ybd ?_|refine Yaw ?_|refine Yaq ?_|refine Ybp ?_|refine Yao (fun _ hS _ => ?_)|refine Yas (fun _ _ hS _ => ?_))|refine Yd8 ?_|refine Yd9 ?_)
    have hre : (l.take (i + 1)).filterMap Zfk = (l.take i).filterMap Zfk := by rw [htk,List.filterMap_append]; simp [hen]
    refine Zaf (z := (i,b,n,q)) (i + 1,b,n,q) ⟨rfl,rfl,rfl,rfl,trivial⟩ ⟨hlt,by rw [hre]; exact hn,hnq,?_⟩ (by dsimp only; omega)
    rw [hre];exact hS.took
  ·obtain rfl : i = l.length := by omega
   have hS := hS2
   rw [List.take_length] at hn hS;repeat (first|refine Yd1 ?_|refine Ye2 ?_|refine Yea ?_|refine Ye3 ?_)
   replace hS := hbk hS
   subst hn
   have hS : St W noF [own 93 2 b q (nmV (l.filterMap Zfk))] _ := hS.took
   exact ⟨b,q,rfl,hS⟩
def okC (c : UInt8) : Prop := (97 ≤ c.toNat ∧ c.toNat ≤ 122) ∨ (48 ≤ c.toNat ∧ c.toNat ≤ 57) ∨ c.toNat = 46 ∨ c.toNat = 45 ∨ c.toNat = 95
instance (c : UInt8) : Decidable (okC c) := by unfold okC; infer_instance
def nameOk (s : List UInt8) : Prop := 1 ≤ s.length ∧ s.length ≤ 24 ∧ s ≠ [46] ∧ s ≠ [46,46] ∧ ∀ c ∈ s,okC c
instance (s : List UInt8) : Decidable (nameOk s) := by unfold nameOk; infer_instance
theorem Z4w (c : UInt8) (W : World) : Calls Tryz.prog 135 #[.int .u8 (c.toNat : Int)] W (Ret fun v w => v = .bool (decide (okC c)) ∧ St W noF [] w) := by
 have hS := St.start W
 refine Zab Tryz.func135 rfl Tryz.ntmps135 rfl ?_
 repeat' (first | (refine G_id ?_; first | refine Zpt ?_ | refine Zew rfl rfl ?_ | refine Zzi rfl rfl rfl rfl ?_ | refine G_no rfl rfl rfl rfl rfl rfl ?_ | refine Zma rfl rfl rfl rfl rfl ?_) | (refine X_id ?_; first | refine X_yl (Zb0 rfl rfl) rfl rfl ?_ | refine X_yl (Zbb rfl rfl) rfl rfl ?_ | refine X_yl (Zkv rfl rfl rfl) rfl rfl ?_ | refine X_yl (Zho rfl rfl rfl) rfl rfl ?_ | refine X_yl (Zhs rfl rfl rfl (by omega)) rfl rfl ?_ | refine X_yl (Zng rfl rfl rfl (by omega)) rfl rfl ?_ | refine X_yl (Zje rfl rfl rfl (by omega)) rfl rfl ?_ | refine X_yl (Zpm rfl rfl rfl) rfl rfl ?_ | refine X_yl (Zwr rfl rfl rfl) rfl rfl ?_ | refine X_yl (Zs1 rfl rfl rfl) rfl rfl ?_) | (refine C_id ?_; first | refine Zcm ?_ | refine Zat ?_ | refine Zi2 ?_) | (refine E_id ?_; first | refine Zdd ?_ | refine Ziv rfl (Zbo rfl) (Ret.mk ?_)) | (refine Zih (d := 5) rfl ?_ ?_ <;> intro hd) | (refine Zih (d := 9) rfl ?_ ?_ <;> intro hd) | (refine Zih (d := 12) rfl ?_ ?_ <;> intro hd) | (refine Zih (d := 17) rfl ?_ ?_ <;> intro hd) | (refine Zih (d := 21) rfl ?_ ?_ <;> intro hd) | (refine Zih (d := 25) rfl ?_ ?_ <;> intro hd) | (refine Zii rfl ?_ ?_ <;> intro hd))
 all_goals
  refine ⟨?_,hS⟩
  congr 1
  unfold okC
  first | (symm; exact decide_eq_true (by omega)) | (symm; exact decide_eq_false (by omega)) | exact decide_eq_decide.2 (by omega)
theorem Zcz {s : List UInt8} (h : s.length < 1 ∨ 24 < s.length ∨ s = [46] ∨ s = [46,46]) : decide (nameOk s) = false := by
 refine decide_eq_false fun q => ?_
 obtain ⟨q1,q2,q3,q4,_⟩ := q
 rcases h with h | h | h | h
 ·omega
 ·omega
 ·exact q3 h
 ·exact q4 h
theorem Z3g (s : List UInt8) (W : World) : Calls Tryz.prog 71 #[.string (str s)] W (Ret fun v w => v = .bool (decide (nameOk s)) ∧ St W noF [] w) := by
 have hS := St.start W
 have hz := Zb2 s
 by_cases h1 : s.length < 1
 ·rw [Zcz (.inl h1)]
  refine Zab Tryz.func71 rfl Tryz.ntmps71 rfl ?_
  repeat (first|refine Yek ?_|(refine X_id ?_;first|refine Yaf ?_|refine Yag ?_|refine Yba ?_|refine Yb0 ?_|refine Ya0 ?_)|refine Yae ?_|refine Yce ?_|refine Yad ?_|refine Yah ?_|refine Yaj ?_|refine Yfb ?_)
  exact ⟨rfl,hS⟩
 by_cases h2 : 24 < s.length
 ·rw [Zcz (.inr (.inl h2))]
  refine Zab Tryz.func71 rfl Tryz.ntmps71 rfl ?_
  repeat (first|refine Yev ?_|(refine X_id ?_;first|refine Yaf ?_|refine Yag ?_|refine Yba ?_|refine Ya3 ?_|refine Yb0 ?_|refine Ya1 ?_|refine Ybv ?_)|refine Yae ?_|refine Yce ?_|refine Yad ?_|refine Yah ?_|refine Yaj ?_|refine Yfb ?_)
  exact ⟨rfl,hS⟩
 by_cases h3 : s = [46]
 ·rw [Zcz (.inr (.inr (.inl h3)))]
  refine Zab Tryz.func71 rfl Tryz.ntmps71 rfl ?_
  repeat (first|refine Yev ?_|(refine X_id ?_;first|refine Yaf ?_|refine Yag ?_|refine Yba ?_|refine Ya3 ?_|refine Yb0 ?_|refine Ya1 ?_|refine Ybq ?_|refine Yck ?_)|refine Yae ?_|refine Yce ?_|refine Yad ?_|refine Yah ?_|refine Yaj ?_|refine Yfb ?_)
  exact ⟨rfl,hS⟩
 by_cases h4 : s = [46,46]
 ·rw [Zcz (.inr (.inr (.inr h4)))]
  refine Zab Tryz.func71 rfl Tryz.ntmps71 rfl ?_
  repeat (first|refine Yeh ?_|(refine X_id ?_;first|refine Yaf ?_|refine Yag ?_|refine Ya3 ?_|refine Yb0 ?_|refine Ya1 ?_|refine Ybq ?_|refine Yck ?_|refine Ycc ?_)|refine Yae ?_|refine Yce ?_|refine Yad ?_|refine Yah ?_|refine Yaj ?_|refine Yfb ?_)
  exact ⟨rfl,hS⟩
 refine Zab Tryz.func71 rfl Tryz.ntmps71 rfl ?_
 repeat (first|refine Yeh ?_|(refine X_id ?_;first|refine Yaf ?_|refine Yag ?_|refine Ya3 ?_|refine Yb0 ?_|refine Ya1 ?_|refine Ybq ?_|refine Ycc ?_)|refine Yae ?_|refine Zgv ?_|refine Yce ?_|refine Yad ?_|refine Yal ?_|refine Yak ?_|refine Yai ?_|refine Yab ?_)
 refine Zcd (α := Unit) (fun _ => []) (fun _ w => (∀ c ∈ s,okC c) ∧ St W noF [] w) ?_ ?_
 ·refine Zak (α := Nat) (fun i => [(0,.string (str s)),(21,.int .i64 (s.length : Nat)),(22,.int .i64 (i : Nat))]) (fun i w => i ≤ s.length ∧ (∀ c ∈ s.take i,okC c) ∧ St W noF [] w) (fun i => s.length - i) 0 ⟨rfl,rfl,rfl,trivial⟩ ⟨Nat.zero_le _,fun c hc => by simp at hc,hS⟩ ?_
  clear hS;rintro i w ⟨hi,hok,hS⟩
  by_cases hlt : i < s.length
  ·obtain ⟨x,hx0⟩ : ∃ x,s[i]? = some x := ⟨_,List.getElem?_eq_getElem hlt⟩
   have hx : s[((i : Nat) : Int).toNat]? = some x := hx0
   have hq := Z4w x
   by_cases hc : okC x
   ·rw [decide_eq_true hc] at hq
    repeat (first|refine Yd1 ?_|(refine X_id ?_;first|(refine Zad 135 rfl rfl rfl rfl rfl hS (hq _) ?_;rintro _ _ rfl hS)|refine Yaf ?_|refine Yag ?_|refine Ya0 ?_|refine Yaw ?_|refine Yc0 ?_)|refine Yae ?_|refine Yad ?_|refine Yal ?_|refine Yak ?_|refine Ya6 ?_|refine Yaj ?_|refine Yd7 ?_)
    refine Zaf (z := i) (i + 1) ⟨rfl,rfl,rfl,trivial⟩ ⟨hlt,fun c hc' => ?_,hS⟩ (by omega)
    rw [List.take_add_one,hx0] at hc';rcases List.mem_append.1 hc' with h | h
    ·exact hok c h
    ·obtain rfl : c = x := by simpa using h
     exact hc
   ·rw [decide_eq_false hc] at hq
    repeat (first|refine Yd1 ?_|(refine X_id ?_;first|(refine Zad 135 rfl rfl rfl rfl rfl hS (hq _) ?_;rintro _ _ rfl hS)|refine Yaf ?_|refine Yag ?_|refine Ya0 ?_|refine Yc0 ?_)|refine Ye9 ?_|refine Yab ?_|refine Yap ?_|refine Yb3 ?_|refine Ya9 ?_|refine Yam ?_)
    refine ⟨?_,hS⟩
    rw [decide_eq_false (fun q : nameOk s => hc (q.2.2.2.2 x (List.mem_of_getElem? hx0)))]
  ·repeat (first|refine Yd1 ?_|refine Ya1 ?_|refine Yed ?_|refine Yd7 ?_)
   refine Zcb () trivial ⟨?_,hS⟩
   rwa [List.take_of_length_le (by omega)] at hok
 ·clear hS
  rintro _ w ⟨hok,hS⟩
  repeat (first|refine Yd1 ?_|refine Yag ?_|refine Yee ?_|refine Yab ?_|refine Yb3 ?_|refine Yam ?_)
  refine ⟨?_,hS⟩
  rw [decide_eq_true (show nameOk s from ⟨by omega,by omega,h3,h4,hok⟩)]
def ixN (s : List UInt8) : List Nm → Int
 | [] => -1
 | x :: l => if x.1 = s then 0 else if ixN s l < 0 then -1 else ixN s l + 1
theorem Zzy (s : List UInt8) : ∀ l : List Nm,-1 ≤ ixN s l
 | [] => by simp [ixN]
 | x :: l => by
  have := Zzy s l
  unfold ixN; split
  ·omega
  ·split <;> omega
theorem Zvq {s : List UInt8} : ∀ {l : List Nm} {k : Nat} {x : Nm},l[k]? = some x → x.1 = s → (∀ j,j < k → ∀ y,l[j]? = some y → y.1 ≠ s) → ixN s l = k
 | y :: l,0,x,h,hx,_ => by
  obtain rfl : y = x := by simpa using h
  simp [ixN,hx]
 | y :: l,k + 1,x,h,hx,hb => by
  have h0 := hb 0 (by omega) y rfl
  have ih := Zvq (l := l) (k := k) (by simpa using h) hx fun j hj z hz => hb (j + 1) (by omega) z (by simpa using hz)
  rw [ixN,if_neg h0,ih,if_neg (by omega)]; omega
theorem Zms {s : List UInt8} : ∀ {l : List Nm},(∀ x ∈ l,x.1 ≠ s) → ixN s l = -1
 | [],_ => rfl
 | y :: l,h => by
  rw [ixN,if_neg (h y (List.mem_cons_self ..)),Zms fun x hx => h x (List.mem_cons_of_mem _ hx)]; rfl
def strV (p : List (List UInt8)) : List Value := p.map fun s => .string (str s)
theorem Zep (p : List (List UInt8)) : (strV p).length = p.length := by simp [strV]
theorem Zp2 {p : List (List UInt8)} {i : Nat} {s : List UInt8} (h : p[i]? = some s) : (strV p)[i]? = some (.string (str s)) := by simp [strV,h]
def Zav (p : List (List UInt8)) : Prop := p.length ≤ 8 ∧ ∀ s ∈ p,nameOk s
instance (p : List (List UInt8)) : Decidable (Zav p) := by unfold Zav; infer_instance

theorem Zz0 (x : Nm) (b : Nat) (s : List UInt8) (T : TypeId) (fz : Nat × Nat) (W : World) (hb : Rd W (pts b (.cells (List.toArray [.string (str s)]) T fz))) :
  Calls Tryz.prog 90 #[.agg (List.toArray [.string (str x.1),.int .i64 x.2]),.pointer (some ⟨b,0,none⟩)] W (Ret fun v w => v = .bool (decide (x.1 = s)) ∧ St W noF [] w) := by
 have hc := hb.ro
 have hS := St.start W
 by_cases h : x.1 = s
 ·refine Zab Tryz.func90 rfl Tryz.ntmps90 rfl ?_
  repeat (first|refine Yd1 ?_|(refine X_id ?_;first|refine Yag ?_|refine Yan ?_|refine Yaq ?_|refine Ybc (fun _ _ hS _ => ?_)|refine Yck ?_|refine Ycj ?_)|refine Yee ?_|refine Yd3 ?_)
  refine ⟨?_,hS.drops⟩
  simp [h]
 ·have h' : str x.1 ≠ str s := fun e => h (Zut e)
  refine Zab Tryz.func90 rfl Tryz.ntmps90 rfl ?_
  repeat (first|refine Yd1 ?_|(refine X_id ?_;first|refine Yag ?_|refine Yan ?_|refine Yaq ?_|refine Ybc (fun _ _ hS _ => ?_)|refine Ycc ?_|refine Ycj ?_)|refine Yee ?_|refine Yd3 ?_)
  refine ⟨?_,hS.drops⟩
  simp [h,h']
theorem Zym (a : Option Addr) (l : List Nm) (c b : Nat) (s : List UInt8) (T : TypeId) (fz : Nat × Nat) (W : World) (hr0 : Rd W (row a (nmV l))) (hb : Rd W (pts b (.cells (List.toArray [.string (str s)]) T fz))) (hl : l.length ≤ 1048576) :
  Calls Tryz.prog 89 #[.slice a l.length c,.func (.func 90) #[] #[.pointer (some ⟨b,0,none⟩)]] W (Ret fun v w => v = .int .i64 (ixN s l) ∧ St W noF [] w) := by
 have hbo := hb.ro
 have hr1 := hr0.ro
 have hS := St.start W
 refine Zab Tryz.func89 rfl Tryz.ntmps89 rfl ?_
 repeat (first|refine Yd1 ?_|refine Ye1 ?_|refine Yd4 ?_|refine Yab ?_)
 refine Zak (α := Nat) (fun k => [(0,.slice a l.length c),(1,.func (.func 90) #[] #[.pointer (some ⟨b,0,none⟩)]),(7,.int .i64 (l.length : Nat)),(8,.int .i64 (k : Nat))])
  (fun k w => k ≤ l.length ∧ (∀ j,j < k → ∀ y,l[j]? = some y → y.1 ≠ s) ∧ St W noF [] w) (fun k => l.length - k) 0 ⟨rfl,rfl,rfl,rfl,trivial⟩ ⟨Nat.zero_le _,fun j hj => absurd hj (by omega),hS⟩ ?_
 clear hS;rintro k w ⟨hk,hne,hS2⟩
 by_cases hlt : k < l.length
 ·have hx0 : l[k]? = some l[k] := List.getElem?_eq_getElem (by omega)
  generalize l[k] = x at hx0;have hr := hr1
  have hxs : ((nmV l).drop (k * 2)).take 2 = [.string (str x.1),.int .i64 x.2] := Zhc hx0
  obtain ⟨xb,xo,rfl⟩ := (hr.rd hS2).base (by intro e; rw [e] at hxs; simp at hxs)
  have hS := hS2
  by_cases hq : x.1 = s
  ·have hc1 := fun w h => Zz0 x b s T fz w h
   rw [decide_eq_true hq] at hc1;repeat (first|refine Yd1 ?_|(refine X_id ?_;first|refine Yaf ?_|refine Yag ?_|refine Ya0 ?_|refine Ybd ?_|refine Ybp ?_)|refine Yd5 ?_|refine Yab ?_)
   refine Zca (first := []) (captured := [.pointer (some ⟨b,0,none⟩)]) rfl rfl rfl rfl rfl (hc1 _ (hbo.rd hS)) ?_
   rintro _ w' ⟨rfl,hS'⟩
   replace hS := hS.plus hS';clear hS';repeat (first|refine Yd1 ?_|refine Yef ?_|refine Yei ?_|refine Yem ?_)
   exact ⟨by rw [Zvq hx0 hq hne],hS⟩
  ·have hc1 := fun w h => Zz0 x b s T fz w h
   rw [decide_eq_false hq] at hc1;repeat (first|refine Yd1 ?_|(refine X_id ?_;first|refine Yaf ?_|refine Yag ?_|refine Ya0 ?_|refine Ybd ?_|refine Ybp ?_)|refine Yd5 ?_|refine Yab ?_)
   refine Zca (first := []) (captured := [.pointer (some ⟨b,0,none⟩)]) rfl rfl rfl rfl rfl (hc1 _ (hbo.rd hS)) ?_
   rintro _ w' ⟨rfl,hS'⟩
   replace hS := hS.plus hS';clear hS';repeat (first|refine Yd1 ?_|refine Yd6 ?_|refine Yes ?_|refine Yd9 ?_)
   refine Zaf (k + 1) ⟨rfl,rfl,rfl,rfl,trivial⟩ ⟨by omega,fun j hj y hy => ?_,hS⟩ (by omega)
   by_cases hjk : j = k
   ·subst hjk; rw [hx0] at hy; cases hy; exact hq
   ·exact hne j (by omega) y hy
 ·obtain rfl : k = l.length := by omega
  have hS := hS2
  repeat (first|refine Yd1 ?_|refine Yag ?_|refine Ya1 ?_|refine Yea ?_|refine Ye3 ?_)
  rw [Zms fun x hx => (by
   obtain ⟨j,hj,he⟩ := List.mem_iff_getElem.1 hx
   exact hne j hj x (by rw [List.getElem?_eq_getElem hj,he]))]
  exact ⟨rfl,hS⟩
theorem Z3y (a : Option Addr) (l : List Nm) (c : Nat) (s : List UInt8) (W : World) (hr : Rd W (row a (nmV l))) (hl : l.length ≤ 1048576) :
  Calls Tryz.prog 48 #[.slice a l.length c,.string (str s)] W (Ret fun v w => v = .int .i64 (ixN s l) ∧ St W noF [] w) := by
 have hro := hr.ro
 have hS := St.start W
 refine Zab Tryz.func48 rfl Tryz.ntmps48 rfl ?_
 repeat (first|refine Yd1 ?_|refine Yaf ?_|refine Yag ?_|refine Ycd ?_|refine Ybc (fun _ _ hS _ => ?_)|refine Yd2 ?_|refine Yab ?_)
 refine Zaa _ rfl rfl rfl rfl rfl (Zym a l c _ s _ _ _ (hro.rd hS) (hS.rd (List.mem_cons_self ..)) hl) ?_
 rintro _ w' ⟨rfl,hS'⟩
 replace hS := hS.plus hS';clear hS';repeat (first|refine Yd1 ?_|refine Yag ?_|refine Yah ?_|refine Yd3 ?_)
 exact ⟨rfl,hS.drops⟩
theorem Zu2 (s : List UInt8) (W : World) : Calls Tryz.prog 138 #[.string (str s)] W (Ret fun v w => v = .bool (!decide (nameOk s)) ∧ St W noF [] w) := by
 have hS := St.start W
 have hn := fun W => Z3g s W
 refine Zab Tryz.func138 rfl Tryz.ntmps138 rfl ?_
 repeat (first|refine Yd1 ?_|(refine X_id ?_;first|(refine Zad 71 rfl rfl rfl rfl rfl hS (hn _) ?_;rintro _ _ rfl hS)|refine Yaf ?_|refine Yag ?_|refine X_yl (Z4h rfl rfl) rfl rfl ?_)|refine Yee ?_|refine Yd3 ?_)
 exact ⟨by simp,hS⟩
theorem Zyl (a : Option Addr) (p : List (List UInt8)) (c : Nat) (W : World) (hr0 : Rd W (row a (strV p))) (hl : p.length ≤ 1048576) :
  Calls Tryz.prog 178 #[.slice a p.length c,.func (.func 138) #[] #[]] W (Ret fun v w => (∃ z : Int,v = .int .i64 z ∧ (z < 0 ↔ ∀ s ∈ p,nameOk s)) ∧ St W noF [] w) := by
 have hr1 := hr0.ro
 have hS := St.start W
 refine Zab Tryz.func178 rfl Tryz.ntmps178 rfl ?_
 repeat (first|refine Yd1 ?_|refine Ye1 ?_|refine Yd4 ?_|refine Yab ?_)
 refine Zak (α := Nat) (fun k => [(0,.slice a p.length c),(1,.func (.func 138) #[] #[]),(7,.int .i64 (p.length : Nat)),(8,.int .i64 (k : Nat))])
  (fun k w => k ≤ p.length ∧ (∀ j,j < k → ∀ y,p[j]? = some y → nameOk y) ∧ St W noF [] w) (fun k => p.length - k) 0 ⟨rfl,rfl,rfl,rfl,trivial⟩ ⟨Nat.zero_le _,fun j hj => absurd hj (by omega),hS⟩ ?_
 clear hS;rintro k w ⟨hk,hne,hS2⟩
 by_cases hlt : k < p.length
 ·have hx0 : p[k]? = some p[k] := List.getElem?_eq_getElem (by omega)
  generalize p[k] = x at hx0;have hr := hr1
  have hx := Zp2 hx0
  obtain ⟨xb,xo,rfl⟩ := (hr.rd hS2).base (by intro e; rw [e] at hx; simp at hx)
  have hS := hS2
  by_cases hq : nameOk x
  ·have hc1 := fun w => Zu2 x w
   rw [decide_eq_true hq] at hc1;repeat (first|refine Yd1 ?_|refine Yey ?_|refine Yd5 ?_|refine Yab ?_)
   refine Zca (first := []) (captured := []) rfl rfl rfl rfl rfl (hc1 _) ?_
   rintro _ w' ⟨rfl,hS'⟩
   replace hS := hS.plus hS';clear hS';repeat (first|refine Yd1 ?_|refine Yd6 ?_|refine Yes ?_|refine Yd9 ?_)
   refine Zaf (k + 1) ⟨rfl,rfl,rfl,rfl,trivial⟩ ⟨by omega,fun j hj y hy => ?_,hS⟩ (by omega)
   by_cases hjk : j = k
   ·subst hjk; rw [hx0] at hy; cases hy; exact hq
   ·exact hne j (by omega) y hy
  ·have hc1 := fun w => Zu2 x w
   rw [decide_eq_false hq] at hc1;repeat (first|refine Yd1 ?_|refine Yey ?_|refine Yd5 ?_|refine Yab ?_)
   refine Zca (first := []) (captured := []) rfl rfl rfl rfl rfl (hc1 _) ?_
   rintro _ w' ⟨rfl,hS'⟩
   replace hS := hS.plus hS';clear hS';repeat (first|refine Yd1 ?_|refine Yef ?_|refine Yei ?_|refine Yem ?_)
   exact ⟨⟨(k : Nat),rfl,⟨fun h => absurd h (by omega),fun h => absurd (h x (List.mem_of_getElem? hx0)) hq⟩⟩,hS⟩
 ·obtain rfl : k = p.length := by omega
  have hS := hS2
  repeat (first|refine Yd1 ?_|refine Yag ?_|refine Ya1 ?_|refine Yea ?_|refine Ye3 ?_)
  refine ⟨⟨-1,rfl,⟨fun _ s hs => ?_,fun _ => by omega⟩⟩,hS⟩
  obtain ⟨j,hj,he⟩ := List.mem_iff_getElem.1 hs
  exact hne j hj s (by rw [List.getElem?_eq_getElem hj,he])
theorem Zu8 (a : Option Addr) (p : List (List UInt8)) (c : Nat) (W : World) (hr : Rd W (row a (strV p))) (hl : p.length ≤ 1048576) :
  Calls Tryz.prog 75 #[.slice a p.length c] W (Ret fun v w => v = .bool (decide (Zav p)) ∧ St W noF [] w) := by
 have hro := hr.ro
 have hS := St.start W
 by_cases h8 : p.length ≤ 8
 ·have hcf : ∀ W,Rd W (row a (strV p)) → Calls Tryz.prog 137 #[.slice a p.length c,.func (.func 138) #[] #[]] W (Ret fun v w => v = .bool (!decide (Zav p)) ∧ St W noF [] w) := by
   intro W hr
   have hS := St.start W
   refine Zab Tryz.func137 rfl Tryz.ntmps137 rfl ?_
   repeat (first|refine Yd1 ?_|refine Yef ?_|refine Yd2 ?_|refine Yab ?_)
   refine Zaa _ rfl rfl rfl rfl rfl (Zyl a p c _ hr hl) ?_
   rintro _ w ⟨⟨z,rfl,hz⟩,hS'⟩
   replace hS := hS.plus hS';clear hS';by_cases h : z < 0
   ·repeat (first|refine Yd1 ?_|refine Yag ?_|refine Yb9 ?_|refine Yah ?_|refine Yd3 ?_)
    have : Zav p := ⟨h8,hz.1 h⟩
    exact ⟨by simp [this],hS⟩
   ·repeat (first|refine Yd1 ?_|refine Yag ?_|refine Yb6 ?_|refine Yah ?_|refine Yd3 ?_)
    have : ¬ Zav p := fun q => h (hz.2 q.2)
    exact ⟨by simp [this],hS⟩
  refine Zab Tryz.func75 rfl Tryz.ntmps75 rfl ?_
  repeat (first|refine Yeh ?_|(refine X_id ?_;first|(refine Zad 137 rfl rfl rfl rfl rfl hS (hcf _ (hro.rd hS)) ?_;rintro _ _ rfl hS)|refine Yaf ?_|refine Yag ?_|refine Yba ?_|refine X_yl (Znd rfl rfl) rfl rfl ?_|refine Yar ?_|refine Ydo ?_)|refine Yee ?_|refine Yd3 ?_)
  refine ⟨by simp,hS⟩
 ·have : ¬ Zav p := fun q => h8 q.1
  refine Zab Tryz.func75 rfl Tryz.ntmps75 rfl ?_
  repeat (first|refine Yek ?_|(refine X_id ?_;first|refine Yaf ?_|refine Yag ?_|refine Ya3 ?_|refine Yar ?_|refine X_yl (Zng rfl rfl rfl (by omega)) rfl rfl ?_)|refine Yee ?_|refine Yd3 ?_)
  exact ⟨by simp [this],hS⟩
end Cr
namespace Cr
open Go
set_option maxHeartbeats 64000000

inductive Tn where
 | mk (nm : List UInt8) (no : Int) (st : StatM) (data : List UInt8) (kids : List Tn)
def Tn.nm : Tn → List UInt8 | .mk nm _ _ _ _ => nm
def Tn.no : Tn → Int | .mk _ no _ _ _ => no
def Tn.st : Tn → StatM | .mk _ _ st _ _ => st
def Tn.data : Tn → List UInt8 | .mk _ _ _ data _ => data
def Tn.kids : Tn → List Tn | .mk _ _ _ _ kids => kids
def Tn.names (t : Tn) : List Nm := t.kids.map fun k => (k.nm,k.no)
def Tn.nd (t : Tn) : Nd := ⟨t.st,if t.st.kind = 1 then wrD t.names else t.data⟩
mutual
def subT : Tn → List Tn
 | .mk nm no st data kids => .mk nm no st data kids :: subL kids
def subL : List Tn → List Tn
 | [] => []
 | k :: l => subT k ++ subL l
end
mutual
def hgtT : Tn → Nat
 | .mk _ _ _ _ kids => hgtL kids
def hgtL : List Tn → Nat
 | [] => 0
 | k :: l => max (1 + hgtT k) (hgtL l)
end
def ent (u : Tn) : Int × Nd := (u.no,u.nd)
def Zcl (t : Tn) : List (Int × Nd) := (subT t).map ent
def Zc5 (l : List Tn) : List (Int × Nd) := (subL l).map ent
def Nt (t : Tn) (no : Int) : Option Nd := getA no (Zcl t)
def ltS (a b : List UInt8) : Prop := Lib.compareBytes a b < 0
instance (a b : List UInt8) : Decidable (ltS a b) := by unfold ltS; infer_instance
theorem Zwe : ∀ a : List UInt8,Lib.compareBytes a a = 0
 | [] => rfl
 | x :: a => by rw [Lib.compareBytes,if_neg (UInt8.lt_irrefl x),if_neg (UInt8.lt_irrefl x),Zwe a]
theorem Z38 : ∀ {a b : List UInt8},Lib.compareBytes a b = 0 → a = b
 | [],[],_ => rfl
 | [],_ :: _,h => by rw [Lib.compareBytes] at h; cases h
 | _ :: _,[],h => by rw [Lib.compareBytes] at h; cases h
 | x :: a,y :: b,h => by
  rw [Lib.compareBytes] at h
  split at h
  ·cases h
  ·rename_i h1
   split at h
   ·cases h
   ·rename_i h2
    rw [Z38 h,UInt8.le_antisymm (UInt8.not_lt.1 h2) (UInt8.not_lt.1 h1)]
theorem Zsw : ∀ {a b c : List UInt8},Lib.compareBytes a b < 0 → Lib.compareBytes b c < 0 → Lib.compareBytes a c < 0
 | [],[],c,h,_ => by rw [Lib.compareBytes] at h; cases h
 | [],_ :: _,[],_,h => by rw [Lib.compareBytes] at h; cases h
 | [],_ :: _,_ :: _,_,_ => by rw [Lib.compareBytes]; decide
 | _ :: _,[],c,h,_ => by rw [Lib.compareBytes] at h; cases h
 | _ :: _,_ :: _,[],_,h => by rw [Lib.compareBytes] at h; cases h
 | x :: a,y :: b,z :: c,h1,h2 => by
  rw [Lib.compareBytes] at h1 h2 ⊢;by_cases hxy : x < y
  ·by_cases hyz : y < z
   ·rw [if_pos (UInt8.lt_trans hxy hyz)]; decide
   ·rw [if_neg hyz] at h2
    by_cases hzy : z < y
    ·rw [if_pos hzy] at h2; cases h2
    ·have : y = z := UInt8.le_antisymm (UInt8.not_lt.1 hzy) (UInt8.not_lt.1 hyz)
     subst this
     rw [if_pos hxy]; decide
  ·rw [if_neg hxy] at h1
   by_cases hyx : y < x
   ·rw [if_pos hyx] at h1; cases h1
   ·rw [if_neg hyx] at h1
    have : x = y := UInt8.le_antisymm (UInt8.not_lt.1 hyx) (UInt8.not_lt.1 hxy)
    subst this
    by_cases hyz : x < z
    ·rw [if_pos hyz]; decide
    ·rw [if_neg hyz] at h2 ⊢
     by_cases hzy : z < x
     ·rw [if_pos hzy] at h2; cases h2
     ·rw [if_neg hzy] at h2 ⊢
      exact Zsw h1 h2
theorem Zr8 {a b : List UInt8} (h : ltS a b) : a ≠ b := fun e => by subst e; unfold ltS at h; rw [Zwe] at h; cases h
theorem Zoh {a b c : List UInt8} (h : ltS a b) (h2 : ltS b c) : ltS a c := Zsw h h2
theorem Zx9 {a b : List UInt8} (h : ¬ ltS a b) (hne : a ≠ b) : ltS b a := by
 unfold ltS at *
 have key : ∀ a b : List UInt8,0 < Lib.compareBytes a b → Lib.compareBytes b a < 0 := by
  intro a
  induction a with
  | nil => intro b h; cases b <;> (rw [Lib.compareBytes] at h; cases h)
  | cons x a ih =>
   intro b h
   cases b with
   | nil => rw [Lib.compareBytes]; decide
   | cons y b =>
    rw [Lib.compareBytes] at h ⊢;by_cases hxy : x < y
    ·rw [if_pos hxy] at h; cases h
    ·rw [if_neg hxy] at h
     by_cases hyx : y < x
     ·rw [if_pos hyx]; decide
     ·rw [if_neg hyx] at h ⊢
      rw [if_neg hxy];exact ih b h
 have h0 : Lib.compareBytes a b ≠ 0 := fun e => hne (Z38 e)
 exact key a b (by omega)
structure TnOk (n : Nat) (u : Tn) : Prop where
 chk : u.st.check = 0
 low : 0 ≤ u.no ∧ u.no < n
 dir : u.st.kind = 1 → u.data = [] ∧ (wrD u.names).length ≤ 512
 rise : u.kids.Pairwise fun a b => ltS a.nm b.nm
 nmk : ∀ k ∈ u.kids,nameOk k.nm
 leaf : u.st.kind ≠ 1 → u.kids = [] ∧ u.data.length ≤ 512
structure TreeOk (n : Nat) (t : Tn) : Prop where
 node : ∀ u ∈ subT t,TnOk n u
 nodup : ((Zcl t).map (·.1)).Nodup
 root : t.no = 0 ∧ t.st.kind = 1
 high : hgtT t ≤ 8
 small : n ≤ 1000000
theorem Ze6 (t : Tn) : subT t = t :: subL t.kids := by cases t; rw [subT]; rfl
theorem Zd0 (t : Tn) : t ∈ subT t := by rw [Ze6]; exact List.mem_cons_self ..
theorem mem_subL : ∀ {l : List Tn} {u : Tn},u ∈ subL l ↔ ∃ k ∈ l,u ∈ subT k
 | [],u => by simp [subL]
 | k :: l,u => by
  rw [subL,List.mem_append,mem_subL];simp
theorem Zj3 {t k : Tn} (h : k ∈ t.kids) : k ∈ subT t := by
 rw [Ze6]; exact List.mem_cons_of_mem _ (mem_subL.2 ⟨k,h,Zd0 k⟩)
theorem Ze5 {t k u : Tn} (h : k ∈ t.kids) (hu : u ∈ subT k) : u ∈ subT t := by
 rw [Ze6]; exact List.mem_cons_of_mem _ (mem_subL.2 ⟨k,h,hu⟩)
mutual
theorem Zcx : ∀ {t u v : Tn},u ∈ subT t → v ∈ subT u → v ∈ subT t
 | .mk nm no st data kids,u,v,hu,hv => by
  rw [subT] at hu ⊢;rcases List.mem_cons.1 hu with rfl | hu
  ·rw [subT] at hv; exact hv
  ·exact List.mem_cons_of_mem _ (Zlc hu hv)
theorem Zlc : ∀ {l : List Tn} {u v : Tn},u ∈ subL l → v ∈ subT u → v ∈ subL l
 | [],u,v,hu,_ => by rw [subL] at hu; cases hu
 | k :: l,u,v,hu,hv => by
  rw [subL] at hu ⊢;rcases List.mem_append.1 hu with hu | hu
  ·exact List.mem_append_left _ (Zcx hu hv)
  ·exact List.mem_append_right _ (Zlc hu hv)
end
theorem Zi7 : ∀ {l : List Tn} {k : Tn},k ∈ l → 1 + hgtT k ≤ hgtL l
 | x :: l,k,h => by
  rw [hgtL];rcases List.mem_cons.1 h with rfl | h
  ·exact Nat.le_max_left _ _
  ·exact Nat.le_trans (Zi7 h) (Nat.le_max_right _ _)
theorem Zff (t : Tn) : hgtT t = hgtL t.kids := by cases t; rw [hgtT]; rfl
def kidT (s : List UInt8) (l : List Tn) : Option Tn := l.find? fun k => decide (k.nm = s)
def Zaz (u : Tn) (s : List UInt8) : Except Int Tn :=
 if u.st.kind = 1 then match kidT s u.kids with
  | some k => .ok k
  | none => .error 7
 else .error 17
def goT : Tn → List (List UInt8) → Except Int Tn
 | t,[] => .ok t
 | t,s :: p => match Zaz t s with
  | .ok k => goT k p
  | .error e => .error e
theorem Zi5 {s : List UInt8} {l : List Tn} {k : Tn} (h : kidT s l = some k) : k ∈ l ∧ k.nm = s :=
 ⟨List.mem_of_find?_eq_some h,by simpa using List.find?_some h⟩
theorem Zi8 {u k : Tn} {s : List UInt8} (h : Zaz u s = .ok k) : u.st.kind = 1 ∧ k ∈ u.kids ∧ k.nm = s := by
 unfold Zaz at h
 split at h
 ·rename_i hk
  split at h
  ·rename_i x hx
   injection h with h
   subst h
   exact ⟨hk,Zi5 hx⟩
  ·cases h
 ·cases h
theorem Zkb {u : Tn} {s : List UInt8} {e : Int} (h : Zaz u s = .error e) : e = 7 ∨ e = 17 := by
 unfold Zaz at h
 split at h
 ·split at h
  ·cases h
  ·injection h with h; exact .inl h.symm
 ·injection h with h; exact .inr h.symm
theorem Zba : ∀ {p : List (List UInt8)} {t u : Tn},goT t p = .ok u → u ∈ subT t
 | [],t,u,h => by
  rw [goT] at h; injection h with h; subst h; exact Zd0 t
 | s :: p,t,u,h => by
  rw [goT] at h;cases hs : Zaz t s with
  | error e => rw [hs] at h; cases h
  | ok k => rw [hs] at h; exact Ze5 (Zi8 hs).2.1 (Zba h)
theorem Zqs : ∀ {p : List (List UInt8)} {t : Tn} {e : Int},goT t p = .error e → e = 7 ∨ e = 17
 | [],t,e,h => by rw [goT] at h; cases h
 | s :: p,t,e,h => by
  rw [goT] at h;cases hs : Zaz t s with
  | error e' => rw [hs] at h; injection h with h; subst h; exact Zkb hs
  | ok k => rw [hs] at h; exact Zqs h
theorem Zcw : ∀ (p : List (List UInt8)) (t : Tn) (s : List UInt8),goT t (p ++ [s]) = match goT t p with | .ok u => Zaz u s | .error e => .error e
 | [],t,s => by
  show goT t [s] = Zaz t s
  rw [goT];cases Zaz t s <;> simp [goT]
 | x :: p,t,s => by
  rw [List.cons_append,goT,goT];cases Zaz t x with
  | error e => rfl
  | ok k => exact Zcw p k s
theorem Zmw : ∀ (p q : List (List UInt8)) (t : Tn),goT t (p ++ q) = match goT t p with | .ok u => goT u q | .error e => .error e
 | [],q,t => by rw [List.nil_append,goT]
 | x :: p,q,t => by
  rw [List.cons_append,goT,goT];cases Zaz t x with
  | error e => rfl
  | ok k => exact Zmw p q k

section
variable {n : Nat} {t : Tn}
theorem TreeOk.at_ (h : TreeOk n t) {u : Tn} (hu : u ∈ subT t) : Nt t u.no = some u.nd :=
 Zdr h.nodup (List.mem_map.2 ⟨u,hu,rfl⟩)
theorem TreeOk.names (h : TreeOk n t) {u : Tn} (hu : u ∈ subT t) : NmOk u.names ∨ 512 < (wrD u.names).length := by
 by_cases hl : u.names.length ≤ 1024
 ·refine .inl ⟨hl,fun x hx => ?_⟩
  obtain ⟨k,hk,rfl⟩ := List.mem_map.1 hx
  have h1 := (h.node u hu).nmk k hk
  have hks : k ∈ subT t := by
   clear hx h1 hl;exact Zcx hu (Zj3 hk)
  have h2 := (h.node k hks).low
  have h3 := h.small
  have := h1.2.1
  exact ⟨show k.nm.length ≤ 64 by omega,h2.1,show k.no ≤ 1000000 by omega⟩
 ·refine .inr ?_
  have hge := Zja (m := 7) (l := u.names.map Zdu) fun x hx => by
   obtain ⟨y,_,rfl⟩ := List.mem_map.1 hx
   exact Zkm y 6
  rw [wrD,dirM,Zbj];simp only [List.length_map,List.length_cons,List.length_append,List.length_nil] at hge ⊢
  omega
theorem TreeOk.rd (h : TreeOk n t) {u : Tn} (hu : u ∈ subT t) (hk : u.st.kind = 1) : NmOk u.names ∧ rdD u.nd.data = u.names := by
 have hok : NmOk u.names := (h.names hu).resolve_right (by have := ((h.node u hu).dir hk).2; omega)
 refine ⟨hok,?_⟩
 show rdD (if u.st.kind = 1 then wrD u.names else u.data) = _
 rw [if_pos hk];exact Zu4 hok.2
theorem TreeOk.len (h : TreeOk n t) {u : Tn} (hu : u ∈ subT t) : u.nd.data.length ≤ 512 := by
 show (if u.st.kind = 1 then wrD u.names else u.data).length ≤ 512
 by_cases hk : u.st.kind = 1
 ·rw [if_pos hk]; exact ((h.node u hu).dir hk).2
 ·rw [if_neg hk]; exact ((h.node u hu).leaf hk).2
def Zvr (N : Int → Option Nd) (nd : Nd) (s : List UInt8) : Except Int (Int × Nd) :=
 if nd.st.kind = 1 then match (rdD nd.data).find? (fun x => decide (x.1 = s)) with
  | some x => match N x.2 with
   | some y => .ok (x.2,y)
   | none => .error 0
  | none => .error 7
 else .error 17
theorem Zlo (u : Tn) (s : List UInt8) : (u.names.find? fun x => decide (x.1 = s)) = (kidT s u.kids).map fun k => (k.nm,k.no) := by
 unfold Tn.names kidT
 rw [List.find?_map]; rfl
theorem TreeOk.into (h : TreeOk n t) {u : Tn} (hu : u ∈ subT t) (s : List UInt8) : Zvr (Nt t) u.nd s = match Zaz u s with
  | .ok k => .ok (k.no,k.nd)
  | .error e => .error e := by
 unfold Zvr Zaz
 rw [show u.nd.st = u.st from rfl];by_cases hk : u.st.kind = 1
 ·rw [if_pos hk,if_pos hk,(h.rd hu hk).2,Zlo]
  cases hq : kidT s u.kids with
  | none => rfl
  | some k =>
   have := h.at_ (Zcx hu (Zj3 (Zi5 hq).1))
   simp only [Option.map_some,this]
 ·rw [if_neg hk,if_neg hk]
end
end Cr
namespace Cr
open Go Go.Proofs
set_option maxRecDepth 100000
set_option maxHeartbeats 64000000
attribute [local irreducible] Calls

abbrev plV (no : Int) (nd : Nd) (a : Option Addr) (q : Nat) : List Value := [.int .i64 no,.int .i64 nd.st.kind,.int .i64 nd.st.mode,.int .i64 nd.st.owner,.int .i64 nd.st.group,.slice a nd.data.length q]
abbrev pl0 : List Value := [.int .i64 0,.int .i64 0,.int .i64 0,.int .i64 0,.int .i64 0,.slice none 0 0]
theorem Zr5 (no : Int) (nd : Nd) (a : Option Addr) (q : Nat) (W : World) (hb : Rd W (bytes a nd.data)) (hq : nd.data.length ≤ q) (hl : nd.data.length ≤ 512) (hG : Lg W noF) :
  Calls Tryz.prog 36 #[.agg (List.toArray [.int .i64 no,.int .i64 nd.st.kind,.int .i64 nd.st.mode,.int .i64 nd.st.owner,.int .i64 nd.st.group,.slice a nd.data.length q])] W (Ret fun v w =>
   (nd.st.kind = 1 ∧ ∃ b c,v = .tuple #[.slice b (rdD nd.data).length c,.int .i64 0] ∧ St W noF [own 93 2 b c (nmV (rdD nd.data))] w) ∨ (nd.st.kind ≠ 1 ∧ v = .tuple #[.slice none 0 0,.int .i64 17] ∧ St W noF [] w)) := by
 have hS := St.start W
 have hbo := hb.ro
 by_cases hk : nd.st.kind = 1
 ·refine Zab Tryz.func36 rfl Tryz.ntmps36 rfl ?_
  repeat (first|refine Yd1 ?_|(refine X_id ?_;first|refine Yag ?_|refine Yan ?_|refine Yby ?_|refine Ya5 ?_|refine Yaq ?_|refine Ybc (fun _ _ hS _ => ?_))|refine Yec ?_|refine Yab ?_)
  refine Zaa _ rfl rfl rfl rfl rfl (Zzm a nd.data q _ (hbo.rd hS).ro hq hl (hG.at_ hS)) ?_
  rintro _ w ⟨b,c,rfl,hS'⟩
  replace hS := hS.plus hS';clear hS';repeat (first|refine Yd1 ?_|refine Yag ?_|refine Yah ?_|refine Yep ?_)
  exact .inl ⟨hk,b,c,rfl,hS.took⟩
 ·refine Zab Tryz.func36 rfl Tryz.ntmps36 rfl ?_
  repeat (first|refine Yd1 ?_|(refine X_id ?_;first|refine Yag ?_|refine Yan ?_|refine Yby ?_|refine Ybj ?_|refine Yaq ?_|refine Ybc (fun _ _ hS _ => ?_))|refine Yei ?_|refine Yab ?_|refine Yap ?_|refine Ybr ?_)
  exact .inr ⟨hk,rfl,hS.drops⟩
def Z4l (X : List RowD) (r : Except Int (Int × Nd)) (v : Value) : Prop := match r with
 | .error e => v = .tuple #[.agg (List.toArray pl0),.int .i64 e] ∧ e ≠ 0
 | .ok x => ∃ a q,v = .tuple #[.agg (List.toArray (plV x.1 x.2 a q)),.int .i64 0] ∧ x.2.data.length ≤ q ∧ RX X a (bv x.2.data)
theorem Zu5 (b : List UInt8) : 2 * (rdD b).length ≤ b.length := by
 unfold rdD
 cases h : decM b with
 | none => simp
 | some v =>
  have h1 := Zl4 h
  have h2 := List.length_filterMap_le Zfk v.lst
  simp only [rdV]; omega
theorem Rd.rd {w : World} {r : Res} {W : World} {F : Nat → Prop} {rs : List Res} (H : Rd w r) (_ : St W F rs w) : Rd w r := H
theorem Zhh {s : List UInt8} : ∀ {l : List Nm},(ixN s l < 0 ∧ l.find? (fun x => decide (x.1 = s)) = none) ∨ ∃ (k : Nat) (x : Nm),ixN s l = k ∧ l[k]? = some x ∧ l.find? (fun x => decide (x.1 = s)) = some x
 | [] => .inl ⟨by simp [ixN],rfl⟩
 | y :: l => by
  unfold ixN
  by_cases h : y.1 = s
  ·exact .inr ⟨0,y,by rw [if_pos h]; rfl,rfl,by simp [h]⟩
  ·rw [if_neg h]
   rcases Zhh (s := s) (l := l) with ⟨h1,h2⟩ | ⟨k,x,h1,h2,h3⟩
   ·exact .inl ⟨by rw [if_pos h1]; decide,by simp [h,h2]⟩
   ·exact .inr ⟨k + 1,x,by rw [h1,if_neg (by omega)]; omega,by simpa using h2,by simp [h,h3]⟩
section
variable {c f tp n : Nat} {b : Int} {T N : Int → Option Nd} {X : List RowD}
theorem Z3l (no : Int) (nd : Nd) (a : Option Addr) (q : Nat) (s : List UInt8) (W : World) (F : Nat → Prop) (hT : TreeRo W F f tp n b T) (hG : Lg W F) (ha : RX X a (bv nd.data)) (hq : nd.data.length ≤ q) (hl : nd.data.length ≤ 512) (hN : Zvr N nd s ≠ .error 0) (hS : St W F [chR c f b T N X] W) :
  Calls Tryz.prog 77 #[.pointer (some ⟨c,0,none⟩),.agg (List.toArray [.int .i64 no,.int .i64 nd.st.kind,.int .i64 nd.st.mode,.int .i64 nd.st.owner,.int .i64 nd.st.group,.slice a nd.data.length q]),.string (str s)] W (Ret fun v w => ∃ X',(∀ x ∈ X,x ∈ X') ∧ St W F [chR c f b T N X'] w ∧ Z4l X' (Zvr N nd s) v) := by
 unfold Zvr at hN ⊢
 refine Zab Tryz.func77 rfl Tryz.ntmps77 rfl ?_
 repeat (first|refine Yd1 ?_|refine Yag ?_|refine Ybh ?_|refine Ybc (fun _ _ hS _ => ?_)|refine Yas (fun _ _ hS _ => ?_)|refine Yd2 ?_|refine Yab ?_)
 refine Zaa _ rfl rfl rfl rfl rfl (Zr5 no nd a q _ (ha.rd (hS.rd (r := chR c f b T N X) (by simp)).ch) hq hl (hG.at_ hS)) ?_
 rintro _ w (⟨hk,nb,nc,rfl,hS'⟩ | ⟨hk,rfl,hS'⟩)
 ·replace hS := hS.plus hS'
  clear hS';rw [if_pos hk] at hN ⊢;have hlen := Zu5 nd.data
  repeat (first|refine Yd1 ?_|refine Yeu ?_|refine Yec ?_|refine Yab ?_)
  refine Zaa _ rfl rfl rfl rfl rfl (Z3y nb (rdD nd.data) nc s _ (hS.rd (r := own 93 2 nb nc (nmV (rdD nd.data))) (by simp)).own_row (by omega)) ?_
  rintro _ w ⟨rfl,hS'⟩
  replace hS := hS.plus hS';clear hS';rcases Zhh (s := s) (l := rdD nd.data) with ⟨h1,h2⟩ | ⟨k,x,h1,h2,h3⟩
  ·rw [h2]
   repeat (first|refine Yd1 ?_|(refine X_id ?_;first|refine Yaf ?_|refine Yag ?_|refine Ya0 ?_|refine Ybo ?_|refine Yao (fun _ hS _ => ?_))|refine Yei ?_|refine Yab ?_|refine Yap ?_|refine Ybz ?_)
   exact ⟨X,fun _ h => h,hS.took,rfl,by decide⟩
  ·rw [h1]
   rw [h3] at hN ⊢;simp only at hN ⊢
   cases hNx : N x.2 with
   | none => rw [hNx] at hN; exact absurd rfl hN
   | some y =>
    have hkl := (List.getElem?_eq_some_iff.1 h2).1
    have hx : (nmV (rdD nd.data))[k * 2 + 1]? = some (.int .i64 x.2) := by
     have := congrArg (fun l => l[1]?) (Zhc h2)
     simpa [List.getElem?_take,List.getElem?_drop,nmC] using this
    obtain ⟨xb,xo,rfl⟩ := ((hS.rd (r := own 93 2 nb nc (nmV (rdD nd.data))) (by simp)).own_row).base (by intro e; rw [e] at hx; simp at hx)
    have hr := (hS.rd (r := own 93 2 (some ⟨xb,xo,none⟩) nc (nmV (rdD nd.data))) (by simp)).own_row
    repeat (first|refine Yd1 ?_|(refine X_id ?_;first|refine Yaf ?_|refine Yag ?_|refine Yby ?_|refine Ya1 ?_|refine Ybd ?_|refine X_yl (Zaw rfl rfl ((hr.rd hS).cellF (by first|omega|(dsimp only;omega)) hx)) rfl rfl ?_)|refine Yec ?_|refine Yab ?_)
    clear hr;obtain ⟨_,hc,_,hw,hbk⟩ := hS.call [false,false,false,true]
    refine Zaa _ rfl rfl rfl rfl rfl (Z1f x.2 _ _ (hT.mono hw) hc) ?_
    rintro v w ⟨X',hX',hS,y',a',q',rfl,hy⟩
    replace hS := hbk hS
    clear hbk hw hc;obtain ⟨rfl,hq',hrow⟩ := hy y hNx
    rw [hNx];simp only [Option.isSome_some]
    repeat (first|refine Yd1 ?_|refine Yex ?_|refine Yao (fun _ hS _ => ?_)|refine Yas (fun _ _ hS _ => ?_)|refine Yae ?_|refine Yab ?_)
    refine Zaq (.s 0 (.s 1 (.s 2 (.s 3 (.s 4 (.s 5 (.s 6 (.h 7 (.s 8 .nil) .no)))))))) mixed (by kernel_rfl) rfl ?_
    have hS := hS.drew
    have hr := (hS.rd (r := own 93 2 (some ⟨xb,xo,none⟩) nc (nmV (rdD nd.data))) (by simp)).own_row
    repeat (first|refine Yao (fun _ hS _ => ?_)|refine Yah ?_|refine Yab ?_|refine Ybz ?_|(refine Zae ?_;first|refine Ya2 ?_|refine Ya4 ?_|refine Ybl ?_|refine Yc6 ?_|refine Yb8 ?_|refine Yb5 ?_|refine Yb1 ?_|refine Yay ?_|refine Zb1 (fun w' => w'.cell? _ = some _) rfl rfl ((hr.rd hS).cellF (by first|omega|(dsimp only;omega)) hx) (fun _ hc => Zaw rfl rfl hc) rfl rfl ?_)|(refine Zac ?_;first|refine Yc7 ?_))
    exact ⟨X',hX',hS.took,a',q',rfl,hq',hrow⟩
 ·replace hS := hS.plus hS'
  clear hS';rw [if_neg hk];repeat (first|refine Yd1 ?_|(refine X_id ?_;first|refine Yaf ?_|refine Yag ?_|refine Yax ?_|refine Ybj ?_|refine Ybo ?_|refine Yao (fun _ hS _ => ?_))|refine Yei ?_|refine Yab ?_|refine Yap ?_|refine Ybz ?_)
  exact ⟨X,fun _ h => h,hS.took,rfl,by decide⟩
end
def goR (t : Tn) (p : List (List UInt8)) : Except Int (Int × Nd) :=
 if Zav p then match goT t p with
  | .ok u => .ok (u.no,u.nd)
  | .error e => .error e
 else .error 10
section
variable {c f tp n : Nat} {b : Int} {T : Int → Option Nd} {t : Tn} {X : List RowD}
theorem top_ (ht : TreeOk n t) (W : World) (F : Nat → Prop) (hT : TreeRo W F f tp n b T) (hS : St W F [chR c f b T (Nt t) X] W) :
  Calls Tryz.prog 76 #[.pointer (some ⟨c,0,none⟩)] W (Ret fun v w => ∃ X',(∀ x ∈ X,x ∈ X') ∧ St W F [chR c f b T (Nt t) X'] w ∧ ∃ a q,v = .agg (List.toArray (plV 0 t.nd a q)) ∧ t.nd.data.length ≤ q ∧ RX X' a (bv t.nd.data)) := by
 have h0 : Nt t 0 = some t.nd := by have := ht.at_ (Zd0 t); rwa [ht.root.1] at this
 refine Zab Tryz.func76 rfl Tryz.ntmps76 rfl ?_
 repeat (first|refine Yd1 ?_|refine Yaf ?_|refine Yas (fun _ _ hS _ => ?_)|refine Yd2 ?_|refine Yab ?_)
 obtain ⟨_,hc,_,hw,hbk⟩ := hS.call [false,true]
 refine Zaa _ rfl rfl rfl rfl rfl (Z1f 0 _ _ (hT.mono hw) hc) ?_
 rintro v w ⟨X',hX',hS,y',a',q',rfl,hy⟩
 replace hS := hbk hS
 clear hbk hw hc;obtain ⟨rfl,hq',hrow⟩ := hy _ h0
 rw [h0];simp only [Option.isSome_some]
 repeat (first|refine Yd1 ?_|(refine X_id ?_;first|refine Yaf ?_|refine Yag ?_|refine Yax ?_|refine Ybo ?_|refine Ybh ?_|refine Yao (fun _ hS _ => ?_)|refine Yas (fun _ _ hS _ => ?_))|refine Yee ?_|refine Yab ?_|refine Ybx ?_)
 exact ⟨X',hX',hS.took,a',q',rfl,hq',hrow⟩
theorem Z1p (ht : TreeOk n t) (pa : Option Addr) (p : List (List UInt8)) (pc : Nat) (W : World) (F : Nat → Prop) (hT : TreeRo W F f tp n b T) (hG : Lg W F) (hp : Ro W F (row pa (strV p))) (hpl : p.length ≤ 1048576) (hS : St W F [chR c f b T (Nt t) X] W) :
  Calls Tryz.prog 35 #[.pointer (some ⟨c,0,none⟩),.slice pa p.length pc] W (Ret fun v w => ∃ X',(∀ x ∈ X,x ∈ X') ∧ St W F [chR c f b T (Nt t) X'] w ∧ Z4l X' (goR t p) v) := by
 unfold goR
 have hR := fun W h => Zu8 pa p pc W h hpl
 by_cases hr : Zav p
 case neg =>
  rw [if_neg hr];simp only [decide_eq_false hr] at hR
  refine Zab Tryz.func35 rfl Tryz.ntmps35 rfl ?_
  repeat (first|refine Yd1 ?_|(refine X_id ?_;first|(refine Zad 75 rfl rfl rfl rfl rfl hS (hR _ (hp.rd hS)) ?_;rintro _ _ rfl hS)|refine Yaf ?_|refine Yag ?_|refine Ybn ?_|refine Ybo ?_|refine Ybt ?_|refine Yao (fun _ hS _ => ?_)|refine Yas (fun _ _ hS _ => ?_))|refine Ye5 ?_|refine Yab ?_|refine Yap ?_|refine Ybz ?_)
  exact ⟨X,fun _ h => h,hS.took,rfl,by decide⟩
 rw [if_pos hr];simp only [decide_eq_true hr] at hR
 clear hr;refine Zab Tryz.func35 rfl Tryz.ntmps35 rfl ?_
 repeat (first|refine Yd1 ?_|(refine X_id ?_;first|(refine Zad 75 rfl rfl rfl rfl rfl hS (hR _ (hp.rd hS)) ?_;rintro _ _ rfl hS)|refine Yaf ?_|refine Yag ?_|refine Ybb ?_|refine Ybt ?_|refine Yas (fun _ _ hS _ => ?_))|refine Yec ?_|refine Yab ?_)
 rename_i b4 _ _ _ _;obtain ⟨_,hc,_,hw,hbk⟩ := hS.call [false,true]
 refine Zaa _ rfl rfl rfl rfl rfl (top_ ht _ _ (hT.mono hw) hc) ?_
 rintro v w ⟨X',hX',hS,a,q,rfl,hq,hrow⟩
 replace hS := hbk hS
 clear hbk hw hc;repeat (first|refine Yd1 ?_|refine Yaf ?_|refine Yar ?_|refine Yao (fun _ hS _ => ?_)|refine Yas (fun _ _ hS _ => ?_)|refine Yd4 ?_|refine Yab ?_)
 rename_i b6 _ _ _ _ _;have hS : St W F [chR c f b T (Nt t) X',pts b6 (.cells (List.toArray (plV 0 t.nd a q)) 86 (0,0)),pts b4 (.cells (List.toArray pl0) 86 (0,0))] _ := hS.took
 refine Zak (α := Nat) (fun i => [(0,.pointer (some ⟨c,0,none⟩)),(4,.pointer (some ⟨b4,0,none⟩)),(6,.pointer (some ⟨b6,0,none⟩)),(20,.slice pa p.length pc),(21,.int .i64 (p.length : Nat)),(22,.int .i64 (i : Nat))])
  (fun i w => i ≤ p.length ∧ ∃ u a q X',goT t (p.take i) = .ok u ∧ (∀ x ∈ X,x ∈ X') ∧ u.nd.data.length ≤ q ∧ RX X' a (bv u.nd.data) ∧ St W F [chR c f b T (Nt t) X',pts b6 (.cells (List.toArray (plV u.no u.nd a q)) 86 (0,0)),pts b4 (.cells (List.toArray pl0) 86 (0,0))] w)
  (fun i => p.length - i) 0 ⟨rfl,rfl,rfl,rfl,rfl,rfl,trivial⟩ ⟨Nat.zero_le _,t,a,q,X',by rw [List.take_zero,goT],hX',hq,hrow,by rw [ht.root.1]; exact hS⟩ ?_
 clear hS hrow hq hX';rintro i w ⟨hi,u,a,q,X',hgo,hX',hq,hrow,hS2⟩
 have hu := Zba hgo
 by_cases hlt : i < p.length
 ·have hx0 : p[i]? = some p[i] := List.getElem?_eq_getElem (by omega)
  have htk : p.take (i + 1) = p.take i ++ [p[i]] := List.take_succ_eq_append_getElem hlt
  generalize p[i] = s at hx0 htk;have hr := hp
  have hx := Zp2 hx0
  obtain ⟨xb,xo,rfl⟩ := (hr.rd hS2).base (by intro e; rw [e] at hx; simp at hx)
  have hS := hS2
  repeat (first|refine Yd1 ?_|(refine X_id ?_;first|refine Yaf ?_|refine Yag ?_|refine Ya0 ?_|refine Ybd ?_|refine Ybh ?_|refine Yb4 ?_)|refine Yd5 ?_|refine Yab ?_)
  obtain ⟨_,hc,_,hw,hbk⟩ := hS.call [true,false,false]
  have hin := ht.into hu s
  refine Zaa _ rfl rfl rfl rfl rfl (Z3l u.no u.nd a q s _ _ (hT.mono hw) (hG.mono hw) hrow hq (ht.len hu) (by rw [hin]; cases hg : Zaz u s with | ok k => simp | error e => rcases Zkb hg with rfl | rfl <;> simp) hc) ?_
  rintro v w ⟨X2,hX2,hS,hv⟩
  replace hS := hbk hS
  clear hbk hw hc;rw [hin] at hv;cases hg : Zaz u s with
  | error e =>
   rw [hg] at hv;obtain ⟨rfl,he⟩ := hv
   have hres : goT t p = .error e := by
    rw [← List.take_append_drop (i + 1) p,htk,Zmw,Zcw,hgo]; simp only [hg]
   rw [hres];repeat (first|refine Yd1 ?_|(refine X_id ?_;first|refine Yaf ?_|refine Yag ?_|refine Yax ?_|refine Ybj ?_|refine Ybo ?_|refine Yao (fun _ hS _ => ?_)|refine Yas (fun _ _ hS _ => ?_))|refine Yei ?_|refine Yab ?_|refine Yap ?_|refine Ya9 ?_|refine Ybz ?_)
   exact ⟨X2,fun x hx => hX2 x (hX' x hx),hS.took,rfl,he⟩
  | ok k =>
   rw [hg] at hv;obtain ⟨a',q',rfl,hq',hrow'⟩ := hv
   repeat (first|refine Yd1 ?_|(refine X_id ?_;first|refine Yaf ?_|refine Yag ?_|refine Yax ?_|refine Ya5 ?_|refine Yaw ?_|refine Ybh ?_|refine Yao (fun _ hS _ => ?_)|refine Yas (fun _ _ hS _ => ?_))|refine Yec ?_|refine Yd9 ?_)
   refine Zaf (i + 1) ⟨rfl,rfl,rfl,rfl,rfl,rfl,trivial⟩ ⟨hlt,k,a',q',X2,by rw [htk,Zcw,hgo]; exact hg,fun x hx => hX2 x (hX' x hx),hq',hrow',?_⟩ (by omega)
   exact hS.took
 ·obtain rfl : i = p.length := by omega
  have hS := hS2
  rw [List.take_length] at hgo;rw [hgo];repeat (first|refine Yd1 ?_|refine Yag ?_|refine Ya1 ?_|refine Ybh ?_|refine Yao (fun _ hS _ => ?_)|refine Yea ?_|refine Yab ?_|refine Ya7 ?_|refine Ya8 ?_|refine Ybz ?_)
  exact ⟨X',hX',hS.took,a,q,rfl,hq,hrow⟩
def shN (nd : Nd) : Nd := ⟨nd.st,if nd.st.kind = 1 then [] else nd.data⟩
theorem Z2t (nd : Nd) (a : Option Addr) (q : Nat) (W : World) (hb : Rd W (bytes a nd.data)) (hl : nd.data.length ≤ 512) :
  Calls Tryz.prog 73 #[.agg (List.toArray [.int .i64 nd.st.kind,.int .i64 nd.st.mode,.int .i64 nd.st.owner,.int .i64 nd.st.group,.slice a nd.data.length q])] W (Ret fun v w => ∃ a' q',v = .agg (ndV (shN nd) a' q').toArray ∧ (shN nd).data.length ≤ q' ∧ St W noF [own 5 1 a' q' (bv (shN nd).data)] w) := by
 have hbo := hb.ro
 have hS := St.start W
 unfold shN
 by_cases hk : nd.st.kind = 1
 ·rw [if_pos hk]
  refine Zab Tryz.func73 rfl Tryz.ntmps73 rfl ?_
  repeat (first|refine Yd1 ?_|(refine X_id ?_;first|refine Yan ?_|refine Ybf ?_|refine Ybo ?_|refine Yaq ?_|refine Ybh ?_|refine Yao (fun _ hS _ => ?_)|refine Ybc (fun _ _ hS _ => ?_)|refine Yas (fun _ _ hS _ => ?_))|refine Yei ?_|refine Yab ?_|refine Yap ?_|refine Ybx ?_)
  exact ⟨none,0,rfl,Nat.le_refl _,(hS.took (out := [])).own_none _ _ _⟩
 ·rw [if_neg hk]
  refine Zab Tryz.func73 rfl Tryz.ntmps73 rfl ?_
  repeat (first|refine Yd1 ?_|(refine X_id ?_;first|refine Yan ?_|refine Ybg ?_|refine Yaq ?_|refine Ybc (fun _ _ hS _ => ?_)|refine Yas (fun _ _ hS _ => ?_))|refine Yec ?_|refine Yab ?_)
  refine Zaq (.s 0 (.s 1 (.s 2 (.s 3 (.h 4 (.s 5 (.h 6 .nil .no)) .no))))) mixed (by kernel_rfl) rfl ?_
  have hS := hS.drew
  repeat (first|(refine Zae ?_;first|refine Ybk ?_|refine Ybm ?_|refine Yb1 ?_|refine Yay ?_))
  refine Zaa _ rfl rfl rfl rfl rfl (Zeu a nd.data.length q nd.data _ (hbo.rd hS) rfl (by omega)) ?_
  rintro _ w ⟨a',q',rfl,_,hqq,hS'⟩
  replace hS := hS.plus hS';clear hS';repeat (first|refine Yao (fun _ hS _ => ?_)|refine Yah ?_|refine Yab ?_|refine Ybx ?_|(refine Zae ?_;first|refine Ya2 ?_|refine Yb8 ?_|refine Yay ?_)|(refine Zac ?_;first|refine Yaz ?_))
  exact ⟨a',q',rfl,hqq,hS.took⟩
end
theorem Zqi (l : List Nm) : ∀ u ∈ nmV l,u.oneCell' = true := fun u hu => by
 obtain ⟨x,_,hx⟩ := List.mem_flatMap.1 hu
 simp only [nmC,List.mem_cons,List.not_mem_nil,or_false] at hx
 rcases hx with rfl | rfl <;> rfl
theorem Zrp (l : List (List UInt8)) : ∀ u ∈ strV l,u.oneCell' = true := fun u hu => by
 obtain ⟨x,_,rfl⟩ := List.mem_map.1 hu; rfl
theorem Zvf (a : Option Addr) (l : List Nm) (c : Nat) (W : World) (hs : Rd W (row a (nmV l))) (hlim : l.length ≤ 1048576) :
  Calls Tryz.prog 97 #[.slice a l.length c] W (Ret fun v w => ∃ a' c',v = .slice a' l.length c' ∧ l.length ≤ c' ∧ St W noF [own 93 2 a' c' (nmV l)] w) := by
 have hS := St.start W
 cases a with
 | none =>
  have h0 : nmV l = [] := hs.none_nil
  obtain rfl : l = [] := by
   have := Zgk l
   rw [h0] at this;exact List.eq_nil_of_length_eq_zero (by simp at this; omega)
  refine Zab Tryz.func97 rfl Tryz.ntmps97 rfl ?_
  repeat (first|refine Yd1 ?_|refine Yaf ?_|refine Yag ?_|refine Ycn ?_|refine Yei ?_|refine Yej ?_)
  exact ⟨none,0,rfl,Nat.le_refl _,hS.own_none _ _ _⟩
 | some ad =>
  refine Zab Tryz.func97 rfl Tryz.ntmps97 rfl ?_
  repeat (first|refine Yd1 ?_|refine Yaf ?_|refine Yag ?_|refine Ycn ?_|refine Ybi (fun _ _ hS _ => ?_)|refine Yec ?_|refine Yab ?_)
  rename_i b w hb;have hs := hs.below hb
  refine Zar rfl rfl rfl rfl rfl hS rfl (by omega) hs (Zgk l) (Zqi l) (by omega) (by simp only [maxLen]; omega) (fun a' c' w hS hc hnil => ?_)
  repeat (first|refine Yd1 ?_|refine Yag ?_|refine Yah ?_|refine Yd3 ?_)
  exact ⟨a',c',by rw [Nat.zero_add],by omega,hS⟩
theorem Zp6 (a : Option Addr) (l : List (List UInt8)) (c : Nat) (W : World) (hs : Rd W (row a (strV l))) (hlim : l.length ≤ 1048576) :
  Calls Tryz.prog 40 #[.slice a l.length c] W (Ret fun v w => ∃ a' c',v = .slice a' l.length c' ∧ l.length ≤ c' ∧ St W noF [own 9 1 a' c' (strV l)] w) := by
 have hS := St.start W
 cases a with
 | none =>
  have h0 : strV l = [] := hs.none_nil
  obtain rfl : l = [] := List.map_eq_nil_iff.1 h0
  refine Zab Tryz.func40 rfl Tryz.ntmps40 rfl ?_
  repeat (first|refine Yd1 ?_|refine Yaf ?_|refine Yag ?_|refine Ycn ?_|refine Yei ?_|refine Yej ?_)
  exact ⟨none,0,rfl,Nat.le_refl _,hS.own_none _ _ _⟩
 | some ad =>
  refine Zab Tryz.func40 rfl Tryz.ntmps40 rfl ?_
  repeat (first|refine Yd1 ?_|refine Yaf ?_|refine Yag ?_|refine Ycn ?_|refine Ybi (fun _ _ hS _ => ?_)|refine Yec ?_|refine Yab ?_)
  rename_i b w hb;have hs := hs.below hb
  refine Zar rfl rfl rfl rfl rfl hS rfl (by omega) hs (by rw [Zep,Nat.mul_one]) (Zrp l) (by omega) (by simp only [maxLen]; omega) (fun a' c' w hS hc hnil => ?_)
  repeat (first|refine Yd1 ?_|refine Yag ?_|refine Yah ?_|refine Yd3 ?_)
  exact ⟨a',c',by rw [Nat.zero_add],by omega,hS⟩
theorem Zzn (pa : Option Addr) (p : List (List UInt8)) (pc : Nat) (W : World) (hp : Rd W (row pa (strV p))) (hpc : p.length ≤ pc) (hpl : p.length ≤ 1048576) :
  Calls Tryz.prog 45 #[.slice pa p.length pc] W (Ret fun v w => (Zav p ∧ ∃ q s a' c',p = q ++ [s] ∧ v = .tuple #[.slice a' q.length c',.string (str s),.int .i64 0] ∧ q.length ≤ c' ∧ St W noF [own 9 1 a' c' (strV q)] w) ∨
   ((¬ Zav p ∨ p = []) ∧ v = .tuple #[.slice none 0 0,.string (str []),.int .i64 10] ∧ St W noF [] w)) := by
 have hS := St.start W
 have hR := fun W h => Zu8 pa p pc W h hpl
 have hp' := hp.ro
 by_cases hr : Zav p
 case neg =>
  simp only [decide_eq_false hr] at hR
  refine Zab Tryz.func45 rfl Tryz.ntmps45 rfl ?_
  repeat (first|refine Yek ?_|(refine X_id ?_;first|(refine Zad 75 rfl rfl rfl rfl rfl hS (hR _ (hp'.rd hS)) ?_;rintro _ _ rfl hS)|refine Yaf ?_|refine Yag ?_|refine Yba ?_|refine Ybn ?_)|refine Yei ?_|refine Yab ?_|refine Yap ?_|refine Yde ?_)
  exact .inr ⟨.inl hr,rfl,hS⟩
 simp only [decide_eq_true hr] at hR
 rcases List.eq_nil_or_concat p with rfl | ⟨q,s,rfl⟩
 ·refine Zab Tryz.func45 rfl Tryz.ntmps45 rfl ?_
  repeat (first|refine Yeh ?_|(refine X_id ?_;first|(refine Zad 75 rfl rfl rfl rfl rfl hS (hR _ (hp'.rd hS)) ?_;rintro _ _ rfl hS)|refine Yaf ?_|refine Yag ?_|refine Ya3 ?_|refine Ybb ?_|refine Yar ?_|refine Ycq ?_)|refine Yei ?_|refine Yab ?_|refine Yap ?_|refine Yde ?_)
  exact .inr ⟨.inr rfl,rfl,hS⟩
 ·have hlen : (q ++ [s]).length = q.length + 1 := by simp
  have hx : (strV (q ++ [s]))[q.length]? = some (.string (str s)) := Zp2 (by simp)
  obtain ⟨xb,xo,rfl⟩ := hp.base (by simp [strV])
  have hr := hp'
  simp only [List.concat_eq_append,hlen] at *
  refine Zab Tryz.func45 rfl Tryz.ntmps45 rfl ?_
  repeat (first|refine Yeh ?_|(refine X_id ?_;first|(refine Zad 75 rfl rfl rfl rfl rfl hS (hR _ (hp'.rd hS)) ?_;rintro _ _ rfl hS)|refine Yaf ?_|refine Yag ?_|refine Ya3 ?_|refine Ybb ?_|refine Yar ?_|refine Ybg ?_|refine Ybw ?_)|refine Yec ?_|refine Yab ?_)
  refine Zaq (.s 0 (.s 1 (.s 2 (.s 3 (.s 5 (.s 6 (.s 7 (.s 8 (.h 4 (.s 9 (.s 10 (.s 11 .nil))) .no))))))))) mixed (by kernel_rfl) rfl ?_
  have hS := hS.drew
  repeat (first|(refine Zae ?_;first|refine Ya4 ?_))
  refine Zah rfl rfl (fun _ => Zhn (l := 0) (h := q.length) (k := q.length) rfl rfl rfl rfl rfl ⟨_,_,rfl,by omega,by omega,by omega⟩ ⟨_,_,rfl,by omega,by omega,by omega⟩ (.inl ⟨rfl,rfl⟩)) rfl rfl ?_
  simp only [Nat.sub_zero]
  repeat (first|(refine Zae ?_;first|refine Ya4 ?_|refine Yb5 ?_|refine Ydf ?_|refine Yay ?_))
  have hsub : Ro W noF (row (Cr.sub (some ⟨xb,xo,none⟩) 0 1 q.length) (strV q)) := by
   have := hp'.sub (l := 0) (h := q.length) (e := 1) (c := q.length) (Nat.le_refl _) (Nat.zero_le _)
   rwa [Nat.zero_mul,List.drop_zero,Nat.sub_zero,Nat.mul_one,show (strV (q ++ [s])).take q.length = strV q by
    rw [show strV (q ++ [s]) = strV q ++ [.string (str s)] by simp [strV],List.take_append_of_le_length (Nat.le_of_eq (Zep q).symm),List.take_of_length_le (Nat.le_of_eq (Zep q))]] at this
  refine Zaa _ rfl rfl rfl rfl rfl (Zp6 _ q _ _ (hsub.rd hS) (by omega)) ?_
  rintro _ w ⟨a',c',rfl,hc',hS'⟩
  replace hS := hS.plus hS';clear hS';repeat (first|refine Yah ?_|refine Yab ?_|refine Yde ?_|(refine Zae ?_;first|refine Ye0 ?_)|(refine Zac ?_;first|refine Yaz ?_))
  exact .inl ⟨by assumption,q,s,a',c',rfl,rfl,hc',hS.took⟩
section
variable {c f tp n : Nat} {b : Int} {T : Int → Option Nd} {t : Tn} {X : List RowD}
def getR (t : Tn) (p : List (List UInt8)) : Except Int Nd := match goR t p with
 | .ok x => .ok (shN x.2)
 | .error e => .error e
def Z4o (X : List RowD) (r : Except Int Nd) (v : Value) : Prop := match r with
 | .error e => v = .tuple #[nd0,.int .i64 e] ∧ e ≠ 0
 | .ok x => ∃ a q,v = .tuple #[.agg (ndV x a q).toArray,.int .i64 0] ∧ x.data.length ≤ q ∧ RX X a (bv x.data)
theorem get_ (ht : TreeOk n t) (pa : Option Addr) (p : List (List UInt8)) (pc : Nat) (W : World) (F : Nat → Prop) (hT : TreeRo W F f tp n b T) (hG : Lg W F) (hp : Ro W F (row pa (strV p))) (hpl : p.length ≤ 1048576) (hS : St W F [chR c f b T (Nt t) X] W) :
  Calls Tryz.prog 30 #[.pointer (some ⟨c,0,none⟩),.slice pa p.length pc] W (Ret fun v w => ∃ X',(∀ x ∈ X,x ∈ X') ∧ St W F [chR c f b T (Nt t) X'] w ∧ Z4o X' (getR t p) v) := by
 unfold getR
 refine Zab Tryz.func30 rfl Tryz.ntmps30 rfl ?_
 repeat (first|refine Yd1 ?_|refine Yef ?_|refine Yas (fun _ _ hS _ => ?_)|refine Yd2 ?_|refine Yab ?_)
 obtain ⟨_,hc,_,hw,hbk⟩ := hS.call [false,true]
 refine Zaa _ rfl rfl rfl rfl rfl (Z1p ht pa p pc _ _ (hT.mono hw) (hG.mono hw) (hw _ hp) hpl hc) ?_
 rintro v w ⟨X',hX',hS,hv⟩
 replace hS := hbk hS
 clear hbk hw hc;cases hg : goR t p with
 | error e =>
  rw [hg] at hv;obtain ⟨rfl,he⟩ := hv
  repeat (first|refine Yd1 ?_|(refine X_id ?_;first|refine Yaf ?_|refine Yag ?_|refine Yax ?_|refine Ybj ?_|refine Ybo ?_|refine Yao (fun _ hS _ => ?_)|refine Yas (fun _ _ hS _ => ?_))|refine Yei ?_|refine Yab ?_|refine Yap ?_|refine Ybz ?_)
  exact ⟨X',hX',hS.took,rfl,he⟩
 | ok x =>
  rw [hg] at hv;obtain ⟨a',q',rfl,hq',hrow⟩ := hv
  have hlen : x.2.data.length ≤ 512 := by
   unfold goR at hg
   split at hg
   ·split at hg
    ·rename_i u hu
     injection hg with hg
     rw [← hg]; exact ht.len (Zba hu)
    ·cases hg
   ·cases hg
  repeat (first|refine Yd1 ?_|(refine X_id ?_;first|refine Yaf ?_|refine Yag ?_|refine Yan ?_|refine Yax ?_|refine Ya5 ?_|refine Ybh ?_|refine Yao (fun _ hS _ => ?_)|refine Yas (fun _ _ hS _ => ?_))|refine Yec ?_|refine Yab ?_)
  refine Zaa _ rfl rfl rfl rfl rfl (Z2t x.2 a' q' _ (hrow.rd (hS.rd (r := chR c f b T (Nt t) X') (by simp)).ch) hlen) ?_
  rintro _ w ⟨a2,q2,rfl,hq2,hS'⟩
  replace hS := hS.plus hS';clear hS';repeat (first|refine Yd1 ?_|refine Yag ?_|refine Yao (fun _ hS _ => ?_)|refine Yah ?_|refine Yab ?_|refine Ybz ?_)
  have hS : St W F [own 5 1 a2 q2 (bv (shN x.2).data),chR c f b T (Nt t) X'] _ := hS.took
  have hS := (hS.toBag (a := a2) (cs := bv (shN x.2).data) fun _ h => h.row).chAdd
  exact ⟨_,fun y hy => List.mem_append_right _ (hX' y hy),hS,a2,q2,rfl,hq2,.mem (List.mem_append_left _ (List.mem_cons_self ..))⟩
end
end Cr
namespace Cr
open Go
set_option maxHeartbeats 64000000
theorem St.ownBase {W : World} {F : Nat → Prop} {rs : List Res} {w : World} {T c e : Nat} {a : Option Addr} {cs : List Value} (hS : St W F (own T e a c cs :: rs) w) (hpos : cs ≠ []) : ∃ b,a = some ⟨b,0,none⟩ := by
 obtain ⟨g,⟨g1,g2,hown,hrest,hdj,hun⟩,s⟩ := hS
 obtain ⟨hle,hcm,⟨rfl,_⟩ | ⟨b',cells,hbe,rfl,hcz,ht⟩⟩ := hown
 ·rw [Nat.zero_mul] at hle
  exact absurd (List.length_eq_zero_iff.1 (by omega)) hpos
 ·exact ⟨b',hbe⟩
end Cr
namespace Cr
open Go Go.Proofs
set_option maxRecDepth 100000
set_option maxHeartbeats 64000000
attribute [local irreducible] Calls

section
variable {W : World} {F : Nat → Prop} {rs : List Res} {w : World}
theorem St.openOwn {T e : Nat} {a : Option Addr} {c : Nat} {cs : List Value} (hS : St W F (own T e a c cs :: rs) w) (hne : cs ≠ []) : ∃ (b : Nat) (l : List Value),a = some ⟨b,0,none⟩ ∧ l.length = c * e ∧ l.take cs.length = cs ∧ c ≤ maxLen ∧ St W F (pts b (.cells l.toArray T (0,0)) :: rs) w := by
 obtain ⟨h,⟨h1,h2,⟨hl,hc,hh⟩,hr,hd,hu⟩,s⟩ := hS
 rcases hh with ⟨rfl,_⟩ | ⟨b,cells,rfl,rfl,hs,ht⟩
 ·exact absurd (List.eq_nil_of_length_eq_zero (by simpa using hl)) hne
 ·exact ⟨b,cells.toList,rfl,by simpa using hs,ht,hc,h,⟨_,h2,rfl,hr,hd,hu⟩,s⟩
theorem St.ptsNe {b b' : Nat} {o o' : Obj} (hS : St W F (pts b o :: pts b' o' :: rs) w) : b ≠ b' := by
 obtain ⟨h,⟨h1,h2,rfl,⟨h3,h4,rfl,_,_,hu'⟩,hd,_⟩,_⟩ := hS
 intro e
 subst e
 rcases hd b with h' | h'
 ·rw [Zap] at h'; cases h'
 ·rw [hu',Zap] at h'; cases h'
end
section
variable {P : Program} {o : Oper} {σ : Env} {w : World} {N : Nat} {ds : Md} {K : Env → World → Prop} {x y : Operand} {t : TypeId}
theorem Znn {sT T e : TypeId} {g off n c m c2 d : Nat} {a : Option Addr} {l news : List Value} {W : World} {F : Nat → Prop} {rs rs' : List Res} {z : Value} {bytes : Nat} {TT : TypeId} (ho : o.op = .call { callee := .builtin .copy,args := #[x,y],argTypes := #[t,sT] }) (hx : ev σ x = some (.slice (some ⟨g,off,none⟩) n c)) (hy : ev σ y = some (.slice a m c2))
  [h : Und P t (.slice T)] [hi : Inf P T z e bytes] (hd : o.dst = some d) (hN : Nat.blt d N = true) (hS : St W F rs w) [hh : Has rs g (.cells l.toArray TT (0,0))] (hnews : Rd w (row a news)) (hl : news.length = min m n * e) (h1 : ∀ u ∈ news,u.oneCell' = true) (hfit : off + news.length ≤ l.length)
  [hu : Upd rs g (.cells (Zai l off news).toArray TT (0,0)) rs'] (hk : ∀ w',St W F rs' w' → K ((d,.int .i64 ((min m n : Nat) : Int)) :: σ) w') : X P o N ds σ w K := ⟨fun f ha K' Q' hK => by
 have hb := hS.has (b := g) (o := .cells l.toArray TT (0,0))
 obtain ⟨i,hi',hz',hsz,hby⟩ := info_parts hi.inf
 subst hsz
 have hmn : Nat.min m n = min m n := rfl
 have hfc : (Builtin.firstCells i.size (Nat.min m n) (.slice a m c2)).run P w = .ok news.toArray w := by
  have := Za0 (P := P) (size := i.size) (m := Nat.min m n) (c := c2) hnews (by rw [hmn]; exact hl)
  cases a <;> exact this
 have hst := run_storeCells_at P g off TT news 0 l.toArray w hb (by simpa using hfit) h1
 simp only [Nat.add_zero] at hst
 have hexec : (execOp f.eval o).run P w = .ok (.value (.int .i64 ((Nat.min m n : Nat) : Int))) (w.setRow g (Zai l off news).toArray) := by
  simp only [execOp,ho,resolve,invoke,builtin,ha.eval hx,ha.eval hy,Builtin.copy_,Sem.run_bind,Sem.run_pure,Result.andThen_ok,List.map_toArray,List.map_cons,List.map_nil]
  simp [run_underlying h.und,Builtin.lenOf,Go.sizeOf,typeInfo,hi',hfc,hst,goInt,Zai]
 unfold Oper.wp
 rw [hexec];have u := Zbd hb (Zai l off news).toArray
 have := hK _ _ _ (ha.put (Zao hN) (.int .i64 ((Nat.min m n : Nat) : Int))) (hk _ (hS.upd u))
 rw [← hd] at this;exact this⟩
theorem Zk0 {T bytes c n m e : Nat} {k k' : IntKind} {a : Option Addr} {cs : List Value} {z : Value} {W : World} {F : Nat → Prop} {rs : List Res} {d : Nat} {tx : TypeId} (ho : o.op = .call { callee := .builtin .append,args := #[x,y],argTypes := #[t,tx] }) (hx : ev σ x = some (.slice a n c)) (hy : ev σ y = some (.int k (m : Nat)))
  [h : Und P t (.slice T)] [hx' : Und P tx (.int k')] [hi : Inf P T z e bytes] (hd : o.dst = some d) (hN : Nat.blt d N = true) (hS : St W F rs w) (hr : Rd w (row a cs)) (hcs : cs.length = n * e) (hg : c < n + m) (hm : 0 < m) (he : 0 < e)
  (hfit : (n + m) * bytes ≤ 140737488355328) (hmax : n + m ≤ maxLen)
  (hk : ∀ b c' zs w',zs.length = m * e → St W F (own T e (some ⟨b,0,none⟩) c' (cs ++ zs) :: rs) w' → n + m ≤ c' → K ((d,.slice (some ⟨b,0,none⟩) (n + m) c') :: σ) w') : X P o N ds σ w K := ⟨fun f ha K' Q' hK => by
 obtain ⟨i,hi',hz',hsz,hby⟩ := info_parts hi.inf
 subst hby
 subst hsz
 have hzs : z.cells.size = i.size := hi.zs
 have hlt : ((n + m : Nat) : Int) ≤ 9223372036854775807 := by simp only [maxLen] at hmax; omega
 have hw64 : IntKind.i64.wrap (m : Int) = m := w64 (by omega) (by omega)
 have hm0 : ¬ ((m : Int) < 0) := by omega
 have hmb : ¬ (281474976710656 < (m : Int) * i.bytes) := by
  have h1 : (n + m) * i.bytes = n * i.bytes + m * i.bytes := Nat.add_mul ..
  rw [← Int.natCast_mul];generalize m * i.bytes = q at h1 ⊢;omega
 have hge : n + m ≤ grownCap w (n + m) c T := grownCap_ge w (n + m) c T
 have hcm : grownCap w (n + m) c T ≤ maxLen := grownCap_le_maxLen w (n + m) c T hmax
 have hn' : ¬ (n + m ≤ c) := by omega
 have hmin : ¬ (9223372036854775807 < ((n : Int) + (m : Int))) := by omega
 have h48 : ¬ (281474976710656 < Builtin.nextslicecap (n + m) c * i.bytes) := by have := growslice_fits (show c < n + m by omega) hfit; omega
 have hod : (Builtin.firstCells i.size n (.slice a n c)).run P w.drew = .ok cs.toArray w.drew := Za0 (P := P) (size := i.size) (by obtain ⟨g,hg,ha⟩ := hr; exact ⟨g,hg,ha⟩) hcs
 let blk := cs.toArray ++ Builtin.zeroCells z.cells m ++ Builtin.zeroCells z.cells (grownCap w (n + m) c T - (n + m))
 have hlen : blk.toList.length = grownCap w (n + m) c T * i.size := by
  simp only [blk,Array.length_toList,Array.size_append,List.size_toArray,size_zeroCells,hzs,hcs,← Nat.add_mul]
  congr 1; omega
 have hexec : (execOp f.eval o).run P w = .ok (.value (.slice (some ⟨w.heap.size,0,none⟩) (n + m) (grownCap w (n + m) c T))) (w.drew.alloc (.cells blk T)) := by
  have hmm : m ≠ 0 := by omega
  have hmz : ¬ (m * i.size = 0) := Nat.ne_of_gt (Nat.mul_pos hm he)
  simp [execOp,ho,resolve,invoke,builtin,ha.eval hx,ha.eval hy,Builtin.append_,run_underlying h.und,run_underlying hx'.und,Go.sizeOf,typeInfo,zeroValue,hi',hz',hw64,hm0,hmb,hmz,Nat.ne_of_gt he,hn',hmin,h48,asInt,asIntOf,Question.forced,hod,hmm,newRow,grownCap,blk]
 unfold Oper.wp
 rw [hexec];have := hK _ _ _ (ha.put (Zao hN) (.slice (some ⟨w.heap.size,0,none⟩) (n + m) (grownCap w (n + m) c T))) (hk w.heap.size _ (Builtin.zeroCells z.cells m).toList (w.drew.alloc (.cells blk T)) (by simp [size_zeroCells,hzs]) (St.imp (hS.drew.alloc (.cells blk T)) fun g hg => hg.mono_head (by
  have key := Za8 (T := T) (e := i.size) (c := grownCap w (n + m) c T) (b := w.heap.size) (l := blk.toList) (cs := cs ++ (Builtin.zeroCells z.cells m).toList) hlen hcm (by
   simp only [blk,Array.toList_append]; exact List.take_left)
  simpa using key)) hge)
 rw [← hd] at this;exact this⟩
end
class EOver (P : Program) (g : FuncId) (T : TypeId) : Prop where
 run : ∀ {b b' : Nat} {l l' : List Value} {n c i n' c' : Nat} {w : World},b ≠ b' → w.heap[b]? = some (.cells l.toArray T (0,0)) → w.heap[b']? = some (.cells l'.toArray T (0,0)) → l' ≠ [] → (callFunc g #[.slice (some ⟨b,0,none⟩) n c,.slice (some ⟨b',i,none⟩) n' c']).run P w = .ok (.value (.bool false)) w
instance : EOver Tryz.prog 147 93 := ⟨fun {b b' l l' n c i n' c' w} hne hb hb' hl => by
 rw [run_callFunc_extern Tryz.func147 (by kernel_rfl) (by kernel_rfl) (by kernel_rfl) (e := Extern.SlicesOverlaps.overlaps #[89,89] #[4]) (by kernel_rfl)]
 rw [Lib.run_overlaps_apart w 89 4 93 (by kernel_rfl) 2 (fun w => Zbk w) ⟨b,0,none⟩ ⟨b',i,none⟩ n c n' c' hne 93 93 l.length l'.length (by simp [World.shape?,hb]) (by simp [World.shape?,hb']) (by simpa using hl) (Zds hb) (Zds hb)]
 rfl⟩
end Cr
namespace Go.Proofs
open Go.Shelf
def Tryz.lays106_ren : Go.Shelf.Ren := ⟨fun | 106 => 95 | 213 => 146 | 265 => 189 | n => n,fun | 9 => 9 | 3 => 3 | n => n,fun | n => n⟩
theorem Tryz.lays106 : Go.Proofs.Lays.n106 Tryz.prog Tryz.lays106_ren := {
 mixed := by kernel_rfl
 f106 := Tryz.func95.trans (congrArg some (by kernel_rfl))
 f213 := Tryz.func146.trans (congrArg some (by kernel_rfl))
 f265 := Tryz.func189.trans (congrArg some (by kernel_rfl))
 t3 := Tryz.underlying3
 a3 := Tryz.isAgg3
 z3 := Tryz.sizeOf3
 v3 := Tryz.zeroValue3
 t9 := Tryz.underlying9
 a9 := Tryz.isAgg9
 z9 := Tryz.sizeOf9
 v9 := Tryz.zeroValue9 }
open Go.RowKit in
theorem Tryz.strings_Compare (a b : ByteArray) (w : World) :
  Calls Tryz.prog 95 #[.string a,.string b] w fun e w' => e = .returned (.int .i64 (Lib.compareBytes a.data.toList b.data.toList)) ∧ w' = w := Any.strings_Compare Tryz.lays106 a b w
end Go.Proofs
namespace Cr
open Go Go.Proofs
set_option maxRecDepth 100000
set_option maxHeartbeats 64000000
attribute [local irreducible] Calls

theorem Z3s {n : Nat} {t : Tn} (ht : TreeOk n t) {p : List (List UInt8)} {x : Int × Nd} (h : goR t p = .ok x) : Zav p ∧ ∃ u,goT t p = .ok u ∧ u ∈ subT t ∧ x = (u.no,u.nd) := by
 unfold goR at h
 split at h
 ·rename_i hr
  split at h
  ·rename_i u hu
   injection h with h
   exact ⟨hr,u,hu,Zba hu,h.symm⟩
  ·cases h
 ·cases h
theorem Z1q {t : Tn} {p : List (List UInt8)} {e : Int} (h : goR t p = .error e) : e = 7 ∨ e = 10 ∨ e = 17 := by
 unfold goR at h
 split at h
 ·split at h
  ·cases h
  ·rename_i e' he
   injection h with h
   subst h
   rcases Zqs he with h | h
   ·exact .inl h
   ·exact .inr (.inr h)
 ·injection h with h; exact .inr (.inl h.symm)
def lstR (t : Tn) (p : List (List UInt8)) : List (List UInt8) × Int := match goR t p with
 | .error e => ([],e)
 | .ok x => if x.2.st.kind = 1 then ((rdD x.2.data).map (·.1),0) else ([],17)
section
variable {c f tp n : Nat} {b : Int} {T : Int → Option Nd} {t : Tn} {X : List RowD}
theorem Zoj (ht : TreeOk n t) (pa : Option Addr) (p : List (List UInt8)) (pc : Nat) (W : World) (F : Nat → Prop) (hT : TreeRo W F f tp n b T) (hG : Lg W F) (hp : Ro W F (row pa (strV p))) (hpl : p.length ≤ 1048576) (hS : St W F [chR c f b T (Nt t) X] W) :
  Calls Tryz.prog 11 #[.pointer (some ⟨c,0,none⟩),.slice pa p.length pc] W (Ret fun v w => ∃ X' a q,(∀ x ∈ X,x ∈ X') ∧ v = .tuple #[.slice a (lstR t p).1.length q,.int .i64 (lstR t p).2] ∧ (lstR t p).1.length ≤ q ∧ St W F [own 9 1 a q (strV (lstR t p).1),chR c f b T (Nt t) X'] w) := by
 unfold lstR
 refine Zab Tryz.func11 rfl Tryz.ntmps11 rfl ?_
 repeat (first|refine Yd1 ?_|refine Yef ?_|refine Yd2 ?_|refine Yab ?_)
 obtain ⟨_,hc,_,hw,hbk⟩ := hS.call [true]
 refine Zaa _ rfl rfl rfl rfl rfl (Z1p ht pa p pc _ _ (hT.mono hw) (hG.mono hw) (hw _ hp) hpl hc) ?_
 rintro v w ⟨X',hX',hS,hv⟩
 replace hS := hbk hS
 clear hbk hw hc;cases hg : goR t p with
 | error e =>
  rw [hg] at hv;obtain ⟨rfl,he⟩ := hv
  repeat (first|refine Yd1 ?_|refine Yet ?_|refine Yao (fun _ hS _ => ?_)|refine Yas (fun _ _ hS _ => ?_)|refine Yei ?_|refine Yab ?_|refine Yap ?_|refine Ybr ?_)
  exact ⟨X',none,0,hX',rfl,Nat.le_refl _,(hS.took (out := [chR c f b T (Nt t) X'])).own_none _ _ _⟩
 | ok x =>
  rw [hg] at hv;obtain ⟨a',q',rfl,hq',hrow⟩ := hv
  obtain ⟨_,u,_,hu,hxu⟩ := Z3s ht hg
  have hlen : x.2.data.length ≤ 512 := by rw [hxu]; exact ht.len hu
  have hrl := Zu5 x.2.data
  simp only
  repeat (first|refine Yd1 ?_|(refine X_id ?_;first|refine Yaf ?_|refine Yag ?_|refine Yax ?_|refine Ya5 ?_|refine Ybh ?_|refine Yao (fun _ hS _ => ?_)|refine Yas (fun _ _ hS _ => ?_))|refine Yec ?_|refine Yab ?_)
  refine Zaa _ rfl rfl rfl rfl rfl (Zr5 x.1 x.2 a' q' _ (hrow.rd (hS.rd (r := chR c f b T (Nt t) X') (by simp)).ch) hq' hlen (hG.at_ hS)) ?_
  rintro _ w (⟨hk,nb,nc,rfl,hS'⟩ | ⟨hk,rfl,hS'⟩)
  ·replace hS := hS.plus hS'
   clear hS';rw [if_pos hk];generalize hl : rdD x.2.data = l at hS hrl ⊢;simp only
   repeat (first|refine Yd1 ?_|refine Yaf ?_|refine Yag ?_|refine Yax ?_|refine Yar ?_|refine Yd4 ?_|refine Yab ?_)
   have hS : St W F [own 93 2 nb nc (nmV l),chR c f b T (Nt t) X'] _ := hS.took
   refine Zak (α := Nat × Option Addr × Nat) (fun z => [(7,.int .i64 0),(9,.slice z.2.1 z.1 z.2.2),(26,.slice nb l.length nc),(27,.int .i64 (l.length : Nat)),(28,.int .i64 (z.1 : Nat))])
    (fun z w => z.1 ≤ l.length ∧ z.1 ≤ z.2.2 ∧ St W F [own 9 1 z.2.1 z.2.2 (strV ((l.take z.1).map (·.1))),own 93 2 nb nc (nmV l),chR c f b T (Nt t) X'] w) (fun z => l.length - z.1) (0,none,0) ⟨rfl,rfl,rfl,rfl,rfl,trivial⟩ ⟨Nat.zero_le _,Nat.le_refl _,hS.own_none _ _ _⟩ ?_
   clear hS;rintro ⟨i,oa,oc⟩ w ⟨hi,hio,hS2⟩
   simp only at hi hio hS2
   by_cases hlt : i < l.length
   ·have hx0 : l[i]? = some l[i] := List.getElem?_eq_getElem (by omega)
    have htk : l.take (i + 1) = l.take i ++ [l[i]] := List.take_succ_eq_append_getElem hlt
    generalize l[i] = y at hx0 htk;have hxs : ((nmV l).drop (i * 2)).take 2 = [.string (str y.1),.int .i64 y.2] := Zhc hx0
    have hr := (hS2.rd (r := own 93 2 nb nc (nmV l)) (by simp)).own_row
    obtain ⟨xb,xo,rfl⟩ := hr.base (by intro e; rw [e] at hxs; simp at hxs)
    have hS := hS2
    repeat (first|refine Yd1 ?_|(refine X_id ?_;first|refine Yaf ?_|refine Yan ?_|refine Ya0 ?_|refine Ybd ?_|refine Yaq ?_|refine Ybp ?_|refine Yao (fun _ hS _ => ?_)|refine Yas (fun _ _ hS _ => ?_)|refine Ybi (fun _ _ hS _ => ?_))|refine Yd5 ?_|refine Yab ?_)
    have hnw := (hS.rd (List.mem_cons_self ..)).own_row
    refine Zar rfl rfl rfl rfl rfl hS (by rw [Zep,List.length_map,List.length_take]; omega) hio hnw rfl (by simp [Value.oneCell']) (by dsimp only; omega) (by simp only [maxLen]; omega) (fun b' q' w hS hq' _ => ?_)
    repeat (first|refine Yd1 ?_|refine Yeg ?_|refine Yad ?_|refine Yd9 ?_)
    refine Zaf (z := (i,oa,oc)) (i + 1,b',q') ⟨rfl,rfl,rfl,rfl,rfl,trivial⟩ ⟨hlt,hq',?_⟩ (by dsimp only; omega)
    rw [htk,List.map_append,show strV ((l.take i).map (·.1) ++ [y].map (·.1)) = strV ((l.take i).map (·.1)) ++ [.string (str y.1)] by simp [strV]]
    exact hS.took
   ·obtain rfl : i = l.length := by omega
    have hS := hS2
    rw [List.take_length] at hS;repeat (first|refine Yd1 ?_|refine Ye2 ?_|refine Yea ?_|refine Yab ?_|refine Ya7 ?_|refine Ya8 ?_|refine Ybr ?_)
    exact ⟨X',oa,oc,hX',by rw [List.length_map],by rw [List.length_map]; exact hio,hS.took⟩
  ·replace hS := hS.plus hS'
   clear hS';rw [if_neg hk];repeat (first|refine Yd1 ?_|refine Yaf ?_|refine Yag ?_|refine Yax ?_|refine Yar ?_|refine Yd4 ?_|refine Yab ?_)
   refine Zak (α := Unit) (fun _ => [(7,.int .i64 17),(9,.slice none 0 0),(27,.int .i64 0),(28,.int .i64 0)]) (fun _ w => St W F [chR c f b T (Nt t) X'] w) (fun _ => 0) () ⟨rfl,rfl,rfl,rfl,trivial⟩ hS.took ?_
   clear hS;rintro _ w hS
   repeat (first|refine Yd1 ?_|refine Ye2 ?_|refine Yea ?_|refine Yab ?_|refine Ya7 ?_|refine Ya8 ?_|refine Ybr ?_)
   exact ⟨X',none,0,hX',rfl,Nat.le_refl _,hS.own_none _ _ _⟩
def Zfc (t : Tn) (p : List (List UInt8)) : Except Int (Tn × List UInt8) :=
 if Zav p then match p.getLast? with
  | none => .error 10
  | some s => match goT t p.dropLast with
   | .error e => .error e
   | .ok u => if u.st.kind = 1 then .ok (u,s) else .error 17
 else .error 10
def Z2f (X : List RowD) (r : Except Int (Tn × List UInt8)) (v : Value) : Prop := match r with
 | .error e => e ≠ 0 ∧ ∃ no nd a q b m k s,v = .tuple #[.agg (List.toArray (plV no nd a q)),.slice b m k,.string s,.int .i64 e]
 | .ok x => ∃ a q nb nc,v = .tuple #[.agg (List.toArray (plV x.1.no x.1.nd a q)),.slice nb x.1.names.length nc,.string (str x.2),.int .i64 0] ∧ x.1.nd.data.length ≤ q ∧ RX X a (bv x.1.nd.data) ∧ RX X nb (nmV x.1.names)
theorem Zqc {p q : List (List UInt8)} (h : Zav (p ++ q)) : Zav p := ⟨by have := h.1; rw [List.length_append] at this; omega,fun s hs => h.2 s (List.mem_append_left _ hs)⟩
theorem Zh6 {t : Tn} {q : List (List UInt8)} {s : List UInt8} (h : Zav (q ++ [s])) : Zfc t (q ++ [s]) = match goT t q with
  | .error e => .error e
  | .ok u => if u.st.kind = 1 then .ok (u,s) else .error 17 := by
 unfold Zfc
 rw [if_pos h,List.getLast?_append,List.dropLast_concat];simp only [List.getLast?_singleton,Option.some_or]
theorem Zvl {t : Tn} {p : List (List UInt8)} (h : ¬ Zav p ∨ p = []) : Zfc t p = .error 10 := by
 unfold Zfc
 rcases h with h | h
 ·rw [if_neg h]
 ·subst h; simp
theorem Zvt {t : Tn} {q : List (List UInt8)} (h : Zav q) : goR t q = match goT t q with
  | .ok u => .ok (u.no,u.nd)
  | .error e => .error e := by
 unfold goR; rw [if_pos h] <;> cases goT t q <;> rfl
theorem Z3j (ht : TreeOk n t) (pa : Option Addr) (p : List (List UInt8)) (pc : Nat) (W : World) (F : Nat → Prop) (hT : TreeRo W F f tp n b T) (hG : Lg W F) (hp : Ro W F (row pa (strV p))) (hpc : p.length ≤ pc) (hpl : p.length ≤ 1048576) (hS : St W F [chR c f b T (Nt t) X] W) :
  Calls Tryz.prog 47 #[.pointer (some ⟨c,0,none⟩),.slice pa p.length pc] W (Ret fun v w => ∃ X',(∀ x ∈ X,x ∈ X') ∧ St W F [chR c f b T (Nt t) X'] w ∧ Z2f X' (Zfc t p) v) := by
 refine Zab Tryz.func47 rfl Tryz.ntmps47 rfl ?_
 repeat (first|refine Yd1 ?_|refine Ye6 ?_|refine Yas (fun _ _ hS _ => ?_)|refine Yec ?_|refine Yab ?_)
 refine Zaa _ rfl rfl rfl rfl rfl (Zzn pa p pc _ (hp.rd hS) hpc hpl) ?_
 rintro _ w (⟨hr,q,s,a',c',rfl,rfl,hc',hS'⟩ | ⟨hbad,rfl,hS'⟩)
 ·replace hS := hS.plus hS'
  clear hS';have hl := Zh6 (t := t) hr
  rw [List.length_append] at hpl;repeat (first|refine Yd1 ?_|refine Yeu ?_|refine Yec ?_|refine Yab ?_)
  obtain ⟨_,hc,hr1,hw,hbk⟩ := hS.call [false,false,true]
  refine Zaa _ rfl rfl rfl rfl rfl (Z1p ht a' q c' _ _ (hT.mono hw) (hG.mono hw) (hr1 _ (List.mem_cons_self ..)).own_row (by omega) hc) ?_
  rintro v w ⟨X',hX',hS,hv⟩
  replace hS := hbk hS
  clear hbk hw hc hr1;rw [Zvt (Zqc hr)] at hv;cases hg : goT t q with
  | error e =>
   rw [hg] at hv hl;rw [hl];obtain ⟨rfl,he⟩ := hv
   repeat (first|refine Yd1 ?_|(refine X_id ?_;first|refine Yaf ?_|refine Yag ?_|refine Yax ?_|refine Ybj ?_|refine Ybo ?_|refine Yao (fun _ hS _ => ?_)|refine Yas (fun _ _ hS _ => ?_))|refine Yei ?_|refine Yab ?_|refine Yap ?_|refine Ycl ?_)
   exact ⟨X',hX',hS.took,he,0,⟨⟨0,0,0,0⟩,[]⟩,none,0,none,0,0,_,rfl⟩
  | ok u =>
   rw [hg] at hv hl;obtain ⟨a2,q2,rfl,hq2,hrow⟩ := hv
   have hu := Zba hg
   simp only at hq2 hrow
   repeat (first|refine Yd1 ?_|(refine X_id ?_;first|refine Yaf ?_|refine Yag ?_|refine Yax ?_|refine Ya5 ?_|refine Ybh ?_|refine Yao (fun _ hS _ => ?_)|refine Yas (fun _ _ hS _ => ?_))|refine Yec ?_|refine Yab ?_)
   refine Zaa _ rfl rfl rfl rfl rfl (Zr5 u.no u.nd a2 q2 _ (hrow.rd (hS.rd (r := chR c f b T (Nt t) X') (by simp)).ch) hq2 (ht.len hu) (hG.at_ hS)) ?_
   rintro _ w (⟨hk,nb,nc,rfl,hS'⟩ | ⟨hk,rfl,hS'⟩)
   ·replace hS := hS.plus hS'
    clear hS';have hk' : u.st.kind = 1 := hk
    simp only [if_pos hk'] at hl
    rw [hl];rw [(ht.rd hu hk').2] at hS ⊢;repeat (first|refine Yd1 ?_|(refine X_id ?_;first|refine Yaf ?_|refine Yag ?_|refine Yax ?_|refine Ybh ?_|refine Yao (fun _ hS _ => ?_))|refine Yee ?_|refine Yab ?_|refine Ycl ?_)
    have hS : St W F [own 93 2 nb nc (nmV u.names),chR c f b T (Nt t) X'] _ := hS.took
    have hS := (hS.toBag (a := nb) (cs := nmV u.names) fun _ h => h.row).chAdd
    exact ⟨_,fun y hy => List.mem_append_right _ (hX' y hy),hS,a2,q2,nb,nc,rfl,hq2,hrow.right,.mem (List.mem_append_left _ (List.mem_cons_self ..))⟩
   ·replace hS := hS.plus hS'
    clear hS';have hk' : ¬ u.st.kind = 1 := hk
    simp only [if_neg hk'] at hl
    rw [hl];repeat (first|refine Yd1 ?_|(refine X_id ?_;first|refine Yaf ?_|refine Yag ?_|refine Yax ?_|refine Ybh ?_|refine Yao (fun _ hS _ => ?_))|refine Yee ?_|refine Yab ?_|refine Ycl ?_)
    exact ⟨X',hX',hS.took,by decide,u.no,u.nd,a2,q2,none,0,0,_,rfl⟩
 ·replace hS := hS.plus hS'
  clear hS';rw [Zvl hbad];repeat (first|refine Yd1 ?_|(refine X_id ?_;first|refine Yaf ?_|refine Yag ?_|refine Yax ?_|refine Ybj ?_|refine Ybo ?_|refine Yao (fun _ hS _ => ?_))|refine Yei ?_|refine Yab ?_|refine Yap ?_|refine Ycl ?_)
  exact ⟨X,fun _ h => h,hS.took,by decide,0,⟨⟨0,0,0,0⟩,[]⟩,none,0,none,0,0,_,rfl⟩
end
end Cr
