/-
  Layer 8 (tree): a change in memory as a resource: which nodes it has by now (N),over a table that tells T. Nodes told,set,freed.
  Layer 8 (tree) in plain words,1: a directory's bytes. No program is in sight.
  DERIVED: THE SHELF's CONTRACTS AT THIS DUMP,IN PLAIN WORDS (tools/lay-plain.mjs out of 'TryzShelf.lean',which tools/lay-shelf.mjs wrote): THE SAME DECLARATIONS UNDER THE SAME NAMES: 'import','namespace','open','def','theorem' AND NOTHING ELSE: no command of the shelf's: FOR A HAND-IN. Each laying: the table of numbers ('.._ren') and one theorem,a field a fact of the dump's own or the kernel's comparison; each contract: ONE APPLICATION.
  The library's functions that packages codec and command call: numbers as text and back,bytes copied and compared.
  Package codec: a reader's small steps: more,is,wrong,take,digits.
  Package codec: a reader takes a byte; a reader takes digits.
  Package codec: a reader takes the digits that come.
  Package codec: a reader takes a number and the byte behind it.
  Package codec,lists in lists too: a reader reads a list,given that it reads values.
-/
import Derived.Test.YtfoigjehifalpaaGreatDoorCqa9
import Derived.Shelf.Strings.Builder1
import Derived.Shelf.Strings.Builder2
import Derived.Shelf.Small.Strs
import Derived.Shelf.Strings.BuilderF
import Derived.Shelf.Strconv.Atoi
import Derived.Shelf.Strconv.Itoa0
import Derived.Shelf.Strconv.Itoa1
import Derived.Shelf.LaysM
import Derived.Shelf.Strconv.Itoa2
import Derived.Shelf.Strconv.Itoa3
import Derived.Shelf.Strconv.AtoiErrFast
import Derived.Shelf.Strconv.ParseIntEmpty
import Derived.Shelf.Strconv.AtoiFail
import Derived.Shelf.Strconv.Clone
import Derived.Shelf.Strconv.SyntaxError
import Derived.Shelf.LaysC
import Derived.Shelf.Strconv.ToError
import Derived.Shelf.Strconv.Lower
import Derived.Shelf.Strconv.ParseUint10
import Derived.Shelf.Strconv.ParseUint10Empty
import Derived.Shelf.Strconv.ParseUint10Any
import Derived.Shelf.Strconv.ParseInt10
import Derived.Shelf.Strconv.AtoiLong
import Derived.Shelf.Strconv.AtoiInnerAll
import Derived.Shelf.Strconv.RangeError
import Derived.Shelf.Strconv.ToErrorRange
import Derived.Shelf.Strconv.AtoiAll
import Derived.Shelf.Strconv.ErrVarAll
import Derived.Shelf.Sort.Plain
import Derived.Shelf.Strings.Prefix
import Derived.Shelf.Bits.Mul64
import Derived.Shelf.Strings.Repeat
import Derived.Shelf.Slices.In.SortNone
import Derived.Test.YtfoigjehifalpaaGreatDoorProg
import Derived.Test.YtfoigjehifalpaaGreatDoorCqa3
import Derived.Lib.LaidTab
import Derived.KernelRfl
import Derived.Test.YtfoigjehifalpaaGreatDoorCqa4
namespace Cr
open Go Go.Proofs
set_option maxRecDepth 100000
set_option maxHeartbeats 64000000
attribute [local irreducible] Calls

section
variable {β : Type} {k : Int} (f : β → Value)
theorem Zok : ∀ l : List (Int × β),getM k (l.map fun x => (x.1,f x.2)) = (getA k l).map f
 | [] => rfl
 | x :: l => by
  have ih := Zok l
  simp only [List.map_cons,getM,getA] at ih ⊢
  split
  ·rfl
  ·exact ih
theorem Zn4 {v : β} : ∀ l : List (Int × β),setM k (f v) (l.map fun x => (x.1,f x.2)) = (setA k v l).map fun x => (x.1,f x.2)
 | [] => rfl
 | x :: l => by
  have ih := Zn4 (v := v) l
  simp only [List.map_cons,setM,setA] at ih ⊢
  split
  ·rfl
  ·rw [ih]; rfl
theorem Zoq : ∀ l : List (Int × β),delM k (l.map fun x => (x.1,f x.2)) = (delA k l).map fun x => (x.1,f x.2)
 | [] => rfl
 | x :: l => by
  have ih := Zoq l
  simp only [List.map_cons,delM,delA] at ih ⊢
  split
  ·rfl
  ·rw [ih]; rfl
theorem Zmx {v : β} {l : List (Int × β)} (h : (Zaw l).Nodup) : (Zaw (setA k v l)).Nodup := by
 induction l with
 | nil => simp [setA,Zaw]
 | cons x l ih =>
  have h' : x.1 ∉ Zaw l ∧ (Zaw l).Nodup := List.nodup_cons.1 h
  unfold setA
  split
  ·rename_i e; simp only [Zaw,List.map_cons] at h' ⊢; rw [e]; exact List.nodup_cons.2 h'
  ·rename_i e
   refine List.nodup_cons.2 ⟨fun hm => ?_,ih h'.2⟩
   have : getA x.1 (setA k v l) ≠ none := fun hn => (getA_none.1 hn) hm
   rw [Zek,if_neg (fun q => e q.symm)] at this
   exact this (getA_none.2 h'.1)
theorem Zmy {l : List (Int × β)} (h : (Zaw l).Nodup) : (Zaw (delA k l)).Nodup := h.sublist Zi4
theorem Zpm {v : β} : ∀ {l : List (Int × β)} {x : Int × β},x ∈ setA k v l → x = (k,v) ∨ x ∈ l
 | [],x,h => by simp [setA] at h; exact .inl h
 | y :: l,x,h => by
  unfold setA at h
  split at h
  ·rcases List.mem_cons.1 h with h | h
   ·exact .inl h
   ·exact .inr (List.mem_cons_of_mem _ h)
  ·rcases List.mem_cons.1 h with h | h
   ·exact .inr (by rw [h]; exact List.mem_cons_self ..)
   ·exact (Zpm h).imp id (List.mem_cons_of_mem _)
end
structure PN where
 nd : Nd
 a : Option Addr
 c : Nat
abbrev PN.val (x : PN) : Value := .agg (ndV x.nd x.a x.c).toArray
abbrev PV := List (Int × PN)
abbrev DV := List (Int × Bool)
def eff (T : Int → Option Nd) (P : PV) (D : DV) (no : Int) : Option Nd :=
 match getA no P with
 | some x => some x.nd
 | none => if (getA no D).getD false = true then none else T no
structure ChOk (T N : Int → Option Nd) (X : List RowD) (P : PV) (D : DV) : Prop where
 kp : (Zaw P).Nodup
 kd : (Zaw D).Nodup
 eff : ∀ no,Cr.eff T P D no = N no
 row : ∀ x ∈ P,RX X x.2.a (bv x.2.nd.data) ∧ x.2.nd.data.length ≤ x.2.c
abbrev chC (f : Nat) (b : Int) (pm dm : Nat) : Obj := .cells (List.toArray [.pointer (some ⟨f,0,none⟩),.int .i64 b,.bool false,.map (some pm),.map (some dm)]) 112 (0,0)
def PV.vals (P : PV) : List (Int × Value) := P.map fun x => (x.1,PN.val x.2)
def DV.vals (D : DV) : List (Int × Value) := D.map fun x => (x.1,Value.bool x.2)
theorem Z8o {k : Int} (P : PV) : getM k P.vals = (getA k P).map PN.val := Zok _ _
theorem Z8p {k : Int} (D : DV) : getM k D.vals = (getA k D).map Value.bool := Zok _ _
theorem Z6e {k : Int} {v : PN} (P : PV) : setM k v.val P.vals = PV.vals (setA k v P) := Zn4 PN.val P
theorem Z6f {k : Int} {v : Bool} (D : DV) : setM k (.bool v) D.vals = DV.vals (setA k v D) := Zn4 Value.bool D
theorem Z80 {k : Int} (P : PV) : delM k P.vals = PV.vals (delA k P) := Zoq PN.val P
theorem Z81 {k : Int} (D : DV) : delM k D.vals = DV.vals (delA k D) := Zoq Value.bool D
def chR (c f : Nat) (b : Int) (T N : Int → Option Nd) (X : List RowD) : Res := fun h => ∃ (P : PV) (D : DV) (pm dm : Nat),ChOk T N X P D ∧
 Sep [bag X,pts c (chC f b pm dm),mapq (Value.int .i64) pm P.vals,mapq (Value.int .i64) dm D.vals] h
structure TabOf (W : World) (F : Nat → Prop) (tp n : Nat) (T : Int → Option Nd) : Prop where
 nodes : ∀ w,(∀ r,Ro W F r → Rd w r) → Calls Tryz.prog 158 #[.pointer (some ⟨tp,0,none⟩)] w (Ret fun v w' => v = .int .i64 (n : Nat) ∧ w = w')
 get : ∀ w no,(∀ r,Ro W F r → Rd w r) → Calls Tryz.prog 86 #[.pointer (some ⟨tp,0,none⟩),.int .i64 no] w (Ret fun v w' => match T no with
  | none => v = .tuple #[nd0,.int .i64 7] ∧ St w noF [] w'
  | some x => ∃ a c,v = .tuple #[.agg (ndV x a c).toArray,.int .i64 0] ∧ x.data.length ≤ c ∧ St w noF [own 5 1 a c (bv x.data)] w')
theorem TabOf.mono {W W' : World} {F F' : Nat → Prop} {tp n : Nat} {T : Int → Option Nd} (h : TabOf W F tp n T) (hm : ∀ r,Ro W F r → Ro W' F' r) : TabOf W' F' tp n T :=
 ⟨fun w hw => h.nodes w fun r hr => hw r (hm r hr),fun w no hw => h.get w no fun r hr => hw r (hm r hr)⟩
structure TreeRo (W : World) (F : Nat → Prop) (f tp n : Nat) (b : Int) (T : Int → Option Nd) : Prop where
 blk : Ro W F (pts f (.cells (List.toArray [.pointer (some ⟨tp,0,none⟩),.int .i64 b]) 107 (0,0)))
 tab : TabOf W F tp n T
theorem TreeRo.mono {W W' : World} {F F' : Nat → Prop} {f tp n : Nat} {b : Int} {T : Int → Option Nd} (h : TreeRo W F f tp n b T) (hm : ∀ r,Ro W F r → Ro W' F' r) : TreeRo W' F' f tp n b T := ⟨hm _ h.blk,h.tab.mono hm⟩
section
variable {W : World} {F : Nat → Prop} {rs : List Res} {w : World} {c f : Nat} {b : Int} {T N : Int → Option Nd} {X : List RowD}
theorem St.openCh (hS : St W F (chR c f b T N X :: rs) w) : ∃ P D pm dm,ChOk T N X P D ∧ St W F (bag X :: pts c (chC f b pm dm) :: mapq (Value.int .i64) pm P.vals :: mapq (Value.int .i64) dm D.vals :: rs) w := by
 obtain ⟨h,⟨h1,h2,⟨P,D,pm,dm,hq,hs⟩,hr,hd,hu⟩,s⟩ := hS
 exact ⟨P,D,pm,dm,hq,h,Sep.append_mk hs hr hd hu,s⟩
theorem St.shutCh {P : PV} {D : DV} {pm dm : Nat} (hq : ChOk T N X P D) (hS : St W F (bag X :: pts c (chC f b pm dm) :: mapq (Value.int .i64) pm P.vals :: mapq (Value.int .i64) dm D.vals :: rs) w) : St W F (chR c f b T N X :: rs) w :=
 St.shutR (rs' := [bag X,pts c (chC f b pm dm),mapq (Value.int .i64) pm P.vals,mapq (Value.int .i64) dm D.vals]) hS fun _ hh => ⟨P,D,pm,dm,hq,hh⟩
theorem ChOk.more {X' : List RowD} {P : PV} {D : DV} (h : ChOk T N X P D) (hX : ∀ x ∈ X,x ∈ X') : ChOk T N X' P D := ⟨h.kp,h.kd,h.eff,fun x hx => ⟨(h.row x hx).1.sub hX,(h.row x hx).2⟩⟩
theorem Z9e {X Y : List RowD} {h1 h3 : Frag} (a : bag Y h1) (b : bag X h3) (d : ∀ k,h1 k = none ∨ h3 k = none) : bag (Y ++ X) (fun k => (h1 k).or (h3 k)) := fun x hx => by
 rcases List.mem_append.1 hx with hx | hx
 ·obtain ⟨h',hr,hs⟩ := a x hx
  exact ⟨h',hr,fun b o e => Zxo (hs b o e)⟩
 ·obtain ⟨h',hr,hs⟩ := b x hx
  exact ⟨h',hr,fun b o e => Zti d (hs b o e)⟩
theorem St.chAdd {Y : List RowD} (hS : St W F (bag Y :: chR c f b T N X :: rs) w) : St W F (chR c f b T N (Y ++ X) :: rs) w :=
 hS.merge fun h1 h3 hY ⟨P,D,pm,dm,hq,hs⟩ hd => ⟨P,D,pm,dm,hq.more fun x hx => List.mem_append_right _ hx,
  Sep.merge (Sep.append_mk (rs := [Cr.bag Y]) ⟨h1,fun _ => none,hY,Z1z,fun _ => .inr rfl,fun k => by simp⟩ hs hd fun _ => rfl) fun _ _ a b d => Z9e a b d⟩
theorem Ro.ch (H : Ro W F (chR c f b T N X)) : Ro W F (Cr.bag X) := H.mono fun h ⟨_,_,_,_,_,h1,h2,a,_,_,u⟩ => ⟨h1,a,fun b o e => by rw [u,e]; rfl⟩
theorem Rd.ch {w : World} (H : Rd w (chR c f b T N X)) : Rd w (Cr.bag X) := H.mono fun h ⟨_,_,_,_,_,h1,h2,a,_,_,u⟩ => ⟨h1,a,fun b o e => by rw [u,e]; rfl⟩
end
def Z5v (W : World) (F : Nat → Prop) (c f : Nat) (b : Int) (T N : Int → Option Nd) (X : List RowD) (no : Int) (v : Value) (w : World) : Prop :=
 ∃ X',(∀ x ∈ X,x ∈ X') ∧ St W F [chR c f b T N X'] w ∧ ∃ nd a q,v = .tuple #[.agg (ndV nd a q).toArray,.bool (N no).isSome] ∧ ∀ x,N no = some x → nd = x ∧ x.data.length ≤ q ∧ RX X' a (bv x.data)
theorem Z4j {c f tp n : Nat} {b : Int} {T N : Int → Option Nd} {X : List RowD} (no : Int) (W : World) (F : Nat → Prop) (hT : TreeRo W F f tp n b T) (hS : St W F [chR c f b T N X] W) :
  Calls Tryz.prog 159 #[.pointer (some ⟨c,0,none⟩),.int .i64 no] W (Ret fun v w => Z5v W F c f b T N X no v w) := by
 obtain ⟨P,D,pm,dm,hq,hS⟩ := hS.openCh
 have hc := hT.blk
 refine Zab Tryz.func159 rfl Tryz.ntmps159 rfl ?_
 repeat (first|refine Yeg ?_|(refine X_id ?_;first|refine Yaf ?_|refine Yag ?_|refine Yav ?_|refine Yan ?_|refine Yap ?_|refine Yar (fun _ _ hS _ => ?_))|refine Yeh ?_|refine Yab ?_)
 refine X_yl (Zhr (mk := Value.int .i64) (L := P.vals) (k := no) rfl rfl rfl ((hS.rd (by simp)).mapq_r)) rfl rfl ?_
 rw [Z8o]
 have he := hq.eff no
 unfold eff at he
 cases hg : getA no P with
 | some x =>
  rw [hg] at he
  simp only [Option.map_some,Option.getD_some,Option.isSome_some]
  repeat (first|refine Yeg ?_|(refine X_id ?_;first|refine Yaf ?_|refine Yag ?_|refine Ya3 ?_|refine Ybf ?_|refine Yao (fun _ hS _ => ?_)|refine Yar (fun _ _ hS _ => ?_))|refine Yey ?_|refine Yab ?_|refine Yaq ?_|refine Yby ?_)
  have hS : St W F [bag X,pts c (chC f b pm dm),mapq (Value.int .i64) pm P.vals,mapq (Value.int .i64) dm D.vals] _ := hS.took
  obtain ⟨h1,h2⟩ := hq.row _ (Zkc hg)
  exact ⟨X,fun _ h => h,hS.shutCh hq,x.nd,x.a,x.c,by rw [← he]; rfl,fun y hy => by rw [← he] at hy; cases hy; exact ⟨rfl,h2,h1⟩⟩
 | none =>
  rw [hg] at he
  simp only [Option.map_none,Option.getD_none,Option.isSome_none]
  repeat (first|refine Yeg ?_|(refine X_id ?_;first|refine Yaf ?_|refine Yag ?_|refine Yav ?_|refine Yan ?_|refine Ya3 ?_|refine Yap ?_|refine Yao (fun _ hS _ => ?_)|refine Yar (fun _ _ hS _ => ?_)|refine Ycd ?_)|refine Yes ?_|refine Yab ?_)
  refine Zaa _ rfl rfl rfl rfl rfl (hT.tab.get _ no fun r h => h.rd hS) ?_
  rintro v w hV
  cases hTn : T no with
  | none =>
   rw [hTn] at hV
   obtain ⟨rfl,hS'⟩ := hV
   replace hS := hS.plus hS'
   clear hS'
   have hN : N no = none := by rw [← he]; simp [hTn]
   repeat (first|refine Yeg ?_|refine Yfk ?_|refine Yao (fun _ hS _ => ?_)|refine Yar (fun _ _ hS _ => ?_)|refine Yae ?_|refine Yab ?_)
   refine Zan (.s 0 (.s 1 (.s 2 (.s 3 (.s 4 (.s 5 (.s 6 (.s 7 (.s 8 (.s 9 (.s 10 (.s 11 (.h 12 (.s 13 .nil) .no))))))))))))) mixed (by kernel_rfl) rfl ?_
   have hS := hS.drew
   repeat (first|refine Yao (fun _ hS _ => ?_)|refine Yah ?_|refine Yab ?_|refine Yby ?_|(refine Zae ?_;first|refine Yaw ?_|refine Ya0 ?_|refine Ybj ?_|refine Ycc ?_|refine Zak rfl rfl (fun _ => Zkk rfl rfl rfl (by omega)) rfl rfl ?_|refine Ybx ?_|refine Yas ?_|refine Ycr ?_)|(refine Zac ?_;first|refine Ydj ?_))
   have hS : St W F [bag X,pts c (chC f b pm dm),mapq (Value.int .i64) pm P.vals,mapq (Value.int .i64) dm D.vals] _ := hS.took
   exact ⟨X,fun _ h => h,hS.shutCh hq,⟨⟨0,0,0,0⟩,[]⟩,none,0,by rw [hN]; rfl,fun y hy => by rw [hN] at hy; cases hy⟩
  | some x =>
   rw [hTn] at hV
   obtain ⟨a,q,rfl,hq2,hS'⟩ := hV
   replace hS := hS.plus hS'
   clear hS'
   repeat (first|refine Yeg ?_|refine Yfk ?_|refine Yao (fun _ hS _ => ?_)|refine Yar (fun _ _ hS _ => ?_)|refine Yae ?_|refine Yab ?_)
   refine Zan (.s 0 (.s 1 (.s 2 (.s 3 (.s 4 (.s 5 (.s 6 (.s 7 (.s 8 (.s 9 (.s 10 (.s 11 (.h 12 (.s 13 .nil) .no))))))))))))) mixed (by kernel_rfl) rfl ?_
   have hS := hS.drew
   repeat (first|(refine Zae ?_;first|refine Ya0 ?_|refine Yd5 ?_|refine Ybx ?_|refine Yca ?_|refine Yc3 ?_|refine Ycx ?_|refine Yda ?_))
   refine Zdj (fun w' => Rd w' (mapr (Value.int .i64) dm D.vals)) rfl rfl rfl rfl ((hS.rd (by simp)).mapq_r) (fun _ h => Zis (mk := Value.int .i64) (L := D.vals) (k := no) rfl rfl rfl h) rfl rfl ?_
   rw [Z8p]
   obtain ⟨d,hd⟩ : ∃ d,d = (getA no D).getD false := ⟨_,rfl⟩
   have hdv : ((getA no D).map Value.bool).getD (.bool false) = .bool d := by rw [hd]; cases getA no D <;> rfl
   rw [hdv]
   repeat (first|refine Yao (fun _ hS _ => ?_)|refine Yah ?_|refine Yab ?_|refine Yby ?_|(refine Zae ?_;first|refine Yaw ?_|refine Ybj ?_|refine Yct ?_|refine Yas ?_|refine Zcg rfl rfl rfl rfl (fun _ => Zoy rfl rfl) rfl rfl ?_)|(refine Zac ?_;first|refine Ydj ?_))
   have hS : St W F [own 5 1 a q (bv x.data),bag X,pts c (chC f b pm dm),mapq (Value.int .i64) pm P.vals,mapq (Value.int .i64) dm D.vals] _ := hS.took
   have hS := hS.bagAdd (a := a) (cs := bv x.data) fun _ h => h.row
   refine ⟨(a,bv x.data) :: X,fun _ h => List.mem_cons_of_mem _ h,hS.shutCh (hq.more fun _ h => List.mem_cons_of_mem _ h),x,a,q,?_,fun y hy => ?_⟩
   ·rw [← he,← hd,hTn]; cases d <;> rfl
   ·rw [← he,hTn] at hy
    simp only at hy
    split at hy
    ·cases hy
    ·cases hy; exact ⟨rfl,hq2,.mem (List.mem_cons_self ..)⟩
theorem Z89 {T N : Int → Option Nd} {X X' : List RowD} {P : PV} {D : DV} (h : ChOk T N X P D) (hX : ∀ x ∈ X,x ∈ X') (no : Int) (nd : Nd) (a : Option Addr) (q : Nat) (hr : RX X' a (bv nd.data)) (hq : nd.data.length ≤ q) : ChOk T (fun k => if k = no then some nd else N k) X' (setA no ⟨nd,a,q⟩ P) (delA no D) := by
 refine ⟨Zmx h.kp,Zmy h.kd,fun k => ?_,fun x hx => ?_⟩
 ·have he := h.eff k
  unfold Cr.eff at he ⊢
  rw [Zek,Zgg h.kd]
  by_cases hk : k = no
  ·rw [if_pos hk]; simp [hk]
  ·simp only [if_neg hk]; exact he
 ·rcases Zpm hx with rfl | hx
  ·exact ⟨hr,hq⟩
  ·exact ⟨(h.row x hx).1.sub hX,(h.row x hx).2⟩
theorem Z5d {T N : Int → Option Nd} {X : List RowD} {P : PV} {D : DV} (h : ChOk T N X P D) (no : Int) : ChOk T (fun k => if k = no then none else N k) X (delA no P) (setA no true D) := by
 refine ⟨Zmy h.kp,Zmx h.kd,fun k => ?_,fun x hx => h.row x (delA_sub.subset hx)⟩
 have he := h.eff k
 unfold Cr.eff at he ⊢
 rw [Zek,Zgg h.kp]
 by_cases hk : k = no
 ·simp [hk]
 ·simp only [if_neg hk]; exact he
theorem set_ {c f : Nat} {b : Int} {T N : Int → Option Nd} {X : List RowD} (no : Int) (nd : Nd) (a : Option Addr) (q : Nat) (W : World) (F : Nat → Prop) (ha : Ro W F (bytes a nd.data) ∨ RX X a (bv nd.data)) (hl : nd.data.length ≤ 1073741824) (hS : St W F [chR c f b T N X] W) :
  Calls Tryz.prog 95 #[.pointer (some ⟨c,0,none⟩),.int .i64 no,.agg (List.toArray [.int .i64 nd.st.kind,.int .i64 nd.st.mode,.int .i64 nd.st.owner,.int .i64 nd.st.group,.slice a nd.data.length q])] W (Ret fun v w => v = .tuple #[] ∧ ∃ X',(∀ x ∈ X,x ∈ X') ∧ St W F [chR c f b T (fun k => if k = no then some nd else N k) X'] w) := by
 obtain ⟨P,D,pm,dm,hq,hS⟩ := hS.openCh
 refine Zab Tryz.func95 rfl Tryz.ntmps95 rfl ?_
 repeat (first|refine Yeg ?_|(refine X_id ?_;first|refine Yaf ?_|refine Yav ?_|refine Yan ?_|refine Yap ?_|refine Ya7 (fun _ _ hS _ => ?_))|refine Yeh ?_|refine Yab ?_)
 have hS := hS.pick [4,0,0,0,0]
 refine Zgo (mk := Value.int .i64) (L := D.vals) (k := no) rfl rfl rfl rfl hS (fun w hS => ?_)
 rw [Z81] at hS
 repeat (first|refine Yac ?_|refine Yab ?_)
 refine Zan (.s 0 (.s 1 (.s 2 (.s 3 (.s 4 (.s 5 (.s 6 (.s 7 (.s 8 (.h 9 (.s 10 (.h 11 .nil .no)) .no)))))))))) mixed (by kernel_rfl) rfl ?_
 have hS := hS.drew
 repeat (first|(refine Zae ?_;first|refine Ya0 ?_|refine Ybo ?_|refine Ybg ?_|refine Ybm ?_|refine Ybx ?_|refine Yas ?_))
 refine Zaa _ rfl rfl rfl rfl rfl (Ze9 a nd.data.length q nd.data _ (by
  rcases ha with ha | ha
  ·exact ha.rd hS
  ·exact ha.rd (hS.rd (r := bag X) (by simp))) rfl hl) ?_
 rintro _ w ⟨a',q',rfl,_,hqq,hS'⟩
 replace hS := hS.plus hS'
 clear hS'
 repeat (first|(refine Zae ?_;first|refine Yce ?_|refine Yas ?_)|(refine Zac ?_;first|refine Ydj ?_))
 have hS := hS.pick [5,0,2,2,0]
 refine Ze2 (mk := Value.int .i64) (L := P.vals) (k := no) rfl rfl rfl rfl rfl hS (fun w hS => ?_)
 rw [show (Value.agg (List.toArray [.int .i64 nd.st.kind,.int .i64 nd.st.mode,.int .i64 nd.st.owner,.int .i64 nd.st.group,.slice a' nd.data.length q'])) = PN.val ⟨nd,a',q'⟩ from rfl,Z6e] at hS
 repeat (first|refine Ybt ?_|(refine Zae ?_;first|refine Yaw ?_)|(refine Zac ?_;first|refine Ydj ?_))
 have hS : St W F [own 5 1 a' q' (bv nd.data),bag X,pts c (chC f b pm dm),mapq (Value.int .i64) pm (PV.vals (setA no ⟨nd,a',q'⟩ P)),mapq (Value.int .i64) dm (DV.vals (delA no D))] _ := hS.took
 have hS := hS.bagAdd (a := a') (cs := bv nd.data) fun _ h => h.row
 exact ⟨rfl,_,fun _ h => List.mem_cons_of_mem _ h,hS.shutCh (Z89 hq (fun _ h => List.mem_cons_of_mem _ h) no nd a' q' (.mem (List.mem_cons_self ..)) hqq)⟩
theorem Z8n {c f : Nat} {b : Int} {T N : Int → Option Nd} {X : List RowD} (no : Int) (W : World) (F : Nat → Prop) (hS : St W F [chR c f b T N X] W) :
  Calls Tryz.prog 107 #[.pointer (some ⟨c,0,none⟩),.int .i64 no] W (Ret fun v w => v = .tuple #[] ∧ St W F [chR c f b T (fun k => if k = no then none else N k) X] w) := by
 obtain ⟨P,D,pm,dm,hq,hS⟩ := hS.openCh
 refine Zab Tryz.func107 rfl Tryz.ntmps107 rfl ?_
 repeat (first|refine Yaa ?_|refine Yaf ?_|refine Yav ?_|refine Yan ?_|refine Yap ?_|refine Yeh ?_)
 have hS := hS.pick [2,0,0,0]
 refine Zgo (mk := Value.int .i64) (L := P.vals) (k := no) rfl rfl rfl rfl hS (fun w hS => ?_)
 rw [Z80] at hS
 repeat (first|refine Yeg ?_|refine Yaf ?_|refine Yav ?_|refine Yan ?_|refine Yap ?_|refine Yad ?_|refine Yab ?_)
 have hS := hS.pick [3,0,0,0]
 refine Ze2 (mk := Value.int .i64) (L := D.vals) (k := no) rfl rfl rfl rfl rfl hS (fun w hS => ?_)
 rw [Z6f] at hS
 repeat (first|refine Yac ?_|refine Ybt ?_)
 have hS : St W F [bag X,pts c (chC f b pm dm),mapq (Value.int .i64) pm (PV.vals (delA no P)),mapq (Value.int .i64) dm (DV.vals (setA no true D))] _ := hS.took
 exact ⟨rfl,hS.shutCh (Z5d hq no)⟩
end Cr
namespace Cr
open Go
set_option maxHeartbeats 64000000

abbrev Nm := List UInt8 × Int
def Zfi (x : Nm) : Mv := liM [txM x.1,nuM x.2]
def dirM (l : List Nm) : Mv := liM (l.map Zfi)
def wrD (l : List Nm) : List UInt8 := encM (dirM l)
def Zgj (x : Mv) : Option Nm := match x.lst with
 | [a,b] => some (a.txt,b.num)
 | _ => none
def rdV (v : Mv) : List Nm := v.lst.filterMap Zgj
def rdD (b : List UInt8) : List Nm := match decM b with
 | some v => rdV v
 | none => []
def NmOk (l : List Nm) : Prop := l.length ≤ 1024 ∧ ∀ x ∈ l,x.1.length ≤ 64 ∧ 0 ≤ x.2 ∧ x.2 ≤ 1000000
theorem Zln (x : Nm) (m : Nat) : chkM (m + 1) (Zfi x) = 0 := Zke fun y hy => by
 simp only [List.mem_cons,List.not_mem_nil,or_false] at hy
 rcases hy with rfl | rfl
 ·exact Zg0 _ _
 ·exact Zuk _ _
theorem Zuj (l : List Nm) : chkM 8 (dirM l) = 0 := Zke fun y hy => by
 obtain ⟨x,_,rfl⟩ := List.mem_map.1 hy
 exact Zln x _
theorem Zyl {x : Nm} (h : x.1.length ≤ 64 ∧ 0 ≤ x.2 ∧ x.2 ≤ 1000000) : fitM (Zfi x) := by
 rw [Zfi,fitM,Zfg,Zfg,Zfg,fitM,fitM,Zfg]
 refine ⟨by omega,by simp,⟨by omega,by omega,trivial⟩,⟨by omega,by simp,trivial⟩,trivial⟩
theorem Zua {l : List Nm} (h : ∀ x ∈ l,x.1.length ≤ 64 ∧ 0 ≤ x.2 ∧ x.2 ≤ 1000000) : fitM (dirM l) := by
 rw [dirM,fitM,fitMs_mem]
 refine ⟨by omega,by simp,fun y hy => ?_⟩
 obtain ⟨x,hx,rfl⟩ := List.mem_map.1 hy
 exact Zyl (h x hx)
theorem Z0z (l : List Nm) : rdV (dirM l) = l := by
 show List.filterMap Zgj (l.map Zfi) = l
 rw [List.filterMap_map]
 have : (Zgj ∘ Zfi) = some := by funext x; rfl
 rw [this,List.filterMap_some]
theorem Zxj {l : List Nm} (h : ∀ x ∈ l,x.1.length ≤ 64 ∧ 0 ≤ x.2 ∧ x.2 ≤ 1000000) : rdD (wrD l) = l := by
 unfold rdD wrD
 rw [Zui (Zuj l) (Zua h)]
 exact Z0z l
theorem Zn0 : ∀ (k u : Nat),u < 10 ^ (k + 1) → (Lib.decDigits u).length ≤ k + 1
 | 0,u,h => by rw [Lib.decDigits_one (by simpa using h)]; simp
 | k + 1,u,h => by
  rw [Lib.decDigits]
  by_cases h' : u < 10
  ·rw [dif_pos h']; simp
  ·rw [dif_neg h',List.length_append]
   have := Zn0 k (u / 10) (by rw [Nat.pow_succ] at h; omega)
   simp; omega
theorem Zfd {n : Int} (h0 : 0 ≤ n) (h1 : n ≤ 1000000) : (Lib.itoa n).length ≤ 7 := by
 obtain ⟨u,rfl⟩ : ∃ u : Nat,n = u := ⟨n.toNat,by omega⟩
 rw [Zd4]; exact Zn0 6 u (by omega)
theorem Zyu {x : Nm} (h : x.1.length ≤ 64 ∧ 0 ≤ x.2 ∧ x.2 ≤ 1000000) : (encM (Zfi x)).length ≤ 83 := by
 have h1 := Zfd (n := (x.1.length : Nat)) (by omega) (by omega)
 have h2 := Zfd h.2.1 h.2.2
 rw [Zfi,Zby,Za5,Za5,Za5,Zex,Zfz]
 simp only [List.length_cons,List.length_append,List.length_nil]
 omega
theorem Znf : ∀ {l : List Nm},(∀ x ∈ l,x.1.length ≤ 64 ∧ 0 ≤ x.2 ∧ x.2 ≤ 1000000) → (Za5 (l.map Zfi)).length ≤ 83 * l.length
 | [],_ => by simp [Za5]
 | x :: l,h => by
  have h1 := Zyu (h x (List.mem_cons_self ..))
  have h2 := Znf fun y hy => h y (List.mem_cons_of_mem _ hy)
  rw [List.map_cons,Za5,List.length_append,List.length_cons]; omega
theorem Zrk {l : List Nm} (h : NmOk l) : (wrD l).length ≤ 84994 := by
 have := Znf h.2
 have := h.1
 rw [wrD,dirM,Zby]
 simp only [List.length_cons,List.length_append,List.length_nil]; omega
theorem Zz6 (x : Nm) : wM (Zfi x) = 3 + x.1.length := by
 simp only [Zfi,Zl8,wMs,List.length_nil]; omega
theorem Zs1 : ∀ {l : List Nm},(∀ x ∈ l,x.1.length ≤ 64) → wMs (l.map Zfi) ≤ 67 * l.length
 | [],_ => by simp [wMs]
 | x :: l,h => by
  have h1 := h x (List.mem_cons_self ..)
  have h2 := Zs1 fun y hy => h y (List.mem_cons_of_mem _ hy)
  rw [List.map_cons,wMs,Zz6,List.length_cons]; omega
theorem Z3g {l : List Nm} (h : NmOk l) : wM (dirM l) ≤ 1048576 := by
 have := Zs1 (l := l) fun x hx => (h.2 x hx).1
 have := h.1
 rw [dirM,Zl8]; simp only [List.length_nil]; omega
theorem Zkd {m : Nat} : ∀ {l : List Mv},(∀ x ∈ l,chkM m x = 0) → 2 * l.length ≤ (Za5 l).length
 | [],_ => by simp
 | x :: l,h => by
  have h1 := Zop (h x (List.mem_cons_self ..))
  have h2 := Zkd (m := m) fun y hy => h y (List.mem_cons_of_mem _ hy)
  rw [Za5,List.length_append,List.length_cons]; omega
theorem Znj {s : List UInt8} {v : Mv} (h : decM s = some v) : 2 * v.lst.length ≤ s.length := by
 obtain ⟨rfl,hc,_⟩ := Zwa h
 rcases Zdf hc with ⟨n,rfl⟩ | ⟨b,rfl⟩ | ⟨l,m',rfl,_,hl⟩
 ·simp [Mv.lst]
 ·simp [Mv.lst]
 ·have := Zkd hl
  rw [Zby]; simp [Mv.lst]; omega
end Cr
namespace Go.Proofs
open Go.Shelf
def Tryz.laysM171_ren : Go.Shelf.Ren := ⟨fun | 171 => 65 | 243 => 114 | 246 => 173 | 283 => 216 | 284 => 217 | 285 => 218 | 286 => 219 | 129 => 244 | 317 => 243 | 318 => 245 | 319 => 246 | 320 => 247 | 337 => 263 | 338 => 264 | n => n,fun | 3 => 3 | 9 => 9 | 2 => 2 | 4 => 4 | 171 => 348 | 0 => 0 | 53 => 45 | 37 => 35 | 5 => 5 | 173 => 351 | 212 => 371 | 51 => 164 | 20 => 20 | 213 => 372 | 46 => 238 | 232 => 56 | 233 => 234 | n => n,fun | 17 => 3 | 18 => 4 | 19 => 5 | n => n⟩
theorem Tryz.laysM171 : Go.Proofs.LaysM.n171 Tryz.prog Tryz.laysM171_ren := {
 mixed := by kernel_rfl
 f129 := Tryz.func244.trans (congrArg some (by kernel_rfl))
 f171 := Tryz.func65.trans (congrArg some (by kernel_rfl))
 f243 := Tryz.func114.trans (congrArg some (by kernel_rfl))
 f246 := Tryz.func173.trans (congrArg some (by kernel_rfl))
 f283 := Tryz.func216.trans (congrArg some (by kernel_rfl))
 f284 := Tryz.func217.trans (congrArg some (by kernel_rfl))
 f285 := Tryz.func218.trans (congrArg some (by kernel_rfl))
 f286 := Tryz.func219.trans (congrArg some (by kernel_rfl))
 f317 := Tryz.func243.trans (congrArg some (by kernel_rfl))
 f318 := Tryz.func245.trans (congrArg some (by kernel_rfl))
 f319 := Tryz.func246.trans (congrArg some (by kernel_rfl))
 f320 := Tryz.func247.trans (congrArg some (by kernel_rfl))
 f337 := Tryz.func263.trans (congrArg some (by kernel_rfl))
 f338 := Tryz.func264.trans (congrArg some (by kernel_rfl))
 t0 := Tryz.underlying0
 a0 := Tryz.isAgg0
 z0 := Tryz.sizeOf0
 v0 := Tryz.zeroValue0
 t2 := Tryz.underlying2
 a2 := Tryz.isAgg2
 z2 := Tryz.sizeOf2
 v2 := Tryz.zeroValue2
 t3 := Tryz.underlying3
 a3 := Tryz.isAgg3
 z3 := Tryz.sizeOf3
 v3 := Tryz.zeroValue3
 t4 := Tryz.underlying4
 a4 := Tryz.isAgg4
 z4 := Tryz.sizeOf4
 v4 := Tryz.zeroValue4
 t5 := Tryz.underlying5
 a5 := Tryz.isAgg5
 z5 := Tryz.sizeOf5
 v5 := Tryz.zeroValue5
 t9 := Tryz.underlying9
 a9 := Tryz.isAgg9
 z9 := Tryz.sizeOf9
 v9 := Tryz.zeroValue9
 t20 := Tryz.underlying20
 a20 := Tryz.isAgg20
 z20 := Tryz.sizeOf20
 v20 := Tryz.zeroValue20
 t37 := Tryz.underlying35
 a37 := Tryz.isAgg35
 z37 := Tryz.sizeOf35
 v37 := Tryz.zeroValue35
 t46 := Tryz.underlying238
 a46 := Tryz.isAgg238
 z46 := Tryz.sizeOf238
 v46 := Tryz.zeroValue238
 t51 := Tryz.underlying164
 a51 := Tryz.isAgg164
 z51 := Tryz.sizeOf164
 v51 := Tryz.zeroValue164
 t53 := Tryz.underlying45
 a53 := Tryz.isAgg45
 z53 := Tryz.sizeOf45
 v53 := Tryz.zeroValue45
 t171 := Tryz.underlying348
 a171 := Tryz.isAgg348
 z171 := Tryz.sizeOf348
 v171 := Tryz.zeroValue348
 t173 := Tryz.underlying351
 a173 := Tryz.isAgg351
 z173 := Tryz.sizeOf351
 v173 := Tryz.zeroValue351
 t212 := Tryz.underlying371
 a212 := Tryz.isAgg371
 z212 := Tryz.sizeOf371
 v212 := Tryz.zeroValue371
 t213 := Tryz.underlying372
 a213 := Tryz.isAgg372
 z213 := Tryz.sizeOf372
 t232 := Tryz.underlying56
 a232 := Tryz.isAgg56
 z232 := Tryz.sizeOf56
 v232 := Tryz.zeroValue56
 t233 := Tryz.underlying234
 a233 := Tryz.isAgg234
 z233 := Tryz.sizeOf234
 v233 := Tryz.zeroValue234
 g17 := by kernel_rfl
 g18 := by kernel_rfl
 g19 := by kernel_rfl
 i0 := by kernel_rfl
 i2 := by kernel_rfl
 i3 := by kernel_rfl
 i4 := by kernel_rfl
 i5 := by kernel_rfl
 i9 := by kernel_rfl
 i20 := by kernel_rfl
 i37 := by kernel_rfl
 i46 := by kernel_rfl
 i51 := by kernel_rfl
 i53 := by kernel_rfl
 i171 := by kernel_rfl
 i173 := by kernel_rfl
 i212 := by kernel_rfl
 i232 := by kernel_rfl
 i233 := by kernel_rfl
 m17 := by kernel_rfl
 m18 := by kernel_rfl
 m19 := by kernel_rfl }
open Go.RowKit Go.Sort Go.Lib in
theorem Tryz.strconv_Itoa (n : Int) (h0 : -9223372036854775808 ≤ n) (h1 : n ≤ 9223372036854775807) (w : World) (htab : Lib.TabIs Tryz.prog w "internal/strconv.uint64pow10" .u64 Lib.pow10Tab) :
  Calls Tryz.prog 65 #[.int .i64 n] w fun e w' => e = .returned (.string ⟨(Lib.itoa n).toArray⟩) ∧ ∃ k os,w' = grow (w.drewN k) os := Any.strconv_Itoa Tryz.laysM171 n h0 h1 w htab
def Tryz.laysC172_ren : Go.Shelf.Ren := ⟨fun | 172 => 239 | 244 => 261 | 245 => 262 | 247 => 282 | 279 => 283 | 280 => 284 | 281 => 285 | 282 => 286 | 287 => 293 | 316 => 294 | 171 => 65 | 205 => 295 | 321 => 297 | 322 => 298 | 243 => 114 | 246 => 173 | 283 => 216 | 284 => 217 | 285 => 218 | 286 => 219 | 129 => 244 | 317 => 243 | 318 => 245 | 319 => 246 | 320 => 247 | 337 => 263 | 338 => 264 | n => n,fun | 9 => 9 | 3 => 3 | 75 => 246 | 76 => 247 | 4 => 4 | 5 => 5 | 167 => 396 | 37 => 35 | 0 => 0 | 85 => 397 | 2 => 2 | 168 => 399 | 53 => 45 | 175 => 408 | 46 => 238 | 210 => 411 | 127 => 313 | 145 => 419 | 143 => 417 | 21 => 21 | 171 => 348 | 173 => 351 | 212 => 371 | 51 => 164 | 20 => 20 | 213 => 372 | 232 => 56 | 233 => 234 | 80 => 249 | n => n,fun | 15 => 6 | 16 => 7 | 17 => 3 | 18 => 4 | 19 => 5 | n => n⟩
theorem Tryz.laysC172 : Go.Proofs.LaysC.n172 Tryz.prog Tryz.laysC172_ren := {
 mixed := by kernel_rfl
 f129 := Tryz.func244.trans (congrArg some (by kernel_rfl))
 f171 := Tryz.func65.trans (congrArg some (by kernel_rfl))
 f172 := Tryz.func239.trans (congrArg some (by kernel_rfl))
 f205 := Tryz.func295.trans (congrArg some (by kernel_rfl))
 f243 := Tryz.func114.trans (congrArg some (by kernel_rfl))
 f244 := Tryz.func261.trans (congrArg some (by kernel_rfl))
 f245 := Tryz.func262.trans (congrArg some (by kernel_rfl))
 f246 := Tryz.func173.trans (congrArg some (by kernel_rfl))
 f247 := Tryz.func282.trans (congrArg some (by kernel_rfl))
 f279 := Tryz.func283.trans (congrArg some (by kernel_rfl))
 f280 := Tryz.func284.trans (congrArg some (by kernel_rfl))
 f281 := Tryz.func285.trans (congrArg some (by kernel_rfl))
 f282 := Tryz.func286.trans (congrArg some (by kernel_rfl))
 f283 := Tryz.func216.trans (congrArg some (by kernel_rfl))
 f284 := Tryz.func217.trans (congrArg some (by kernel_rfl))
 f285 := Tryz.func218.trans (congrArg some (by kernel_rfl))
 f286 := Tryz.func219.trans (congrArg some (by kernel_rfl))
 f287 := Tryz.func293.trans (congrArg some (by kernel_rfl))
 f316 := Tryz.func294.trans (congrArg some (by kernel_rfl))
 f317 := Tryz.func243.trans (congrArg some (by kernel_rfl))
 f318 := Tryz.func245.trans (congrArg some (by kernel_rfl))
 f319 := Tryz.func246.trans (congrArg some (by kernel_rfl))
 f320 := Tryz.func247.trans (congrArg some (by kernel_rfl))
 f321 := Tryz.func297.trans (congrArg some (by kernel_rfl))
 f322 := Tryz.func298.trans (congrArg some (by kernel_rfl))
 f337 := Tryz.func263.trans (congrArg some (by kernel_rfl))
 f338 := Tryz.func264.trans (congrArg some (by kernel_rfl))
 t0 := Tryz.underlying0
 a0 := Tryz.isAgg0
 z0 := Tryz.sizeOf0
 v0 := Tryz.zeroValue0
 t2 := Tryz.underlying2
 a2 := Tryz.isAgg2
 z2 := Tryz.sizeOf2
 v2 := Tryz.zeroValue2
 t3 := Tryz.underlying3
 a3 := Tryz.isAgg3
 z3 := Tryz.sizeOf3
 v3 := Tryz.zeroValue3
 t4 := Tryz.underlying4
 a4 := Tryz.isAgg4
 z4 := Tryz.sizeOf4
 v4 := Tryz.zeroValue4
 t5 := Tryz.underlying5
 a5 := Tryz.isAgg5
 z5 := Tryz.sizeOf5
 v5 := Tryz.zeroValue5
 t9 := Tryz.underlying9
 a9 := Tryz.isAgg9
 z9 := Tryz.sizeOf9
 v9 := Tryz.zeroValue9
 t20 := Tryz.underlying20
 a20 := Tryz.isAgg20
 z20 := Tryz.sizeOf20
 v20 := Tryz.zeroValue20
 t21 := Tryz.underlying21
 a21 := Tryz.isAgg21
 z21 := Tryz.sizeOf21
 v21 := Tryz.zeroValue21
 t37 := Tryz.underlying35
 a37 := Tryz.isAgg35
 z37 := Tryz.sizeOf35
 v37 := Tryz.zeroValue35
 t46 := Tryz.underlying238
 a46 := Tryz.isAgg238
 z46 := Tryz.sizeOf238
 v46 := Tryz.zeroValue238
 t51 := Tryz.underlying164
 a51 := Tryz.isAgg164
 z51 := Tryz.sizeOf164
 v51 := Tryz.zeroValue164
 t53 := Tryz.underlying45
 a53 := Tryz.isAgg45
 z53 := Tryz.sizeOf45
 v53 := Tryz.zeroValue45
 t75 := Tryz.underlying246
 a75 := Tryz.isAgg246
 z75 := Tryz.sizeOf246
 v75 := Tryz.zeroValue246
 t76 := Tryz.underlying247
 a76 := Tryz.isAgg247
 z76 := Tryz.sizeOf247
 v76 := Tryz.zeroValue247
 t85 := Tryz.underlying397
 a85 := Tryz.isAgg397
 z85 := Tryz.sizeOf397
 v85 := Tryz.zeroValue397
 t127 := Tryz.underlying313
 a127 := Tryz.isAgg313
 z127 := Tryz.sizeOf313
 v127 := Tryz.zeroValue313
 t143 := Tryz.underlying417
 a143 := Tryz.isAgg417
 z143 := Tryz.sizeOf417
 v143 := Tryz.zeroValue417
 t145 := Tryz.underlying419
 a145 := Tryz.isAgg419
 z145 := Tryz.sizeOf419
 v145 := Tryz.zeroValue419
 t167 := Tryz.underlying396
 a167 := Tryz.isAgg396
 z167 := Tryz.sizeOf396
 v167 := Tryz.zeroValue396
 t168 := Tryz.underlying399
 a168 := Tryz.isAgg399
 z168 := Tryz.sizeOf399
 v168 := Tryz.zeroValue399
 t171 := Tryz.underlying348
 a171 := Tryz.isAgg348
 z171 := Tryz.sizeOf348
 v171 := Tryz.zeroValue348
 t173 := Tryz.underlying351
 a173 := Tryz.isAgg351
 z173 := Tryz.sizeOf351
 v173 := Tryz.zeroValue351
 t175 := Tryz.underlying408
 a175 := Tryz.isAgg408
 z175 := Tryz.sizeOf408
 v175 := Tryz.zeroValue408
 t210 := Tryz.underlying411
 a210 := Tryz.isAgg411
 z210 := Tryz.sizeOf411
 v210 := Tryz.zeroValue411
 t212 := Tryz.underlying371
 a212 := Tryz.isAgg371
 z212 := Tryz.sizeOf371
 v212 := Tryz.zeroValue371
 t213 := Tryz.underlying372
 a213 := Tryz.isAgg372
 z213 := Tryz.sizeOf372
 t232 := Tryz.underlying56
 a232 := Tryz.isAgg56
 z232 := Tryz.sizeOf56
 v232 := Tryz.zeroValue56
 t233 := Tryz.underlying234
 a233 := Tryz.isAgg234
 z233 := Tryz.sizeOf234
 v233 := Tryz.zeroValue234
 g15 := by kernel_rfl
 g16 := by kernel_rfl
 g17 := by kernel_rfl
 g18 := by kernel_rfl
 g19 := by kernel_rfl
 t80 := Tryz.underlying249
 a80 := Tryz.isAgg249
 z80 := Tryz.sizeOf249
 v80 := Tryz.zeroValue249
 i0 := by kernel_rfl
 i2 := by kernel_rfl
 i3 := by kernel_rfl
 i4 := by kernel_rfl
 i5 := by kernel_rfl
 i9 := by kernel_rfl
 i20 := by kernel_rfl
 i21 := by kernel_rfl
 i37 := by kernel_rfl
 i46 := by kernel_rfl
 i51 := by kernel_rfl
 i53 := by kernel_rfl
 i75 := by kernel_rfl
 i76 := by kernel_rfl
 i80 := by kernel_rfl
 i85 := by kernel_rfl
 i127 := by kernel_rfl
 i143 := by kernel_rfl
 i145 := by kernel_rfl
 i167 := by kernel_rfl
 i168 := by kernel_rfl
 i171 := by kernel_rfl
 i173 := by kernel_rfl
 i175 := by kernel_rfl
 i210 := by kernel_rfl
 i212 := by kernel_rfl
 i232 := by kernel_rfl
 i233 := by kernel_rfl
 m15 := by kernel_rfl
 m16 := by kernel_rfl
 m17 := by kernel_rfl
 m18 := by kernel_rfl
 m19 := by kernel_rfl
 c0 := by kernel_rfl
 c2 := by kernel_rfl
 c3 := by kernel_rfl
 c4 := by kernel_rfl
 c5 := by kernel_rfl
 c9 := by kernel_rfl
 c20 := by kernel_rfl
 c21 := by kernel_rfl
 c37 := by kernel_rfl
 c46 := by kernel_rfl
 c51 := by kernel_rfl
 c53 := by kernel_rfl
 c75 := by kernel_rfl
 c76 := by kernel_rfl
 c80 := by kernel_rfl
 c85 := by kernel_rfl
 c127 := by kernel_rfl
 c143 := by kernel_rfl
 c145 := by kernel_rfl
 c167 := by kernel_rfl
 c168 := by kernel_rfl
 c171 := by kernel_rfl
 c173 := by kernel_rfl
 c175 := by kernel_rfl
 c210 := by kernel_rfl
 c212 := by kernel_rfl
 c213 := by kernel_rfl
 c232 := by kernel_rfl
 c233 := by kernel_rfl }
open Go.RowKit in
theorem Tryz.strconv_Atoi_ok (s : ByteArray) (hmax : s.size ≤ 9223372036854775806) (v : Int) (h : Lib.atoiAll s.data.toList = .ok v) (w : World) :
  Calls Tryz.prog 239 #[.string s] w fun e w' => e = .returned (.tuple #[.int .i64 v,.nilIface]) ∧ (w' = w ∨ ∃ t,w' = Lib.bytesWorld w 5 t) := Any.strconv_Atoi_ok Tryz.laysC172 s hmax v h w
open Go.RowKit in
theorem Tryz.strconv_Atoi_range_var (s : ByteArray) (hlim : s.size ≤ 281474976710656) (h : Lib.atoiAll s.data.toList = .range) (tp : TypeId) (p : Value) (w : World) (hvar : w.var? Tryz.prog "strconv.ErrRange" = some #[.iface tp p]) :
  Calls Tryz.prog 239 #[.string s] w fun e w' => ∃ N,e = .returned (.tuple #[.int .i64 (Lib.atoiSat s.data.toList),.iface 399 (.pointer (some ⟨N,0,none⟩))]) ∧ w.heap.size ≤ N ∧ w'.heap[N]? = some (.cells #[.string ⟨#[65,116,111,105]⟩,.string s,.iface tp p] 411 (0,0)) ∧ Below w.heap.size w w' := Any.strconv_Atoi_range_var Tryz.laysC172 s hlim h tp p w hvar
def Tryz.lays189_ren : Go.Shelf.Ren := ⟨fun | 189 => 234 | 125 => 259 | 257 => 258 | 128 => 281 | 129 => 244 | 294 => 272 | 295 => 273 | 296 => 274 | 297 => 275 | 298 => 276 | 299 => 277 | 216 => 278 | 300 => 279 | 301 => 280 | 328 => 287 | 329 => 288 | 330 => 289 | 331 => 290 | 332 => 291 | 215 => 292 | 343 => 296 | n => n,fun | 28 => 270 | 3 => 3 | 46 => 238 | 0 => 0 | 51 => 164 | 53 => 45 | 4 => 4 | 183 => 391 | 182 => 390 | 131 => 143 | 5 => 5 | 9 => 9 | 218 => 402 | 222 => 406 | 228 => 413 | 229 => 414 | n => n,fun | n => n⟩
theorem Tryz.lays189 : Go.Proofs.Lays.n189 Tryz.prog Tryz.lays189_ren := {
 mixed := by kernel_rfl
 f125 := Tryz.func259.trans (congrArg some (by kernel_rfl))
 f128 := Tryz.func281.trans (congrArg some (by kernel_rfl))
 f129 := Tryz.func244.trans (congrArg some (by kernel_rfl))
 f189 := Tryz.func234.trans (congrArg some (by kernel_rfl))
 f215 := Tryz.func292.trans (congrArg some (by kernel_rfl))
 f216 := Tryz.func278.trans (congrArg some (by kernel_rfl))
 f257 := Tryz.func258.trans (congrArg some (by kernel_rfl))
 f294 := Tryz.func272.trans (congrArg some (by kernel_rfl))
 f295 := Tryz.func273.trans (congrArg some (by kernel_rfl))
 f296 := Tryz.func274.trans (congrArg some (by kernel_rfl))
 f297 := Tryz.func275.trans (congrArg some (by kernel_rfl))
 f298 := Tryz.func276.trans (congrArg some (by kernel_rfl))
 f299 := Tryz.func277.trans (congrArg some (by kernel_rfl))
 f300 := Tryz.func279.trans (congrArg some (by kernel_rfl))
 f301 := Tryz.func280.trans (congrArg some (by kernel_rfl))
 f328 := Tryz.func287.trans (congrArg some (by kernel_rfl))
 f329 := Tryz.func288.trans (congrArg some (by kernel_rfl))
 f330 := Tryz.func289.trans (congrArg some (by kernel_rfl))
 f331 := Tryz.func290.trans (congrArg some (by kernel_rfl))
 f332 := Tryz.func291.trans (congrArg some (by kernel_rfl))
 f343 := Tryz.func296.trans (congrArg some (by kernel_rfl))
 t0 := Tryz.underlying0
 a0 := Tryz.isAgg0
 z0 := Tryz.sizeOf0
 v0 := Tryz.zeroValue0
 t3 := Tryz.underlying3
 a3 := Tryz.isAgg3
 z3 := Tryz.sizeOf3
 v3 := Tryz.zeroValue3
 t4 := Tryz.underlying4
 a4 := Tryz.isAgg4
 z4 := Tryz.sizeOf4
 v4 := Tryz.zeroValue4
 t5 := Tryz.underlying5
 a5 := Tryz.isAgg5
 z5 := Tryz.sizeOf5
 v5 := Tryz.zeroValue5
 t9 := Tryz.underlying9
 a9 := Tryz.isAgg9
 z9 := Tryz.sizeOf9
 v9 := Tryz.zeroValue9
 t28 := Tryz.underlying270
 a28 := Tryz.isAgg270
 z28 := Tryz.sizeOf270
 v28 := Tryz.zeroValue270
 t46 := Tryz.underlying238
 a46 := Tryz.isAgg238
 z46 := Tryz.sizeOf238
 v46 := Tryz.zeroValue238
 t51 := Tryz.underlying164
 a51 := Tryz.isAgg164
 z51 := Tryz.sizeOf164
 v51 := Tryz.zeroValue164
 t53 := Tryz.underlying45
 a53 := Tryz.isAgg45
 z53 := Tryz.sizeOf45
 v53 := Tryz.zeroValue45
 t131 := Tryz.underlying143
 a131 := Tryz.isAgg143
 z131 := Tryz.sizeOf143
 v131 := Tryz.zeroValue143
 t182 := Tryz.underlying390
 a182 := Tryz.isAgg390
 z182 := Tryz.sizeOf390
 v182 := Tryz.zeroValue390
 t183 := Tryz.underlying391
 a183 := Tryz.isAgg391
 z183 := Tryz.sizeOf391
 v183 := Tryz.zeroValue391
 t218 := Tryz.underlying402
 a218 := Tryz.isAgg402
 z218 := Tryz.sizeOf402
 v218 := Tryz.zeroValue402
 t222 := Tryz.underlying406
 a222 := Tryz.isAgg406
 z222 := Tryz.sizeOf406
 v222 := Tryz.zeroValue406
 t228 := Tryz.underlying413
 a228 := Tryz.isAgg413
 z228 := Tryz.sizeOf413
 v228 := Tryz.zeroValue413
 t229 := Tryz.underlying414
 a229 := Tryz.isAgg414
 z229 := Tryz.sizeOf414
 v229 := Tryz.zeroValue414 }
open Go.Sort Go.RowKit in
theorem Tryz.slices_Sort_int (blk off cap : Nat) (zs : List Int) (w : World) (hH : Holds (Value.int .i64) w blk off zs.toArray) (hblk : blk < w.heap.size) (hsz : zs.length < 4611686018427387904) :
  Calls Tryz.prog 234 #[.slice (some ⟨blk,off,none⟩) zs.length cap] w fun e w' =>
   e = .returned (.tuple #[]) ∧ ∃ n os,w' = grow (putRow (Value.int .i64) (Sort.ahead w n) blk off (zs.mergeSort fun x y => decide (x ≤ y)).toArray) os := Any.slices_Sort_int Tryz.lays189 blk off cap zs w hH hblk hsz
open Go.RowKit Go.Sort in
theorem Tryz.slices_Sort_int_none (p : Option Addr) (cap : Nat) (w : World) :
  Calls Tryz.prog 234 #[.slice p 0 cap] w fun e w' => e = .returned (.tuple #[]) ∧ w' = w := Any.slices_Sort_int_none Tryz.lays189 p cap w
end Go.Proofs
namespace Cr
open Go Go.Proofs
set_option maxRecDepth 100000
set_option maxHeartbeats 64000000
attribute [local irreducible] Calls

def glob (g : Nat) (cs : List Value) : Res := fun h => ∃ t fz,h = Zcn g (.cells cs.toArray t fz)
theorem Zt7 {P : Program} {w : World} {g : Nat} {cs : List Value} {n : String} (hg : P.globalNamed n = some g) (H : Rd w (glob g cs)) : w.var? P n = some cs.toArray := by
 obtain ⟨h,⟨t,fz,rfl⟩,ha⟩ := H
 have hb := ha g _ (Zar _ _)
 unfold World.var?
 rw [hg]
 simp only [Option.bind_some]
 rw [hb]
theorem glob_of_var {P : Program} {w : World} {g : Nat} {cs : Array Value} {n : String} (hg : P.globalNamed n = some g) (H : w.var? P n = some cs) : Rd w (glob g cs.toList) := by
 unfold World.var? at H
 rw [hg] at H
 simp only [Option.bind_some] at H
 cases hb : w.heap[g]? with
 | none => rw [hb] at H; cases H
 | some o =>
  cases o with
  | cells c t fz =>
   rw [hb] at H
   obtain rfl : c = cs := by simpa using H
   refine ⟨Zcn g (.cells c t fz),⟨t,fz,by simp⟩,fun b o e => ?_⟩
   obtain ⟨rfl,rfl⟩ := Zh6 e
   exact hb
  | _ => rw [hb] at H; cases H
def Lg (W : World) (F : Nat → Prop) : Prop := Ro W F (glob 3 (Lib.pow10Tab.map fun z => Value.int .u64 z)) ∧ ∃ tp p,Ro W F (glob 7 [.iface tp p])
theorem Lg.mono {W W' : World} {F F' : Nat → Prop} (H : Lg W F) (hm : ∀ r,Ro W F r → Ro W' F' r) : Lg W' F' := by
 obtain ⟨h1,tp,p,h2⟩ := H
 exact ⟨hm _ h1,tp,p,hm _ h2⟩
theorem Z4v (n : Int) (W : World) (F : Nat → Prop) (hG : Lg W F) (h0 : -9223372036854775808 ≤ n) (h1 : n ≤ 9223372036854775807) :
  Calls Tryz.prog 65 #[.int .i64 n] W (Ret fun v w => v = .string (str (Lib.itoa n)) ∧ St W noF [] w) := by
 refine (Tryz.strconv_Itoa n h0 h1 W (Zt7 (by kernel_rfl) hG.1.start)).mono ?_
 rintro e w ⟨rfl,k,os,rfl⟩
 refine ⟨_,rfl,rfl,(St.start W).below ⟨rfl,rfl,rfl,by simp [Sort.grow],fun j hj => ?_⟩⟩
 show (W.heap ++ os)[j]? = _
 rw [Array.getElem?_append_left hj]
theorem Qbo (s : List UInt8) (W : World) (F : Nat → Prop) (hG : Lg W F) (hl : s.length ≤ 1099511627776) (hs : (∃ n,Lib.atoiAll s = .ok n) ∨ Lib.atoiAll s = .range) :
  Calls Tryz.prog 239 #[.string (str s)] W (Ret fun v w => (∃ n er,v = .tuple #[.int .i64 n,er] ∧ ((Lib.atoiAll s = .ok n ∧ er = .nilIface) ∨ (Lib.atoiAll s = .range ∧ ∃ t p,er = .iface t p))) ∧ St W noF [] w) := by
 have hz : (str s).size = s.length := Zc0 s
 have ht : (str s).data.toList = s := by simp [str]
 rcases hs with ⟨n,h⟩ | h
 ·refine (Tryz.strconv_Atoi_ok (str s) (by omega) n (by rw [ht]; exact h) W).mono ?_
  rintro e w ⟨rfl,hw⟩
  refine ⟨_,rfl,⟨n,_,rfl,.inl ⟨h,rfl⟩⟩,?_⟩
  rcases hw with rfl | ⟨t,rfl⟩
  ·exact St.start _
  ·exact (St.start W).below (Lib.bytesWorld_below W _ t)
 ·obtain ⟨tp,p,he⟩ := hG.2
  have hv := Zt7 (P := Tryz.prog) (n := "strconv.ErrRange") (by kernel_rfl) he.start
  refine (Tryz.strconv_Atoi_range_var (str s) (by omega) (by rw [ht]; exact h) tp p W hv).mono ?_
  rintro e w ⟨N,rfl,_,_,hb⟩
  exact ⟨_,rfl,⟨_,_,rfl,.inr ⟨h,_,_,rfl⟩⟩,(St.start W).below hb⟩
abbrev rdC (a : Option Addr) (n c : Nat) (i : Nat) (e : Int) : List Value := [.slice a n c,.int .i64 (i : Nat),.int .i64 e]
abbrev Rdr (p : Nat) (a : Option Addr) (n c : Nat) (i : Nat) (e : Int) : Res := pts p (.cells (rdC a n c i e).toArray 303 (0,0))

theorem Zje (p : Nat) (a : Option Addr) (n c : Nat) (i : Nat) (e : Int) (W : World) (hc : Rd W (Rdr p a n c i e)) :
  Calls Tryz.prog 209 #[.pointer (some ⟨p,0,none⟩)] W (Ret fun v w => v = .bool (decide (i < n)) ∧ St W noF [] w) := by
 have hS := St.start W
 replace hc := hc.ro
 refine Zab Tryz.func209 rfl Tryz.ntmps209 rfl ?_
 repeat (first|refine Yeg ?_|refine Yag ?_|refine Yeh ?_|refine Yab ?_)
 refine Zan (.s 0 (.s 1 (.s 2 (.s 3 (.s 4 (.s 5 (.s 6 (.s 7 (.s 8 (.s 9 (.s 10 .nil))))))))))) mixed (by kernel_rfl) rfl ?_
 have hS := hS.drew
 repeat (first|refine Yah ?_|refine Yei ?_|(refine Zae ?_;first|refine Yaw ?_|refine Ya0 ?_|refine Ybj ?_|refine Ybo ?_|refine Ybg ?_|refine Ydu ?_|refine Zak rfl rfl (fun _ => Zq7 rfl rfl rfl) rfl rfl ?_|refine Yc8 ?_))
 refine ⟨?_,hS⟩
 congr 2
 exact propext (by omega)
theorem Zkm (p : Nat) (a : Option Addr) (n c : Nat) (i : Nat) (e k : Int) (W : World) (F : Nat → Prop) (hS : St W F [Rdr p a n c i e] W) :
  Calls Tryz.prog 210 #[.pointer (some ⟨p,0,none⟩),.int .i64 k] W (Ret fun v w => v = .tuple #[] ∧ St W F [Rdr p a n c i (if e = 0 then k else e)] w) := by
 by_cases h : e = 0
 ·refine Zab Tryz.func210 rfl Tryz.ntmps210 rfl ?_
  repeat (first|refine Yeg ?_|(refine X_id ?_;first|refine Yaf ?_|refine Yav ?_|refine Yan ?_|refine Ybh ?_|refine Yap ?_|refine Yao (fun _ hS _ => ?_))|refine Yer ?_|refine Yab ?_|refine Ybt ?_)
  rw [if_pos h]
  exact ⟨rfl,hS⟩
 ·refine Zab Tryz.func210 rfl Tryz.ntmps210 rfl ?_
  repeat (first|refine Yeg ?_|(refine X_id ?_;first|refine Yaf ?_|refine Yav ?_|refine Yan ?_|refine Ybi ?_|refine Yap ?_)|refine Yes ?_|refine Yab ?_|refine Ybt ?_)
  rw [if_neg h]
  exact ⟨rfl,hS⟩
theorem Qbd {s : List UInt8} {i j : Nat} {k : UInt8} (h : i < s.length) (hj : j = i) : decide (((s.getD j 0).toNat : Int) = (k.toNat : Int)) = decide (s[i]? = some k) := by
 subst hj
 rw [List.getD_eq_getElem?_getD,List.getElem?_eq_getElem h,Option.getD_some]
 congr 1
 simp only [Option.some.injEq]
 exact propext ⟨fun h => UInt8.toNat_inj.1 (by omega),fun h => by rw [h]⟩
theorem is_ (p : Nat) (a : Option Addr) (s : List UInt8) (c : Nat) (i : Nat) (e : Int) (k : UInt8) (W : World) (hc : Rd W (Rdr p a s.length c i e)) (hb : Rd W (bytes a s)) :
  Calls Tryz.prog 211 #[.pointer (some ⟨p,0,none⟩),.int .u8 (k.toNat : Int)] W (Ret fun v w => v = .bool (decide (s[i]? = some k)) ∧ St W noF [] w) := by
 have hS := St.start W
 have hm := Zje p a s.length c i e
 by_cases h : i < s.length
 ·simp only [decide_eq_true h] at hm
  obtain ⟨ab,ao,rfl⟩ := hb.base (by intro e; have := Zag s; rw [e] at this; simp at this; omega)
  replace hc := hc.ro
  replace hb := hb.ro
  refine Zab Tryz.func211 rfl Tryz.ntmps211 rfl ?_
  repeat (first|refine Yeg ?_|refine Yag ?_|refine Yeh ?_|refine Yab ?_)
  refine Zan (.s 0 (.h 1 (.s 2 (.s 3 (.s 4 (.s 5 (.s 6 (.s 7 (.s 8 (.s 9 (.s 10 (.s 11 (.s 12 (.s 13 (.s 14 (.s 15 (.s 16 .nil))))))))))))))) .no)) mixed (by kernel_rfl) rfl ?_
  have hS := hS.drew
  repeat (first|(refine X_id ?_;first|(refine Zad 209 rfl rfl rfl rfl rfl hS (hm _ (hc.rd hS)) ?_;rintro _ _ rfl hS))|refine Yah ?_|refine Yei ?_|(refine Zae ?_;first|refine Yaw ?_|refine Ya0 ?_|refine Ybj ?_|refine Yct ?_|refine Yas ?_|refine Yca ?_|refine Yc3 ?_|refine Ycx ?_|refine Zcg rfl rfl rfl rfl (fun _ => Zrb rfl rfl rfl) rfl rfl ?_|refine Zcg rfl rfl rfl rfl (fun _ => Ze0 rfl rfl rfl (by omega) (by omega) (by first|assumption|exact ⟨_,_,rfl⟩)) rfl rfl ?_|refine Yd9 ?_|refine Zdj (fun w' => w'.cell? _ = some _) rfl rfl rfl rfl ((hb.rd hS).cellB' (by omega)) (fun _ hc => Zav rfl rfl hc) rfl rfl ?_)|(refine Zac ?_;first|refine Yax ?_))
  refine ⟨?_,hS⟩
  rw [Qbd h (by omega)]
 ·simp only [decide_eq_false h] at hm
  replace hc := hc.ro
  refine Zab Tryz.func211 rfl Tryz.ntmps211 rfl ?_
  repeat (first|refine Yeg ?_|refine Yag ?_|refine Yeh ?_|refine Yab ?_)
  refine Zan (.s 0 (.h 1 (.s 2 (.s 3 (.s 4 (.s 5 (.s 6 (.s 7 (.s 8 (.s 9 (.s 10 (.s 11 (.s 12 (.s 13 (.s 14 (.s 15 (.s 16 .nil))))))))))))))) .no)) mixed (by kernel_rfl) rfl ?_
  have hS := hS.drew
  repeat (first|(refine X_id ?_;first|(refine Zad 209 rfl rfl rfl rfl rfl hS (hm _ (hc.rd hS)) ?_;rintro _ _ rfl hS))|refine Yah ?_|refine Yei ?_|(refine Zae ?_;first|refine Yaw ?_|refine Ya0 ?_|refine Ybj ?_|refine Ycc ?_|refine Yas ?_|refine Ycr ?_)|(refine Zac ?_;first|refine Yax ?_))
  refine ⟨?_,hS⟩
  rw [List.getElem?_eq_none (by omega)]
  simp
def Zf4 (s : List UInt8) (i : Nat) (e : Int) (k : UInt8) : Nat × Int :=
 if e ≠ 0 then (i,e) else if ¬ i < s.length then (i,4) else if s[i]? = some k then (i + 1,0) else (i,3)
theorem Z0g (p : Nat) (a : Option Addr) (s : List UInt8) (c : Nat) (i : Nat) (e : Int) (k : UInt8) (W : World) (F : Nat → Prop) (hS : St W F [Rdr p a s.length c i e] W) (hb : Ro W F (bytes a s)) (hl : s.length ≤ 1099511627776) :
  Calls Tryz.prog 213 #[.pointer (some ⟨p,0,none⟩),.int .u8 (k.toNat : Int)] W (Ret fun v w => v = .tuple #[] ∧ St W F [Rdr p a s.length c (Zf4 s i e k).1 (Zf4 s i e k).2] w) := by
 by_cases he : e = 0
 ·subst he
  by_cases h : i < s.length
  ·have hm := Zje p a s.length c i 0
   simp only [decide_eq_true h] at hm
   have hq := is_ p a s c i 0 k
   by_cases hk : s[i]? = some k
   ·simp only [decide_eq_true hk] at hq
    rw [show Zf4 s i 0 k = (i + 1,0) by unfold Zf4; rw [if_neg (by simp),if_neg (by simpa using h),if_pos hk]]
    refine Zab Tryz.func213 rfl Tryz.ntmps213 rfl ?_
    repeat (first|refine Yeg ?_|(refine X_id ?_;first|(refine Zad 209 rfl rfl rfl rfl rfl hS (hm _ (hS.rd (List.mem_cons_self ..))) ?_;rintro _ _ rfl hS)|(refine Zad 211 rfl rfl rfl rfl rfl hS (hq _ (hS.rd (List.mem_cons_self ..)) (hb.rd hS)) ?_;rintro _ _ rfl hS)|refine Yaf ?_|refine Yag ?_|refine Yav ?_|refine Yan ?_|refine Ybc ?_|refine Ybb ?_|refine Yay ?_|refine Yap ?_|refine Yao (fun _ hS _ => ?_))|refine Ye3 ?_|refine Yab ?_|refine Yat ?_|refine Ybt ?_)
    exact ⟨rfl,hS⟩
   ·simp only [decide_eq_false hk] at hq
    rw [show Zf4 s i 0 k = (i,3) by unfold Zf4; rw [if_neg (by simp),if_neg (by simpa using h),if_neg hk]]
    refine Zab Tryz.func213 rfl Tryz.ntmps213 rfl ?_
    repeat (first|refine Yeg ?_|(refine X_id ?_;first|(refine Zad 209 rfl rfl rfl rfl rfl hS (hm _ (hS.rd (List.mem_cons_self ..))) ?_;rintro _ _ rfl hS)|(refine Zad 211 rfl rfl rfl rfl rfl hS (hq _ (hS.rd (List.mem_cons_self ..)) (hb.rd hS)) ?_;rintro _ _ rfl hS)|refine Yaf ?_|refine Yag ?_|refine Yav ?_|refine Yan ?_|refine Ybc ?_|refine Ybq ?_|refine Ybb ?_|refine Yap ?_)|refine Yfo ?_|refine Yab ?_)
    obtain ⟨_,hc,hr,hw,hbk⟩ := hS.call [true]
    refine Zaa _ rfl rfl rfl rfl rfl (Zkm p a s.length c i 0 3 _ _ hc) ?_
    rintro _ w ⟨rfl,hS⟩
    replace hS := hbk hS
    clear hc hr hw hbk
    repeat (first|refine Yac ?_|refine Yat ?_|refine Ybt ?_)
    exact ⟨rfl,hS⟩
  ·have hm := Zje p a s.length c i 0
   simp only [decide_eq_false h] at hm
   rw [show Zf4 s i 0 k = (i,4) by unfold Zf4; rw [if_neg (by simp),if_pos h]]
   refine Zab Tryz.func213 rfl Tryz.ntmps213 rfl ?_
   repeat (first|refine Yeg ?_|(refine X_id ?_;first|(refine Zad 209 rfl rfl rfl rfl rfl hS (hm _ (hS.rd (List.mem_cons_self ..))) ?_;rintro _ _ rfl hS)|refine Yaf ?_|refine Yag ?_|refine Yav ?_|refine Yan ?_|refine Ybq ?_|refine Ybb ?_|refine Yap ?_)|refine Yfo ?_|refine Yab ?_)
   obtain ⟨_,hc,hr,hw,hbk⟩ := hS.call [true]
   refine Zaa _ rfl rfl rfl rfl rfl (Zkm p a s.length c i 0 4 _ _ hc) ?_
   rintro _ w ⟨rfl,hS⟩
   replace hS := hbk hS
   clear hc hr hw hbk
   repeat (first|refine Yac ?_|refine Yat ?_|refine Ybt ?_)
   exact ⟨rfl,hS⟩
 ·rw [show Zf4 s i e k = (i,e) by unfold Zf4; rw [if_pos he]]
  refine Zab Tryz.func213 rfl Tryz.ntmps213 rfl ?_
  repeat (first|refine Yeg ?_|(refine X_id ?_;first|refine Yaf ?_|refine Yag ?_|refine Yav ?_|refine Yan ?_|refine Ybl ?_|refine Yap ?_)|refine Yek ?_|refine Yab ?_|refine Yat ?_|refine Ybt ?_)
  exact ⟨rfl,hS⟩
theorem Z0f (p : Nat) (a : Option Addr) (n c : Nat) (i : Nat) (e : Int) (k : UInt8) (W : World) (F : Nat → Prop) (hS : St W F [Rdr p a n c i e] W) (he : e ≠ 0) :
  Calls Tryz.prog 213 #[.pointer (some ⟨p,0,none⟩),.int .u8 (k.toNat : Int)] W (Ret fun v w => v = .tuple #[] ∧ St W F [Rdr p a n c i e] w) := by
 refine Zab Tryz.func213 rfl Tryz.ntmps213 rfl ?_
 repeat (first|refine Yeg ?_|(refine X_id ?_;first|refine Yaf ?_|refine Yag ?_|refine Yav ?_|refine Yan ?_|refine Ybl ?_|refine Yap ?_)|refine Yek ?_|refine Yab ?_|refine Yat ?_|refine Ybt ?_)
 exact ⟨rfl,hS⟩
theorem Zg4 {p : UInt8 → Bool} : ∀ {l : List UInt8} {j : Nat},(∀ i c,i < j → l[i]? = some c → p c = true) → (∀ c,l[j]? = some c → p c = false) → j ≤ l.length → (l.takeWhile p).length = j
 | [],j,_,_,h => by simp at h; simp [h]
 | x :: l,0,_,h2,_ => by rw [List.takeWhile_cons,if_neg (by rw [h2 x rfl]; simp)]; rfl
 | x :: l,j + 1,h1,h2,h => by
  rw [List.takeWhile_cons,if_pos (h1 0 x (by omega) rfl),List.length_cons,Zg4 (j := j) (fun i c hi hc => h1 (i + 1) c (by omega) (by simpa using hc)) (fun c hc => h2 c (by simpa using hc)) (by simpa using h)]
theorem Zxs {s : List UInt8} {i : Nat} {below : Bool} {j : Nat} (h1 : ∀ k c,k < j → s[i + (sgn below (s.drop i)).length + k]? = some c → dig c = true) (h2 : ∀ c,s[i + (sgn below (s.drop i)).length + j]? = some c → dig c = false) (hj : i + (sgn below (s.drop i)).length + j ≤ s.length) :
  (numS below (s.drop i)).length = (sgn below (s.drop i)).length + j := by
 unfold numS
 generalize (sgn below (s.drop i)) = g at *
 rw [List.length_append,List.drop_drop,Zg4 (j := j) (fun k c hk hc => h1 k c hk (by rw [List.getElem?_drop] at hc; exact hc)) (fun c hc => h2 c (by rw [List.getElem?_drop] at hc; exact hc)) (by simp; omega)]
theorem Zs8 {s : List UInt8} {i : Nat} {below : Bool} : sgn below (s.drop i) = if below = true ∧ s[i]? = some 45 then [45] else [] := by
 unfold sgn
 rw [List.head?_drop]
theorem Z0j {s : List UInt8} {i n : Nat} {t : List UInt8} (h : (s.drop i).take n = t) : (s.drop i).take (i + n - i) = t := by
 rw [show i + n - i = n by omega]; exact h
theorem Qbj {x : UInt8} (h : dig x = true) : ¬ ((x.toNat : Int) < 48) ∧ ¬ ((57 : Int) < (x.toNat : Int)) := by
 have := dig_iff.1 h
 constructor <;> omega
theorem Qbk {x : UInt8} (h : ¬ dig x = true) : ((x.toNat : Int) < 48) ∨ (¬ ((x.toNat : Int) < 48) ∧ (57 : Int) < (x.toNat : Int)) := by
 have h2 : ¬ (48 ≤ x.toNat ∧ x.toNat ≤ 57) := fun q => h (dig_iff.2 q)
 rcases Nat.lt_or_ge x.toNat 48 with h3 | h3
 ·exact .inl (by omega)
 ·exact .inr ⟨by omega,by omega⟩
theorem St.conv {W : World} {F : Nat → Prop} {rs rs' : List Res} {w : World} (h : St W F rs w) (e : rs = rs') : St W F rs' w := e ▸ h
theorem Z46 (p : Nat) (a : Option Addr) (s : List UInt8) (c : Nat) (hsc : s.length ≤ c) (i : Nat) (e : Int) (below : Bool) (W : World) (F : Nat → Prop) (hS : St W F [Rdr p a s.length c i e] W) (hb : Ro W F (bytes a s)) (hl : s.length ≤ 1099511627776) (hi : i ≤ s.length) :
  Calls Tryz.prog 238 #[.pointer (some ⟨p,0,none⟩),.bool below] W (Ret fun v w => v = .string (str (numS below (s.drop i))) ∧ St W F [Rdr p a s.length c (i + (numS below (s.drop i)).length) e] w) := by
 have hq := is_ p a s c i e 45
 have hm := Zje p a s.length c
 obtain ⟨g,hg⟩ : ∃ g,(sgn below (s.drop i)).length = g := ⟨_,rfl⟩
 have hgi : i + g ≤ s.length := by
  rw [← hg,Zs8]
  split
  ·rename_i h
   have := (List.getElem?_eq_some_iff.1 h.2).1
   simp; omega
  ·simpa using hi
 have h3 : (below = true ∧ s[i]? = some 45 ∧ g = 1) ∨ (below = true ∧ ¬ s[i]? = some 45 ∧ g = 0) ∨ (below = false ∧ g = 0) := by
  rw [Zs8] at hg
  cases below
  ·exact .inr (.inr ⟨rfl,by rw [← hg]; simp⟩)
  ·by_cases hk : s[i]? = some 45
   ·exact .inl ⟨rfl,hk,by rw [← hg,if_pos ⟨rfl,hk⟩]; rfl⟩
   ·exact .inr (.inl ⟨rfl,hk,by rw [← hg,if_neg (fun h => hk h.2)]; rfl⟩)
 have hstop := fun j => Zxs (s := s) (i := i) (below := below) (j := j)
 rw [hg] at hstop
 have htk := Zh8 below (s.drop i)
 generalize numS below (s.drop i) = T at hstop htk ⊢
 clear hg
 refine Zab Tryz.func238 rfl Tryz.ntmps238 rfl ?_
 rcases h3 with ⟨rfl,hk,hg⟩ | ⟨rfl,hk,hg⟩ | ⟨rfl,hg⟩
 case' inl =>
  simp only [decide_eq_true hk] at hq
  repeat (first|refine Yex ?_|(refine X_id ?_;first|(refine Zad 211 rfl rfl rfl rfl rfl hS (hq _ (hS.rd (List.mem_cons_self ..)) (hb.rd hS)) ?_;rintro _ _ rfl hS)|refine Yaf ?_|refine Yag ?_|refine Yav ?_|refine Yan ?_|refine Ybe ?_|refine Yay ?_|refine Yap ?_|refine Yao (fun _ hS _ => ?_))|refine Yae ?_|refine Zhu ?_|refine Ycl ?_|refine Yad ?_|refine Yaj ?_|refine Yak ?_|refine Yab ?_)
  have hS := hS.conv (rs' := [Rdr p a s.length c (i + g) e]) (by rw [hg]; rfl)
 case' inr.inl =>
  simp only [decide_eq_false hk] at hq
  repeat (first|refine Yex ?_|(refine X_id ?_;first|(refine Zad 211 rfl rfl rfl rfl rfl hS (hq _ (hS.rd (List.mem_cons_self ..)) (hb.rd hS)) ?_;rintro _ _ rfl hS)|refine Yaf ?_|refine Yag ?_|refine Yav ?_|refine Yan ?_|refine Ybe ?_|refine Yap ?_)|refine Yae ?_|refine Zhu ?_|refine Ycl ?_|refine Yad ?_|refine Yaj ?_|refine Yal ?_|refine Yai ?_|refine Yab ?_)
  have hS := hS.conv (rs' := [Rdr p a s.length c (i + g) e]) (by rw [hg]; rfl)
 case' inr.inr =>
  repeat (first|refine Ye0 ?_|(refine X_id ?_;first|refine Yaf ?_|refine Yag ?_|refine Yav ?_|refine Yan ?_|refine Ya9 ?_|refine Yap ?_)|refine Yae ?_|refine Zhu ?_|refine Ycl ?_|refine Yad ?_|refine Yaj ?_|refine Yal ?_|refine Yai ?_|refine Yab ?_)
  have hS := hS.conv (rs' := [Rdr p a s.length c (i + g) e]) (by rw [hg]; rfl)
 all_goals
  clear hq hg
  refine Zbk (α := Unit) (fun _ => [(0,.pointer (some ⟨p,0,none⟩)),(5,.int .i64 (i : Nat))]) (fun _ w => i + T.length ≤ s.length ∧ St W F [Rdr p a s.length c (i + T.length) e] w) ?_ ?_
  ·refine Zaj (α := Nat) (fun _ => [(0,.pointer (some ⟨p,0,none⟩)),(5,.int .i64 (i : Nat))])
    (fun j w => i + g + j ≤ s.length ∧ (∀ k c,k < j → s[i + g + k]? = some c → dig c = true) ∧ St W F [Rdr p a s.length c (i + g + j) e] w) (fun j => s.length - j) 0 ⟨rfl,rfl,trivial⟩ ⟨hgi,fun k c hk => by omega,hS⟩ ?_
   clear hS
   rintro j w ⟨hj,hd,hS⟩
   by_cases hlt : i + g + j < s.length
   ·obtain ⟨ab,ao,rfl⟩ := hb.start.base (by intro e; have := Zag s; rw [e] at this; simp at this; omega)
    have hm := hm (i + g + j) e
    simp only [decide_eq_true hlt] at hm
    obtain ⟨x,hx⟩ : ∃ x,s[i + g + j]? = some x := ⟨_,List.getElem?_eq_getElem hlt⟩
    have hx2 : s.getD ((((i + g + j : Nat) : Int)).toNat * 1) 0 = x := by
     rw [List.getD_eq_getElem?_getD,show ((((i + g + j : Nat) : Int)).toNat * 1) = i + g + j by omega,hx]; rfl
    by_cases hdx : dig x = true
    ·obtain ⟨d1,d2⟩ := Qbj hdx
     rw [← hx2] at d1 d2
     repeat (first|refine Yeg ?_|(refine X_id ?_;first|(refine Zad 209 rfl rfl rfl rfl rfl hS (hm _ (hS.rd (List.mem_cons_self ..))) ?_;rintro _ _ rfl hS)|refine Yaf ?_|refine Yav ?_|refine Yan ?_)|refine Yek ?_|refine Yab ?_)
     refine Zan (.s 0 (.s 1 (.s 2 (.s 3 (.s 4 (.s 5 (.s 6 (.s 7 (.s 8 (.s 9 (.s 10 (.s 11 (.s 12 .nil))))))))))))) mixed (by kernel_rfl) rfl ?_
     have hS := hS.drew
     repeat (first|refine Yex ?_|(refine X_id ?_;first|refine Yaf ?_|refine Yag ?_|refine Yav ?_|refine Yan ?_|refine Ya9 ?_|refine Yaz ?_|refine Ybs ?_|refine Yay ?_|refine Yap ?_|refine Yao (fun _ hS _ => ?_))|refine Ye9 ?_|refine Yeo ?_|(refine Zae ?_;first|refine Yaw ?_|refine Ya0 ?_|refine Ybj ?_|refine Ybo ?_|refine Ybg ?_|refine Yb9 ?_|refine Ybm ?_|refine Ydp ?_))
     refine Zaf (j + 1) ⟨rfl,rfl,trivial⟩ ⟨by omega,fun k c hk hc => ?_,hS⟩ (by omega)
     rcases Nat.lt_or_ge k j with h | h
     ·exact hd k c h hc
     ·obtain rfl : k = j := by omega
      rw [hx] at hc
      rw [← Option.some.inj hc]; exact hdx
    ·have hT := hstop j hd (fun c hc => by
      rw [hx] at hc
      rw [← Option.some.inj hc]; simpa using hdx) hj
     rcases Qbk hdx with d1 | ⟨d1,d2⟩
     ·rw [← hx2] at d1
      repeat (first|refine Yeg ?_|(refine X_id ?_;first|(refine Zad 209 rfl rfl rfl rfl rfl hS (hm _ (hS.rd (List.mem_cons_self ..))) ?_;rintro _ _ rfl hS)|refine Yaf ?_|refine Yav ?_|refine Yan ?_)|refine Yek ?_|refine Yab ?_)
      refine Zan (.s 0 (.s 1 (.s 2 (.s 3 (.s 4 (.s 5 (.s 6 (.s 7 (.s 8 (.s 9 (.s 10 (.s 11 (.s 12 .nil))))))))))))) mixed (by kernel_rfl) rfl ?_
      have hS := hS.drew
      repeat (first|refine Ye0 ?_|refine Yaf ?_|refine Yag ?_|refine Ybe ?_|refine Ya1 ?_|refine Yae ?_|refine Yad ?_|refine Yaj ?_|refine Ya4 ?_|refine Yak ?_|refine Yfs ?_|(refine Zae ?_;first|refine Yaw ?_|refine Ya0 ?_|refine Ybj ?_|refine Ybo ?_|refine Ybg ?_|refine Yb9 ?_|refine Ybm ?_|refine Ydp ?_))
      exact Zbj () ⟨rfl,rfl,trivial⟩ ⟨by omega,hS.conv (by rw [hT,Nat.add_assoc])⟩
     ·rw [← hx2] at d1 d2
      repeat (first|refine Yeg ?_|(refine X_id ?_;first|(refine Zad 209 rfl rfl rfl rfl rfl hS (hm _ (hS.rd (List.mem_cons_self ..))) ?_;rintro _ _ rfl hS)|refine Yaf ?_|refine Yav ?_|refine Yan ?_)|refine Yek ?_|refine Yab ?_)
      refine Zan (.s 0 (.s 1 (.s 2 (.s 3 (.s 4 (.s 5 (.s 6 (.s 7 (.s 8 (.s 9 (.s 10 (.s 11 (.s 12 .nil))))))))))))) mixed (by kernel_rfl) rfl ?_
      have hS := hS.drew
      repeat (first|refine Yex ?_|(refine X_id ?_;first|refine Yaf ?_|refine Yag ?_|refine Ya9 ?_|refine Yaz ?_|refine Ybz ?_)|refine Yae ?_|refine Yad ?_|refine Yaj ?_|refine Ya4 ?_|refine Yak ?_|refine Yfs ?_|(refine Zae ?_;first|refine Yaw ?_|refine Ya0 ?_|refine Ybj ?_|refine Ybo ?_|refine Ybg ?_|refine Yb9 ?_|refine Ybm ?_|refine Ydp ?_))
      exact Zbj () ⟨rfl,rfl,trivial⟩ ⟨by omega,hS.conv (by rw [hT,Nat.add_assoc])⟩
   ·have hm := hm (i + g + j) e
    simp only [decide_eq_false hlt] at hm
    have hT := hstop j hd (fun c hc => by rw [List.getElem?_eq_none (by omega)] at hc; cases hc) hj
    repeat (first|refine Yeg ?_|(refine X_id ?_;first|(refine Zad 209 rfl rfl rfl rfl rfl hS (hm _ (hS.rd (List.mem_cons_self ..))) ?_;rintro _ _ rfl hS)|refine Yaf ?_|refine Yav ?_|refine Yan ?_)|refine Yet ?_|refine Yem ?_)
    exact Zbj () ⟨rfl,rfl,trivial⟩ ⟨by omega,hS.conv (by rw [hT,Nat.add_assoc])⟩
  ·clear hS
   rintro _ w ⟨hT,hS⟩
   repeat (first|refine Yae ?_)
   have hsb := hb.subBytes (l := i) (h := i + T.length) (c := c) (by omega) (by omega)
   rw [Z0j htk] at hsb
   refine Zan (.s 0 (.s 1 (.s 2 (.s 3 (.s 4 (.s 5 (.s 6 (.s 7 (.s 8 (.s 9 (.s 10 (.s 11 (.s 12 (.s 13 .nil)))))))))))))) mixed (by kernel_rfl) rfl ?_
   have hS := hS.drew
   repeat (first|(refine Zae ?_;first|refine Ya0 ?_|refine Ybo ?_|refine Ybg ?_|refine Ybm ?_))
   refine Zak rfl rfl (fun _ => Zas (l := i) (h := i + T.length) rfl rfl rfl rfl (.inr ⟨_,_,rfl,by omega,by omega,by omega⟩) (.inr ⟨_,_,rfl,by omega,by omega,by omega⟩)) rfl rfl ?_
   refine Za6 (fun w' => Rd w' (bytes (sub a i 1 c) T)) rfl rfl (hsb.rd hS) (fun _ h => Zct rfl rfl h (by omega)) rfl rfl ?_
   repeat (first|refine Yah ?_|refine Yab ?_|refine Yb7 ?_|refine Yam ?_|(refine Zae ?_;first|refine Yfg ?_))
   exact ⟨rfl,hS⟩
def Z9p (p : Nat) (a : Option Addr) (s : List UInt8) (c : Nat) (W : World) (F : Nat → Prop) (r : Option (Int × List UInt8)) (v : Value) (w : World) : Prop :=
 match r with
 | some (n,t) => v = .int .i64 n ∧ ∃ i,i ≤ s.length ∧ s.drop i = t ∧ St W F [Rdr p a s.length c i 0] w
 | none => v = .int .i64 0 ∧ ∃ i e,i ≤ s.length ∧ e ≠ 0 ∧ St W F [Rdr p a s.length c i e] w
instance : Und Tryz.prog 246 (.interface #[("Error", 249)]) := ⟨Tryz.underlying246⟩
theorem Lg.at_ {W : World} {F : Nat → Prop} {rs : List Res} {w : World} (H : Lg W F) (hS : St W F rs w) : Lg w noF := by
 obtain ⟨h1,tp,p,h2⟩ := H
 exact ⟨(h1.rd hS).ro,tp,p,(h2.rd hS).ro⟩
theorem Qa1 (d : List UInt8) : ∀ a,(∀ c ∈ d,dig c = true) → (∃ u,Lib.parseUint10 a d = .ok u) ∨ Lib.parseUint10 a d = .range := by
 induction d with
 | nil => intro a _; exact .inl ⟨a,by rw [Lib.parseUint10]⟩
 | cons c d ih =>
  intro a hd
  rw [Lib.parseUint10,if_pos (dig_iff.1 (hd c (List.mem_cons_self ..)))]
  split
  ·exact .inr rfl
  ·split
   ·exact .inr rfl
   ·exact ih _ fun x hx => hd x (List.mem_cons_of_mem _ hx)
theorem Z2p {d : List UInt8} (h0 : d ≠ []) (hd : ∀ c ∈ d,dig c = true) : (∃ u,Lib.parseMag d = .ok u) ∨ Lib.parseMag d = .range := by
 unfold Lib.parseMag
 rw [if_neg h0]
 exact Qa1 d 0 hd
theorem Zwj {below : Bool} {l : List UInt8} (h : ¬ badN (numS below l)) : (∃ v,Lib.atoiAll (numS below l) = .ok v) ∨ Lib.atoiAll (numS below l) = .range := by
 have key : ∀ (neg : Prop) [Decidable neg] (u : Nat),(∃ v,(if ¬ neg ∧ 9223372036854775808 ≤ u then Lib.NumEnd.range else if neg ∧ 9223372036854775808 < u then .range else .ok (if neg then -(u : Int) else u)) = .ok v) ∨
   (if ¬ neg ∧ 9223372036854775808 ≤ u then Lib.NumEnd.range else if neg ∧ 9223372036854775808 < u then .range else .ok (if neg then -(u : Int) else u)) = .range := fun neg _ u => by
  split
  ·exact .inr rfl
  ·split
   ·exact .inr rfl
   ·exact .inl ⟨_,rfl⟩
 obtain ⟨d,hd,hs | ⟨hs,_⟩⟩ := Zi3 below l
 ·rw [hs] at h ⊢
  cases d with
  | nil => exact absurd (.inl rfl) h
  | cons c d =>
   have hc := Z4h (hd c (List.mem_cons_self ..))
   unfold Lib.atoiAll
   simp only
   rw [if_neg hc.2]
   rcases Z2p (by simp) hd with ⟨u,hu⟩ | hu
   ·rw [hu]; exact key _ u
   ·rw [hu]; exact .inr rfl
 ·rw [hs] at h ⊢
  unfold Lib.atoiAll
  simp only
  rw [if_pos (.inr rfl)]
  rcases Z2p (fun hn => h (.inr (.inl (by rw [hn])))) hd with ⟨u,hu⟩ | hu
  ·rw [hu]; exact key _ u
  ·rw [hu]; exact .inr rfl
theorem Zqv (p : Nat) (a : Option Addr) (s : List UInt8) (c : Nat) (hsc : s.length ≤ c) (i : Nat) (below : Bool) (k : UInt8) (W : World) (F : Nat → Prop) (hS : St W F [Rdr p a s.length c i 0] W) (hb : Ro W F (bytes a s)) (hl : s.length ≤ 1099511627776) (hi : i ≤ s.length) (hG : Lg W F) :
  Calls Tryz.prog 214 #[.pointer (some ⟨p,0,none⟩),.bool below,.int .u8 (k.toNat : Int)] W (Ret fun v w => Z9p p a s c W F (num below k (s.drop i)) v w) := by
 have hdg := Z46 p a s c hsc i 0 below
 have hT := Zh8 below (s.drop i)
 have hTl := Z4g below (s.drop i)
 have hsy := Zwj (below := below) (l := s.drop i)
 unfold num
 generalize numS below (s.drop i) = T at hdg hT hTl hsy ⊢
 rw [List.length_drop] at hTl
 have hz := Zc0 T
 have hTl' : i + T.length ≤ s.length := by omega
 rw [List.drop_drop]
 refine Zab Tryz.func214 rfl Tryz.ntmps214 rfl ?_
 repeat (first|refine Yeg ?_|refine Yev ?_|refine Yeh ?_|refine Yab ?_)
 obtain ⟨_,hc,hr,hw,hbk⟩ := hS.call [true]
 refine Zaa _ rfl rfl rfl rfl rfl (hdg _ _ hc (hw _ hb) hl hi) ?_
 rintro _ w ⟨rfl,hS⟩
 replace hS := hbk hS
 clear hc hr hw hbk
 repeat (first|refine Yeg ?_|refine Yaf ?_|refine Yag ?_|refine Yav ?_|refine Yan ?_|refine Yeh ?_|refine Yab ?_)
 have hm := Zje p a s.length c (i + T.length) 0
 by_cases hlt : i + T.length < s.length
 ·simp only [decide_eq_true hlt] at hm
  refine Zad 209 rfl rfl rfl rfl rfl hS (hm _ (hS.rd (List.mem_cons_self ..))) ?_
  rintro _ w rfl hS
  have hdr := List.drop_eq_getElem_cons hlt
  generalize hx0 : s[i + T.length] = x at hdr
  have hx : s[i + T.length]? = some x := by rw [List.getElem?_eq_getElem hlt,hx0]
  rw [hdr]
  simp only
  have hq := is_ p a s c (i + T.length) 0 k
  refine Zeq rfl rfl ?_
  refine X_yl (Zir rfl rfl) rfl rfl ?_
  refine Zme ?_
  refine Zcx ?_
  refine Zbu rfl ?_
  refine Zfq ?_
  refine Zcx ?_
  refine Zdl ?_
  refine Zdl ?_
  refine Znq (α := Bool) (fun b => [(0,.pointer (some ⟨p,0,none⟩)),(2,.int .u8 (k.toNat : Int)),(7,.string (str T)),(57,.bool b)]) (fun b w => (b = true ↔ badN T ∨ x ≠ k) ∧ St W F [Rdr p a s.length c (i + T.length) 0] w) ?_ ?_
  ·by_cases h1 : T = []
   ·repeat (first|refine Yac ?_|refine Yaa ?_|refine Ybk ?_|refine Ydb ?_|refine Yaf ?_|refine Ybe ?_|refine Yc2 ?_|refine Yad ?_)
    exact Zbj true ⟨rfl,rfl,rfl,rfl,trivial⟩ ⟨⟨fun _ => .inl (.inl h1),fun _ => rfl⟩,hS⟩
   ·by_cases h2 : T = [45]
    ·repeat (first|refine Yac ?_|refine Yaa ?_|refine Ya2 ?_|refine Ybk ?_|refine Ydb ?_|(refine X_id ?_;first|refine Yaf ?_|refine Ybe ?_|refine Ya9 ?_|refine Yc2 ?_|refine Ycs ?_)|refine Yad ?_)
     exact Zbj true ⟨rfl,rfl,rfl,rfl,trivial⟩ ⟨⟨fun _ => .inl (.inr (.inl h2)),fun _ => rfl⟩,hS⟩
    ·by_cases h3 : T = [45,48]
     ·repeat (first|refine Yac ?_|refine Yaa ?_|refine Ya2 ?_|refine Ybk ?_|refine Ydb ?_|(refine X_id ?_;first|refine Yaf ?_|refine Ybe ?_|refine Ya9 ?_|refine Yc2 ?_|refine Ycs ?_)|refine Yad ?_)
      exact Zbj true ⟨rfl,rfl,rfl,rfl,trivial⟩ ⟨⟨fun _ => .inl (.inr (.inr (.inl h3))),fun _ => rfl⟩,hS⟩
     ·obtain ⟨t,r,ht⟩ : ∃ t r,T = t :: r := by
       cases T with
       | nil => exact absurd rfl h1
       | cons t r => exact ⟨t,r,rfl⟩
      have ht0 : T[(0 : Int).toNat]? = some t := by rw [ht]; rfl
      have hth : T.head? = some t := by rw [ht]; rfl
      by_cases h4 : (t.toNat : Int) = 48 ∧ 1 < T.length
      ·obtain ⟨h4,h5⟩ := h4
       repeat (first|refine Yac ?_|refine Yaa ?_|refine Ya2 ?_|refine Ybk ?_|refine Ydb ?_|(refine X_id ?_;first|refine Yaf ?_|refine Ybe ?_|refine Ya9 ?_|refine Ycq ?_|refine Ybh ?_|refine Ybz ?_|refine Ycs ?_|refine Ydd ?_)|refine Yad ?_)
       refine Zbj true ⟨rfl,rfl,rfl,rfl,trivial⟩ ⟨⟨fun _ => .inl (.inr (.inr (.inr (.inl ⟨?_,h5⟩)))),fun _ => rfl⟩,hS⟩
       rw [hth,show t = 48 from UInt8.toNat_inj.1 (by have : (48 : UInt8).toNat = 48 := rfl; omega)]
      ·by_cases h6 : 2 < T.length ∧ List.take (2 - 0) (List.drop 0 T) = [45,48]
       ·obtain ⟨h6,h7⟩ := h6
        have h4' : ¬ (t.toNat : Int) = 48 := fun h => h4 ⟨h,by omega⟩
        repeat (first|refine Yfe ?_|(refine X_id ?_;first|refine Yaf ?_|refine Ybe ?_|refine Ya9 ?_|refine Ycq ?_|refine Ybi ?_|refine Ybz ?_|refine Yc2 ?_|refine Ycs ?_|refine Ydd ?_|refine Yd8 ?_)|refine Yad ?_)
        exact Zbj true ⟨rfl,rfl,rfl,rfl,trivial⟩ ⟨⟨fun _ => .inl (.inr (.inr (.inr (.inr ⟨h6,by simpa using h7⟩)))),fun _ => rfl⟩,hS⟩
       ·have hgood : ¬ badN T := by
         rintro (h | h | h | ⟨h,h'⟩ | ⟨h,h'⟩)
         ·exact h1 h
         ·exact h2 h
         ·exact h3 h
         ·rw [hth] at h
          exact h4 ⟨by rw [Option.some.inj h]; rfl,h'⟩
         ·exact h6 ⟨h,by simpa using h'⟩
        have hcase : (¬ (t.toNat : Int) = 48 ∧ 2 < T.length ∧ ¬ List.take (2 - 0) (List.drop 0 T) = [45,48]) ∨ (¬ (t.toNat : Int) = 48 ∧ ¬ 2 < T.length) ∨ ((t.toNat : Int) = 48 ∧ ¬ 1 < T.length) := by
         by_cases q : (t.toNat : Int) = 48
         ·exact .inr (.inr ⟨q,fun h => h4 ⟨q,h⟩⟩)
         ·by_cases q2 : 2 < T.length
          ·exact .inl ⟨q,q2,fun h => h6 ⟨q2,h⟩⟩
          ·exact .inr (.inl ⟨q,q2⟩)
        have hlen : 1 ≤ T.length := by rw [ht]; simp
        clear ht hth
        by_cases hxk : s[i + T.length]? = some k
        ·have hxe : x = k := by rw [hx] at hxk; exact Option.some.inj hxk
         simp only [decide_eq_true hxk] at hq
         rcases hcase with ⟨q1,q2,q3⟩ | ⟨q1,q2⟩ | ⟨q1,q2⟩
         all_goals
          repeat (first|refine Yfe ?_|(refine X_id ?_;first|(refine Zad 211 rfl rfl rfl rfl rfl hS (hq _ (hS.rd (List.mem_cons_self ..)) (hb.rd hS)) ?_;rintro _ _ rfl hS)|refine Yaf ?_|refine Yav ?_|refine Yan ?_|refine Ybe ?_|refine Ya9 ?_|refine Ybc ?_|refine Ycq ?_|refine Ybh ?_|refine Ybi ?_|refine Ybz ?_|refine Ybs ?_|refine Ycs ?_|refine Ydd ?_|refine Yd8 ?_)|refine Yad ?_)
          exact Zbj false ⟨rfl,rfl,rfl,rfl,trivial⟩ ⟨⟨fun h => (Bool.noConfusion h),fun h => (h.elim hgood (fun q => q hxe)).elim⟩,hS⟩
        ·have hxe : x ≠ k := fun h => hxk (by rw [hx,h])
         simp only [decide_eq_false hxk] at hq
         rcases hcase with ⟨q1,q2,q3⟩ | ⟨q1,q2⟩ | ⟨q1,q2⟩
         all_goals
          repeat (first|refine Yfe ?_|(refine X_id ?_;first|(refine Zad 211 rfl rfl rfl rfl rfl hS (hq _ (hS.rd (List.mem_cons_self ..)) (hb.rd hS)) ?_;rintro _ _ rfl hS)|refine Yaf ?_|refine Yav ?_|refine Yan ?_|refine Ybe ?_|refine Ya9 ?_|refine Ybq ?_|refine Ycq ?_|refine Ybh ?_|refine Ybi ?_|refine Ybz ?_|refine Ybs ?_|refine Ycs ?_|refine Ydd ?_|refine Yd8 ?_)|refine Yad ?_)
          exact Zbj true ⟨rfl,rfl,rfl,rfl,trivial⟩ ⟨⟨fun _ => .inr hxe,fun _ => rfl⟩,hS⟩
  ·clear hS
   rintro bad w ⟨hbad,hS⟩
   cases bad with
   | true =>
    rw [if_pos (hbad.1 rfl)]
    repeat (first|refine Yaa ?_|refine Yaf ?_|refine Yer ?_)
    obtain ⟨_,hc,hr,hw,hbk⟩ := hS.call [true]
    refine Zaa _ rfl rfl rfl rfl rfl (Zkm p a s.length c (i + T.length) 0 3 _ _ hc) ?_
    rintro _ w ⟨rfl,hS⟩
    replace hS := hbk hS
    clear hc hr hw hbk
    repeat (first|refine Yeg ?_|refine Yag ?_|refine Yeu ?_|refine Yez ?_)
    exact ⟨rfl,_,3,hTl',by decide,hS⟩
   | false =>
    have hgood : ¬ (badN T ∨ x ≠ k) := fun h => by have := hbad.2 h; cases this
    rw [if_neg hgood]
    have hxk : x = k := Decidable.not_not.1 fun h => hgood (.inr h)
    have hsyn := hsy (fun h => hgood (.inl h))
    repeat (first|refine Yaa ?_|refine Yaf ?_|refine Yes ?_|refine Yab ?_)
    refine Zad 239 rfl rfl rfl rfl rfl hS (Qbo T _ _ (hG.at_ hS) (by omega) hsyn) ?_
    rintro _ w ⟨n,er,rfl,hres⟩ hS
    rcases hres with ⟨hn,rfl⟩ | ⟨hn,t,pp,rfl⟩
    ·rw [hn]
     repeat (first|refine Yeg ?_|(refine X_id ?_;first|refine Yaf ?_|refine Yag ?_|refine Ya3 ?_|refine X_yl (Zsp rfl rfl) rfl rfl ?_)|refine Yes ?_|refine Yab ?_)
     obtain ⟨_,hc,hr,hw,hbk⟩ := hS.call [true]
     refine Zaa _ rfl rfl rfl rfl rfl (Z0g p a s c (i + T.length) 0 k _ _ hc (hw _ hb) hl) ?_
     rintro _ w ⟨rfl,hS⟩
     replace hS := hbk hS
     clear hc hr hw hbk
     repeat (first|refine Yeg ?_|refine Yev ?_|refine Yeu ?_|refine Yei ?_)
     rw [show Zf4 s (i + T.length) 0 k = (i + T.length + 1,0) by unfold Zf4; rw [if_neg (by simp),if_neg (by simpa using hlt),if_pos (by rw [hx,hxk])]] at hS
     exact ⟨rfl,_,by omega,rfl,hS⟩
    ·rw [hn]
     repeat (first|refine Yeg ?_|(refine X_id ?_;first|refine Yaf ?_|refine Yag ?_|refine Ya3 ?_|refine X_yl (Zq4 rfl rfl rfl) rfl rfl ?_)|refine Yer ?_|refine Yab ?_)
     obtain ⟨_,hc,hr,hw,hbk⟩ := hS.call [true]
     refine Zaa _ rfl rfl rfl rfl rfl (Zkm p a s.length c (i + T.length) 0 2 _ _ hc) ?_
     rintro _ w ⟨rfl,hS⟩
     replace hS := hbk hS
     clear hc hr hw hbk
     repeat (first|refine Yeg ?_|refine Yag ?_|refine Yeu ?_|refine Yez ?_)
     exact ⟨rfl,_,2,hTl',by decide,hS⟩
 ·simp only [decide_eq_false hlt] at hm
  rw [List.drop_of_length_le (by omega)]
  repeat (first|refine Yeg ?_|(refine X_id ?_;first|(refine Zad 209 rfl rfl rfl rfl rfl hS (hm _ (hS.rd (List.mem_cons_self ..))) ?_;rintro _ _ rfl hS)|refine Yaf ?_|refine Ybq ?_)|refine Yer ?_|refine Yab ?_)
  obtain ⟨_,hc,hr,hw,hbk⟩ := hS.call [true]
  refine Zaa _ rfl rfl rfl rfl rfl (Zkm p a s.length c (i + T.length) 0 4 _ _ hc) ?_
  rintro _ w ⟨rfl,hS⟩
  replace hS := hbk hS
  clear hc hr hw hbk
  repeat (first|refine Yeg ?_|refine Yag ?_|refine Yeu ?_|refine Yez ?_)
  exact ⟨rfl,_,4,hTl',by decide,hS⟩
def Qbq (p : Nat) (a : Option Addr) (s : List UInt8) (c : Nat) (W : World) (F : Nat → Prop) (r : Option (Mv × List UInt8)) (v : Value) (w : World) : Prop :=
 match r with
 | some (t,l) => ∃ cs X,v = .agg (List.toArray cs) ∧ Mrd (RX X) t cs ∧ ∃ i,i ≤ s.length ∧ s.drop i = l ∧ St W F [bag X,Rdr p a s.length c i 0] w
 | none => ∃ k n a1 n1 c1 a2 n2 c2,v = .agg (List.toArray [.int .i64 k,.int .i64 n,.slice a1 n1 c1,.slice a2 n2 c2]) ∧ ∃ i e,i ≤ s.length ∧ e ≠ 0 ∧ St W F [Rdr p a s.length c i e] w
def Qbv (p : Nat) (a : Option Addr) (s : List UInt8) (c : Nat) (W : World) (F : Nat → Prop) (r : Option (List Mv × List UInt8)) (v : Value) (w : World) : Prop :=
 match r with
 | some (x,l) => ∃ b q rows X,v = .slice b x.length q ∧ RX X b rows.flatten ∧ Mrds (RX X) x rows ∧ ∃ i,i ≤ s.length ∧ s.drop i = l ∧ St W F [bag X,Rdr p a s.length c i 0] w
 | none => ∃ b m q,v = .slice b m q ∧ ∃ i e,i ≤ s.length ∧ e ≠ 0 ∧ St W F [Rdr p a s.length c i e] w
def Zo6 (p : Nat) (a : Option Addr) (s : List UInt8) (c : Nat) (f : Nat) : Prop :=
 ∀ (i deep : Nat) (W : World) (F : Nat → Prop),i ≤ s.length → deep ≤ 9 → 2 * (s.length - i) + 1 ≤ f → Lg W F → Ro W F (bytes a s) → St W F [Rdr p a s.length c i 0] W →
  Calls Tryz.prog 168 #[.pointer (some ⟨p,0,none⟩),.int .i64 (deep : Nat)] W (Ret fun v w => Qbq p a s c W F (pvM f deep (s.drop i)) v w)
def Zzs (p : Nat) (a : Option Addr) (s : List UInt8) (c : Nat) (f : Nat) : Prop :=
 ∀ (i deep : Nat) (W : World) (F : Nat → Prop),s[i]? = some 40 → deep ≤ 9 → 2 * (s.length - (i + 1)) + 2 ≤ f → Lg W F → Ro W F (bytes a s) → St W F [Rdr p a s.length c i 0] W →
  Calls Tryz.prog 212 #[.pointer (some ⟨p,0,none⟩),.int .i64 (deep : Nat)] W (Ret fun v w => Qbv p a s c W F (if 8 < deep then none else plM f deep (s.drop (i + 1))) v w)

theorem Zxl (f deep : Nat) : pvM f deep [] = none := by cases f <;> simp [pvM]
theorem Z04 (f deep : Nat) (l : List UInt8) (h : l.head? ≠ some 41) : plM (f + 1) deep l = match pvM f (deep + 1) l with
  | none => none
  | some (t,r') => match plM f deep r' with
   | none => none
   | some (x,r'') => some (t :: x,r'') := by
 cases l with
 | nil => rw [Zxl]; simp [plM]
 | cons c l =>
  rw [plM,if_neg (fun e => h (by rw [e]; rfl))]
  cases pvM f (deep + 1) (c :: l) with
  | none => rfl
  | some q =>
   obtain ⟨t,r'⟩ := q
   simp only
   cases plM f deep r' with
   | none => rfl
   | some q => rfl
def Z5x (top p : Nat) (a : Option Addr) (s : List UInt8) (c : Nat) (deep : Nat) (res : Option (List Mv × List UInt8)) (W : World) (F : Nat → Prop) (z : Nat × Option Addr × Nat × Nat) (w : World) : Prop :=
 (∃ f i x rows X,z.1 = f + 1 ∧ deep ≤ 8 ∧ f ≤ top ∧ z.2.2.1 = x.length ∧ x.length ≤ z.2.2.2 ∧ i ≤ s.length ∧ x.length ≤ i ∧ 2 * (s.length - i) + 2 ≤ f ∧ res = (plM f deep (s.drop i)).map (fun q => (x ++ q.1,q.2)) ∧ Mrds (RX X) x rows ∧
  St W F [own 38 4 z.2.1 z.2.2.2 rows.flatten,bag X,Rdr p a s.length c i 0] w) ∨
 (res = none ∧ ∃ i e,i ≤ s.length ∧ e ≠ 0 ∧ St W F [Rdr p a s.length c i e] w)
def Qbw (p : Nat) (a : Option Addr) (s : List UInt8) (c : Nat) (res : Option (List Mv × List UInt8)) (W : World) (F : Nat → Prop) (z : Option Addr × Nat × Nat) (w : World) : Prop :=
 (∃ i x rows X,z.2.1 = x.length ∧ s[i]? = some 41 ∧ res = some (x,s.drop (i + 1)) ∧ Mrds (RX X) x rows ∧
  St W F [own 38 4 z.1 z.2.2 rows.flatten,bag X,Rdr p a s.length c i 0] w) ∨
 (res = none ∧ ∃ i e,i ≤ s.length ∧ e ≠ 0 ∧ St W F [Rdr p a s.length c i e] w)
theorem Z1e (p : Nat) (a : Option Addr) (s : List UInt8) (c : Nat) (hl : s.length ≤ 1099511627776) (f : Nat) (hv : ∀ g,g < f → Zo6 p a s c g) : Zzs p a s c f := by
 intro i deep W F hi hd hf hG hb hS
 have hil := (List.getElem?_eq_some_iff.1 hi).1
 obtain ⟨res,hres⟩ : ∃ res,res = (if 8 < deep then none else plM f deep (s.drop (i + 1))) := ⟨_,rfl⟩
 rw [← hres]
 refine Zab Tryz.func212 rfl Tryz.ntmps212 rfl ?_
 repeat (first|refine Yeg ?_|refine Yev ?_|refine Yeh ?_|refine Yab ?_)
 obtain ⟨_,hc,hr,hw,hbk⟩ := hS.call [true]
 refine Zaa _ rfl rfl rfl rfl rfl (Z0g p a s c i 0 40 _ _ hc (hw _ hb) hl) ?_
 rintro _ w ⟨rfl,hS⟩
 replace hS := hbk hS
 clear hc hr hw hbk
 rw [show Zf4 s i 0 40 = (i + 1,0) by unfold Zf4; rw [if_neg (by simp),if_neg (by simpa using hil),if_pos hi]] at hS
 simp only at hS
 by_cases h8 : 8 < deep
 case' pos =>
  rw [if_pos h8] at hres
  repeat (first|refine Yeg ?_|refine Yaf ?_|refine Ybz ?_|refine Yer ?_|refine Yab ?_)
  obtain ⟨_,hc,hr,hw,hbk⟩ := hS.call [true]
  refine Zaa _ rfl rfl rfl rfl rfl (Zkm p a s.length c (i + 1) 0 18 _ _ hc) ?_
  rintro _ w ⟨rfl,hS⟩
  replace hS := hbk hS
  clear hc hr hw hbk
  repeat (first|refine Yeg ?_|refine Yag ?_|refine Yej ?_|refine Yab ?_)
  have hI : ∃ z0,Z5x f p a s c deep res W F (z0,none,0,0) _ := ⟨0,.inr ⟨hres,_,18,hil,by decide,hS⟩⟩
 case' neg =>
  rw [if_neg h8] at hres
  repeat (first|refine Yeg ?_|refine Yaf ?_|refine Yag ?_|refine Ybs ?_|refine Ye9 ?_|refine Yab ?_)
  have hI : ∃ z0,Z5x f p a s c deep res W F (z0,none,0,0) _ := ⟨f + 1,.inl ⟨f,i + 1,[],[],[],rfl,by omega,Nat.le_refl _,rfl,Nat.le_refl _,hil,Nat.zero_le _,hf,by rw [hres]; cases plM f deep (s.drop (i + 1)) <;> simp,.nil,(hS.bagNil).own_none _ _ _⟩⟩
 all_goals
  obtain ⟨z0,hI⟩ := hI
  clear hS hres
  refine Zbk (α := Option Addr × Nat × Nat) (fun z => [(0,.pointer (some ⟨p,0,none⟩)),(5,.slice z.1 z.2.1 z.2.2)]) (Qbw p a s c res W F) ?_ ?_
  ·refine Zaj (α := Nat × Option Addr × Nat × Nat) (fun z => [(0,.pointer (some ⟨p,0,none⟩)),(1,.int .i64 (deep : Nat)),(5,.slice z.2.1 z.2.2.1 z.2.2.2)]) (Z5x f p a s c deep res W F) (fun z => z.1) (z0,none,0,0) ⟨rfl,rfl,rfl,trivial⟩ hI ?_
   clear hI
   rintro ⟨m,b,n,q⟩ w (⟨g,j,x,rows,X,hm,hd8,hgf,hn,hnq,hj,hxj,hg,hr,hM,hS⟩ | ⟨hr,j,e,hj,he,hS⟩)
   ·simp only at hm hn hnq hS
    subst hm hn
    have hrl := hM.flat
    have hq41 := is_ p a s c j 0 41
    obtain ⟨g',rfl⟩ : ∃ g',g = g' + 1 := ⟨g - 1,by omega⟩
    by_cases h41 : s[j]? = some 41
    ·simp only [decide_eq_true h41] at hq41
     repeat (first|refine Yex ?_|(refine X_id ?_;first|(refine Zad 211 rfl rfl rfl rfl rfl hS (hq41 _ (hS.rd (List.mem_cons_of_mem _ (List.mem_cons_of_mem _ (List.mem_cons_self ..)))) (hb.rd hS)) ?_;rintro _ _ rfl hS)|refine Yaf ?_|refine Yav ?_|refine Yan ?_|refine Ybe ?_|refine Ybc ?_|refine Ybh ?_|refine Yap ?_)|refine Yet ?_|refine Yem ?_)
     refine Zbj (b,x.length,q) ⟨rfl,rfl,trivial⟩ (.inl ⟨j,x,rows,X,rfl,h41,?_,hM,hS⟩)
     obtain ⟨hjl,hje⟩ := List.getElem?_eq_some_iff.1 h41
     rw [hr,List.drop_eq_getElem_cons hjl,hje,plM,if_pos rfl]
     simp
    ·simp only [decide_eq_false h41] at hq41
     rw [Z04 g' deep _ (by rw [List.head?_drop]; exact h41)] at hr
     repeat (first|refine Yex ?_|(refine X_id ?_;first|(refine Zad 211 rfl rfl rfl rfl rfl hS (hq41 _ (hS.rd (List.mem_cons_of_mem _ (List.mem_cons_of_mem _ (List.mem_cons_self ..)))) (hb.rd hS)) ?_;rintro _ _ rfl hS)|refine Yaf ?_|refine Yav ?_|refine Yan ?_|refine Ybe ?_|refine Ybq ?_|refine Ybh ?_|refine Yay ?_|refine Yap ?_)|refine Yek ?_|refine Yab ?_)
     obtain ⟨_,hc,_,hw,hbk⟩ := hS.call [false,false,true]
     refine Zaa _ rfl rfl rfl rfl rfl (hv g' (by omega) j (deep + 1) _ _ hj (by omega) (by omega) (hG.mono hw) (hw _ hb) hc) ?_
     rintro v w hV
     cases hp : pvM g' (deep + 1) (s.drop j) with
     | none =>
      rw [hp] at hV hr
      obtain ⟨k1,k2,a1,n1,c1,a2,n2,c2,rfl,j',e',hj',he',hS⟩ := hV
      replace hS := hbk hS
      clear hbk hw hc
      simp only at hr
      repeat (first|refine Yaa ?_|refine Ybd (fun _ _ hS _ => ?_))
      have hnw := (hS.rd (List.mem_cons_self ..)).own_row
      refine Zap rfl rfl rfl rfl rfl hS hrl hnq hnw rfl (by simp [Value.oneCell']) (by dsimp only; omega) (by simp only [maxLen]; omega) (fun b' q' w hS hq' _ => ?_)
      repeat (first|refine Yeg ?_|refine Yag ?_|refine Yat ?_)
      exact Zaf (z := (g' + 1 + 1,b,x.length,q)) (0,b',x.length + 1,q') ⟨rfl,rfl,rfl,trivial⟩ (.inr ⟨by rw [hr]; rfl,j',e',hj',he',hS.took⟩) (by simp)
     | some u =>
      obtain ⟨t,l⟩ := u
      rw [hp] at hV hr
      obtain ⟨cs,Y,rfl,hMt,j',hj',hdl,hS⟩ := hV
      replace hS := hbk hS
      clear hbk hw hc
      obtain ⟨a1,c1,a2,c2,rows2,rfl,_⟩ := hMt.lit
      have hlen := (Z70 g').1 _ _ _ _ hp
      rw [← hdl] at hlen hr
      simp only [List.length_drop] at hlen
      simp only at hr
      repeat (first|refine Yaa ?_|refine Ybd (fun _ _ hS _ => ?_))
      have hnw := (hS.rd (List.mem_cons_self ..)).own_row
      refine Zap rfl rfl rfl rfl rfl hS hrl hnq hnw rfl (by simp [Value.oneCell']) (by dsimp only; omega) (by simp only [maxLen]; omega) (fun b' q' w hS hq' _ => ?_)
      repeat (first|refine Yeg ?_|refine Yag ?_|refine Yat ?_)
      have hS : St W F [bag X,bag Y,own 38 4 b' q' (rows.flatten ++ [.int .i64 t.kind,.int .i64 t.num,.slice a1 t.txt.length c1,.slice a2 t.lst.length c2]),Rdr p a s.length c j' 0] w := hS.took
      replace hS := hS.bagJoin
      refine Zaf (z := (g' + 1 + 1,b,x.length,q)) (g' + 1,b',x.length + 1,q') ⟨rfl,rfl,rfl,trivial⟩ (.inl ⟨g',j',x ++ [t],rows ++ [[.int .i64 t.kind,.int .i64 t.num,.slice a1 t.txt.length c1,.slice a2 t.lst.length c2]],X ++ Y,rfl,hd8,by omega,by simp,by simpa using hq',hj',by simp; omega,by omega,?_,(hM.mono fun _ _ h => h.left).snoc (hMt.mono fun _ _ h => h.right),?_⟩) (by simp)
      ·rw [hr]
       cases plM g' deep (s.drop j') with
       | none => rfl
       | some q => simp
      ·rw [List.flatten_append]
       simpa using hS.took
   ·repeat (first|refine Ye0 ?_|(refine X_id ?_;first|refine Yaf ?_|refine Yav ?_|refine Yan ?_|refine Ya9 ?_|refine Ybi ?_|refine Yap ?_)|refine Yet ?_|refine Yem ?_)
    exact Zbj (b,n,q) ⟨rfl,rfl,trivial⟩ (.inr ⟨hr,j,e,hj,he,hS⟩)
  ·clear hI
   rintro ⟨b,n,q⟩ w (⟨j,x,rows,X,hn,h41,hr,hM,hS⟩ | ⟨hr,j,e,hj,he,hS⟩)
   ·simp only at hn hS
    subst hn
    have hjl := (List.getElem?_eq_some_iff.1 h41).1
    repeat (first|refine Yaa ?_|refine Yaf ?_|refine Yeh ?_)
    obtain ⟨_,hc,hr,hw,hbk⟩ := hS.call [false,false,true]
    refine Zaa _ rfl rfl rfl rfl rfl (Z0g p a s c j 0 41 _ _ hc (hw _ hb) hl) ?_
    rintro _ w ⟨rfl,hS⟩
    replace hS := hbk hS
    clear hc hr hw hbk
    rw [show Zf4 s j 0 41 = (j + 1,0) by unfold Zf4; rw [if_neg (by simp),if_neg (by simpa using hjl),if_pos h41]] at hS
    simp only at hS
    repeat (first|refine Yeg ?_|refine Yev ?_|refine Yeu ?_|refine Yei ?_)
    rw [hr]
    have hS : St W F [own 38 4 b q rows.flatten,bag X,Rdr p a s.length c (j + 1) 0] _ := hS.took
    exact ⟨b,q,rows,_,rfl,.mem (List.mem_cons_self ..),hM.mono fun _ _ h => h.tail,j + 1,hjl,rfl,hS.bagAdd fun _ h => h.row⟩
   ·repeat (first|refine Yaa ?_|refine Yaf ?_|refine Yeh ?_)
    obtain ⟨_,hc,hr,hw,hbk⟩ := hS.call [true]
    refine Zaa _ rfl rfl rfl rfl rfl (Z0f p a s.length c j e 41 _ _ hc he) ?_
    rintro _ w ⟨rfl,hS⟩
    replace hS := hbk hS
    clear hc hr hw hbk
    repeat (first|refine Yeg ?_|refine Yev ?_|refine Yeu ?_|refine Yei ?_)
    rw [hr]
    exact ⟨b,n,q,rfl,j,e,hj,he,hS⟩
end Cr
