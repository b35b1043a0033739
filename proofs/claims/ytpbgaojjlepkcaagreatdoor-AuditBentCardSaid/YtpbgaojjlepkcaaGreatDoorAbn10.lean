/-
  Layer 8 (tree): a change in memory as a resource: which nodes it has by now (N),over a table that tells T. Nodes told,set,freed.
  Package codec,lists in lists too: a reader reads a list,given that it reads values.
  Package codec: a reader reads a value,lists in lists too: the parse in plain words (pvM) is what it does.
  Package codec: Next and Decode: what bytes say (decM).
  Layer 8 (tree): a directory's bytes written and read.
  Layer 8 (tree): names looked for; paths that are right; a name of a directory.
  Layer 8 (tree) in plain words,2: trees; the nodes they have by number; paths gone. No program is in sight.
  Layer 8 (tree): a place's names; a name of a directory; the root.
-/
import Derived.Test.YtpbgaojjlepkcaaGreatDoorAbn9
import Derived.Test.YtpbgaojjlepkcaaGreatDoorAbn5
import Derived.Test.YtpbgaojjlepkcaaGreatDoorAbn4
import Derived.Test.YtpbgaojjlepkcaaGreatDoorAbn8
import Derived.Lib.Bytealg
namespace Cr
open Go Go.Proofs
set_option maxRecDepth 100000
set_option maxHeartbeats 64000000
attribute [local irreducible] Calls

section
variable {β : Type} {k : Int} (f : β → Value)
theorem Zn9 : ∀ l : List (Int × β),getM k (l.map fun x => (x.1,f x.2)) = (getA k l).map f
 | [] => rfl
 | x :: l => by
  have ih := Zn9 l
  simp only [List.map_cons,getM,getA] at ih ⊢
  split
  ·rfl
  ·exact ih
theorem Znn {v : β} : ∀ l : List (Int × β),setM k (f v) (l.map fun x => (x.1,f x.2)) = (setA k v l).map fun x => (x.1,f x.2)
 | [] => rfl
 | x :: l => by
  have ih := Znn (v := v) l
  simp only [List.map_cons,setM,setA] at ih ⊢
  split
  ·rfl
  ·rw [ih]; rfl
theorem Zog : ∀ l : List (Int × β),delM k (l.map fun x => (x.1,f x.2)) = (delA k l).map fun x => (x.1,f x.2)
 | [] => rfl
 | x :: l => by
  have ih := Zog l
  simp only [List.map_cons,delM,delA] at ih ⊢
  split
  ·rfl
  ·rw [ih]; rfl
theorem Zmd {v : β} {l : List (Int × β)} (h : (Zaw l).Nodup) : (Zaw (setA k v l)).Nodup := by
 induction l with
 | nil => simp [setA,Zaw]
 | cons x l ih =>
  have h' : x.1 ∉ Zaw l ∧ (Zaw l).Nodup := List.nodup_cons.1 h
  unfold setA
  split
  ·rename_i e; simp only [Zaw,List.map_cons] at h' ⊢; rw [e]; exact List.nodup_cons.2 h'
  ·rename_i e
   refine List.nodup_cons.2 ⟨fun hm => ?_,ih h'.2⟩
   have : getA x.1 (setA k v l) ≠ none := fun hn => (getA_none.1 hn) hm
   rw [Zeg,if_neg (fun q => e q.symm)] at this;exact this (getA_none.2 h'.1)
theorem Zme {l : List (Int × β)} (h : (Zaw l).Nodup) : (Zaw (delA k l)).Nodup := h.sublist Zis
theorem Zph {v : β} : ∀ {l : List (Int × β)} {x : Int × β},x ∈ setA k v l → x = (k,v) ∨ x ∈ l
 | [],x,h => by simp [setA] at h; exact .inl h
 | y :: l,x,h => by
  unfold setA at h
  split at h
  ·rcases List.mem_cons.1 h with h | h
   ·exact .inl h
   ·exact .inr (List.mem_cons_of_mem _ h)
  ·rcases List.mem_cons.1 h with h | h
   ·exact .inr (by rw [h]; exact List.mem_cons_self ..)
   ·exact (Zph h).imp id (List.mem_cons_of_mem _)
end
structure PN where
 nd : Nd
 a : Option Addr
 c : Nat
abbrev PN.val (x : PN) : Value := .agg (ndV x.nd x.a x.c).toArray
abbrev PV := List (Int × PN)
abbrev DV := List (Int × Bool)
def eff (T : Int → Option Nd) (P : PV) (D : DV) (no : Int) : Option Nd :=
 match getA no P with
 | some x => some x.nd
 | none => if (getA no D).getD false = true then none else T no
structure ChOk (T N : Int → Option Nd) (X : List RowD) (P : PV) (D : DV) : Prop where
 kp : (Zaw P).Nodup
 kd : (Zaw D).Nodup
 eff : ∀ no,Cr.eff T P D no = N no
 row : ∀ x ∈ P,RX X x.2.a (bv x.2.nd.data) ∧ x.2.nd.data.length ≤ x.2.c
abbrev chC (f : Nat) (b : Int) (pm dm : Nat) : Obj := .cells (List.toArray [.pointer (some ⟨f,0,none⟩),.int .i64 b,.bool false,.map (some pm),.map (some dm)]) 105 (0,0)
def PV.vals (P : PV) : List (Int × Value) := P.map fun x => (x.1,PN.val x.2)
def DV.vals (D : DV) : List (Int × Value) := D.map fun x => (x.1,Value.bool x.2)
theorem Z5e {k : Int} (P : PV) : getM k P.vals = (getA k P).map PN.val := Zn9 _ _
theorem Z5f {k : Int} (D : DV) : getM k D.vals = (getA k D).map Value.bool := Zn9 _ _
theorem Z4j {k : Int} {v : PN} (P : PV) : setM k v.val P.vals = PV.vals (setA k v P) := Znn PN.val P
theorem Z4k {k : Int} {v : Bool} (D : DV) : setM k (.bool v) D.vals = DV.vals (setA k v D) := Znn Value.bool D
theorem Z5p {k : Int} (P : PV) : delM k P.vals = PV.vals (delA k P) := Zog PN.val P
theorem Z5q {k : Int} (D : DV) : delM k D.vals = DV.vals (delA k D) := Zog Value.bool D
def chR (c f : Nat) (b : Int) (T N : Int → Option Nd) (X : List RowD) : Res := fun h => ∃ (P : PV) (D : DV) (pm dm : Nat),ChOk T N X P D ∧
 Sep [bag X,pts c (chC f b pm dm),mapq (Value.int .i64) pm P.vals,mapq (Value.int .i64) dm D.vals] h
structure TabOf (W : World) (F : Nat → Prop) (tp n : Nat) (T : Int → Option Nd) : Prop where
 nodes : ∀ w,(∀ r,Ro W F r → Rd w r) → Calls Tryz.prog 164 #[.pointer (some ⟨tp,0,none⟩)] w (Ret fun v w' => v = .int .i64 (n : Nat) ∧ w = w')
 get : ∀ w no,(∀ r,Ro W F r → Rd w r) → Calls Tryz.prog 86 #[.pointer (some ⟨tp,0,none⟩),.int .i64 no] w (Ret fun v w' => match T no with
  | none => v = .tuple #[nd0,.int .i64 7] ∧ St w noF [] w'
  | some x => ∃ a c,v = .tuple #[.agg (ndV x a c).toArray,.int .i64 0] ∧ x.data.length ≤ c ∧ St w noF [own 5 1 a c (bv x.data)] w')
theorem TabOf.mono {W W' : World} {F F' : Nat → Prop} {tp n : Nat} {T : Int → Option Nd} (h : TabOf W F tp n T) (hm : ∀ r,Ro W F r → Ro W' F' r) : TabOf W' F' tp n T :=
 ⟨fun w hw => h.nodes w fun r hr => hw r (hm r hr),fun w no hw => h.get w no fun r hr => hw r (hm r hr)⟩
structure TreeRo (W : World) (F : Nat → Prop) (f tp n : Nat) (b : Int) (T : Int → Option Nd) : Prop where
 blk : Ro W F (pts f (.cells (List.toArray [.pointer (some ⟨tp,0,none⟩),.int .i64 b]) 100 (0,0)))
 tab : TabOf W F tp n T
theorem TreeRo.mono {W W' : World} {F F' : Nat → Prop} {f tp n : Nat} {b : Int} {T : Int → Option Nd} (h : TreeRo W F f tp n b T) (hm : ∀ r,Ro W F r → Ro W' F' r) : TreeRo W' F' f tp n b T := ⟨hm _ h.blk,h.tab.mono hm⟩
section
variable {W : World} {F : Nat → Prop} {rs : List Res} {w : World} {c f : Nat} {b : Int} {T N : Int → Option Nd} {X : List RowD}
theorem St.openCh (hS : St W F (chR c f b T N X :: rs) w) : ∃ P D pm dm,ChOk T N X P D ∧ St W F (bag X :: pts c (chC f b pm dm) :: mapq (Value.int .i64) pm P.vals :: mapq (Value.int .i64) dm D.vals :: rs) w := by
 obtain ⟨h,⟨h1,h2,⟨P,D,pm,dm,hq,hs⟩,hr,hd,hu⟩,s⟩ := hS
 exact ⟨P,D,pm,dm,hq,h,Sep.append_mk hs hr hd hu,s⟩
theorem St.shutCh {P : PV} {D : DV} {pm dm : Nat} (hq : ChOk T N X P D) (hS : St W F (bag X :: pts c (chC f b pm dm) :: mapq (Value.int .i64) pm P.vals :: mapq (Value.int .i64) dm D.vals :: rs) w) : St W F (chR c f b T N X :: rs) w :=
 St.shutR (rs' := [bag X,pts c (chC f b pm dm),mapq (Value.int .i64) pm P.vals,mapq (Value.int .i64) dm D.vals]) hS fun _ hh => ⟨P,D,pm,dm,hq,hh⟩
theorem ChOk.more {X' : List RowD} {P : PV} {D : DV} (h : ChOk T N X P D) (hX : ∀ x ∈ X,x ∈ X') : ChOk T N X' P D := ⟨h.kp,h.kd,h.eff,fun x hx => ⟨(h.row x hx).1.sub hX,(h.row x hx).2⟩⟩
theorem Z51 {X Y : List RowD} {h1 h3 : Frag} (a : bag Y h1) (b : bag X h3) (d : ∀ k,h1 k = none ∨ h3 k = none) : bag (Y ++ X) (fun k => (h1 k).or (h3 k)) := fun x hx => by
 rcases List.mem_append.1 hx with hx | hx
 ·obtain ⟨h',hr,hs⟩ := a x hx
  exact ⟨h',hr,fun b o e => Zws (hs b o e)⟩
 ·obtain ⟨h',hr,hs⟩ := b x hx
  exact ⟨h',hr,fun b o e => Ztg d (hs b o e)⟩
theorem St.chAdd {Y : List RowD} (hS : St W F (bag Y :: chR c f b T N X :: rs) w) : St W F (chR c f b T N (Y ++ X) :: rs) w :=
 hS.merge fun h1 h3 hY ⟨P,D,pm,dm,hq,hs⟩ hd => ⟨P,D,pm,dm,hq.more fun x hx => List.mem_append_right _ hx,
  Sep.merge (Sep.append_mk (rs := [Cr.bag Y]) ⟨h1,fun _ => none,hY,Z0n,fun _ => .inr rfl,fun k => by simp⟩ hs hd fun _ => rfl) fun _ _ a b d => Z51 a b d⟩
theorem Ro.ch (H : Ro W F (chR c f b T N X)) : Ro W F (Cr.bag X) := H.mono fun h ⟨_,_,_,_,_,h1,h2,a,_,_,u⟩ => ⟨h1,a,fun b o e => by rw [u,e]; rfl⟩
theorem Rd.ch {w : World} (H : Rd w (chR c f b T N X)) : Rd w (Cr.bag X) := H.mono fun h ⟨_,_,_,_,_,h1,h2,a,_,_,u⟩ => ⟨h1,a,fun b o e => by rw [u,e]; rfl⟩
end
def Z3z (W : World) (F : Nat → Prop) (c f : Nat) (b : Int) (T N : Int → Option Nd) (X : List RowD) (no : Int) (v : Value) (w : World) : Prop :=
 ∃ X',(∀ x ∈ X,x ∈ X') ∧ St W F [chR c f b T N X'] w ∧ ∃ nd a q,v = .tuple #[.agg (ndV nd a q).toArray,.bool (N no).isSome] ∧ ∀ x,N no = some x → nd = x ∧ x.data.length ≤ q ∧ RX X' a (bv x.data)
theorem Z2y {c f tp n : Nat} {b : Int} {T N : Int → Option Nd} {X : List RowD} (no : Int) (W : World) (F : Nat → Prop) (hT : TreeRo W F f tp n b T) (hS : St W F [chR c f b T N X] W) :
  Calls Tryz.prog 165 #[.pointer (some ⟨c,0,none⟩),.int .i64 no] W (Ret fun v w => Z3z W F c f b T N X no v w) := by
 obtain ⟨P,D,pm,dm,hq,hS⟩ := hS.openCh
 have hc := hT.blk
 refine Zab Tryz.func165 rfl Tryz.ntmps165 rfl ?_
 repeat (first|refine Yea ?_|(refine X_id ?_;first|refine Yaf ?_|refine Yag ?_|refine Yau ?_|refine Yan ?_|refine Yap ?_|refine Yar (fun _ _ hS _ => ?_))|refine Yeb ?_|refine Yab ?_)
 refine X_yl (Zhe (mk := Value.int .i64) (L := P.vals) (k := no) rfl rfl rfl ((hS.rd (by simp)).mapq_r)) rfl rfl ?_
 rw [Z5e];have he := hq.eff no
 unfold eff at he
 cases hg : getA no P with
 | some x =>
  rw [hg] at he;simp only [Option.map_some,Option.getD_some,Option.isSome_some]
  repeat (first|refine Yea ?_|(refine X_id ?_;first|refine Yaf ?_|refine Yag ?_|refine Yat ?_|refine Ybg ?_|refine Yao (fun _ hS _ => ?_)|refine Yar (fun _ _ hS _ => ?_))|refine Yek ?_|refine Yab ?_|refine Yaq ?_|refine Ybv ?_)
  have hS : St W F [bag X,pts c (chC f b pm dm),mapq (Value.int .i64) pm P.vals,mapq (Value.int .i64) dm D.vals] _ := hS.took
  obtain ⟨h1,h2⟩ := hq.row _ (Zjy hg)
  exact ⟨X,fun _ h => h,hS.shutCh hq,x.nd,x.a,x.c,by rw [← he]; rfl,fun y hy => by rw [← he] at hy; cases hy; exact ⟨rfl,h2,h1⟩⟩
 | none =>
  rw [hg] at he;simp only [Option.map_none,Option.getD_none,Option.isSome_none]
  repeat (first|refine Yea ?_|(refine X_id ?_;first|refine Yaf ?_|refine Yag ?_|refine Yau ?_|refine Yan ?_|refine Yat ?_|refine Yap ?_|refine Yao (fun _ hS _ => ?_)|refine Yar (fun _ _ hS _ => ?_)|refine Yca ?_)|refine Yem ?_|refine Yab ?_)
  refine Zaa _ rfl rfl rfl rfl rfl (hT.tab.get _ no fun r h => h.rd hS) ?_
  rintro v w hV
  cases hTn : T no with
  | none =>
   rw [hTn] at hV;obtain ⟨rfl,hS'⟩ := hV
   replace hS := hS.plus hS';clear hS';have hN : N no = none := by rw [← he]; simp [hTn]
   repeat (first|refine Yea ?_|refine Yeo ?_|refine Yao (fun _ hS _ => ?_)|refine Yar (fun _ _ hS _ => ?_)|refine Yae ?_|refine Yab ?_)
   refine Zam (.s 0 (.s 1 (.s 2 (.s 3 (.s 4 (.s 5 (.s 6 (.s 7 (.s 8 (.s 9 (.s 10 (.s 11 (.h 12 (.s 13 .nil) .no))))))))))))) mixed (by kernel_rfl) rfl ?_
   have hS := hS.drew
   repeat (first|refine Yao (fun _ hS _ => ?_)|refine Yah ?_|refine Yab ?_|refine Ybv ?_|(refine Zae ?_;first|refine Yay ?_|refine Ya3 ?_|refine Ybm ?_|refine Yb7 ?_|refine Zak rfl rfl (fun _ => Zic rfl rfl rfl (by omega)) rfl rfl ?_|refine Yb1 ?_|refine Yas ?_|refine Ycc ?_)|(refine Zac ?_;first|refine Ydg ?_))
   have hS : St W F [bag X,pts c (chC f b pm dm),mapq (Value.int .i64) pm P.vals,mapq (Value.int .i64) dm D.vals] _ := hS.took
   exact ⟨X,fun _ h => h,hS.shutCh hq,⟨⟨0,0,0,0⟩,[]⟩,none,0,by rw [hN]; rfl,fun y hy => by rw [hN] at hy; cases hy⟩
  | some x =>
   rw [hTn] at hV;obtain ⟨a,q,rfl,hq2,hS'⟩ := hV
   replace hS := hS.plus hS';clear hS';repeat (first|refine Yea ?_|refine Yeo ?_|refine Yao (fun _ hS _ => ?_)|refine Yar (fun _ _ hS _ => ?_)|refine Yae ?_|refine Yab ?_)
   refine Zam (.s 0 (.s 1 (.s 2 (.s 3 (.s 4 (.s 5 (.s 6 (.s 7 (.s 8 (.s 9 (.s 10 (.s 11 (.h 12 (.s 13 .nil) .no))))))))))))) mixed (by kernel_rfl) rfl ?_
   have hS := hS.drew
   repeat (first|(refine Zae ?_;first|refine Ya3 ?_|refine Yd1 ?_|refine Yb1 ?_|refine Yb6 ?_|refine Yct ?_|refine Yck ?_|refine Ycr ?_))
   refine Zcu (fun w' => Rd w' (mapr (Value.int .i64) dm D.vals)) rfl rfl rfl rfl ((hS.rd (by simp)).mapq_r) (fun _ h => Zib (mk := Value.int .i64) (L := D.vals) (k := no) rfl rfl rfl h) rfl rfl ?_
   rw [Z5f];obtain ⟨d,hd⟩ : ∃ d,d = (getA no D).getD false := ⟨_,rfl⟩
   have hdv : ((getA no D).map Value.bool).getD (.bool false) = .bool d := by rw [hd]; cases getA no D <;> rfl
   rw [hdv];repeat (first|refine Yao (fun _ hS _ => ?_)|refine Yah ?_|refine Yab ?_|refine Ybv ?_|(refine Zae ?_;first|refine Yay ?_|refine Ybm ?_|refine Ycb ?_|refine Yas ?_|refine Zbv rfl rfl rfl rfl (fun _ => Zop rfl rfl) rfl rfl ?_)|(refine Zac ?_;first|refine Ydg ?_))
   have hS : St W F [own 5 1 a q (bv x.data),bag X,pts c (chC f b pm dm),mapq (Value.int .i64) pm P.vals,mapq (Value.int .i64) dm D.vals] _ := hS.took
   have hS := hS.bagAdd (a := a) (cs := bv x.data) fun _ h => h.row
   refine ⟨(a,bv x.data) :: X,fun _ h => List.mem_cons_of_mem _ h,hS.shutCh (hq.more fun _ h => List.mem_cons_of_mem _ h),x,a,q,?_,fun y hy => ?_⟩
   ·rw [← he,← hd,hTn]; cases d <;> rfl
   ·rw [← he,hTn] at hy
    simp only at hy
    split at hy
    ·cases hy
    ·cases hy; exact ⟨rfl,hq2,.mem (List.mem_cons_self ..)⟩
theorem Z5w {T N : Int → Option Nd} {X X' : List RowD} {P : PV} {D : DV} (h : ChOk T N X P D) (hX : ∀ x ∈ X,x ∈ X') (no : Int) (nd : Nd) (a : Option Addr) (q : Nat) (hr : RX X' a (bv nd.data)) (hq : nd.data.length ≤ q) : ChOk T (fun k => if k = no then some nd else N k) X' (setA no ⟨nd,a,q⟩ P) (delA no D) := by
 refine ⟨Zmd h.kp,Zme h.kd,fun k => ?_,fun x hx => ?_⟩
 ·have he := h.eff k
  unfold Cr.eff at he ⊢
  rw [Zeg,Zf5 h.kd];by_cases hk : k = no
  ·rw [if_pos hk]; simp [hk]
  ·simp only [if_neg hk]; exact he
 ·rcases Zph hx with rfl | hx
  ·exact ⟨hr,hq⟩
  ·exact ⟨(h.row x hx).1.sub hX,(h.row x hx).2⟩
theorem Z3m {T N : Int → Option Nd} {X : List RowD} {P : PV} {D : DV} (h : ChOk T N X P D) (no : Int) : ChOk T (fun k => if k = no then none else N k) X (delA no P) (setA no true D) := by
 refine ⟨Zme h.kp,Zmd h.kd,fun k => ?_,fun x hx => h.row x (delA_sub.subset hx)⟩
 have he := h.eff k
 unfold Cr.eff at he ⊢
 rw [Zeg,Zf5 h.kp];by_cases hk : k = no
 ·simp [hk]
 ·simp only [if_neg hk]; exact he
theorem set_ {c f : Nat} {b : Int} {T N : Int → Option Nd} {X : List RowD} (no : Int) (nd : Nd) (a : Option Addr) (q : Nat) (W : World) (F : Nat → Prop) (ha : Ro W F (bytes a nd.data) ∨ RX X a (bv nd.data)) (hl : nd.data.length ≤ 1073741824) (hS : St W F [chR c f b T N X] W) :
  Calls Tryz.prog 96 #[.pointer (some ⟨c,0,none⟩),.int .i64 no,.agg (List.toArray [.int .i64 nd.st.kind,.int .i64 nd.st.mode,.int .i64 nd.st.owner,.int .i64 nd.st.group,.slice a nd.data.length q])] W (Ret fun v w => v = .tuple #[] ∧ ∃ X',(∀ x ∈ X,x ∈ X') ∧ St W F [chR c f b T (fun k => if k = no then some nd else N k) X'] w) := by
 obtain ⟨P,D,pm,dm,hq,hS⟩ := hS.openCh
 refine Zab Tryz.func96 rfl Tryz.ntmps96 rfl ?_
 repeat (first|refine Yea ?_|(refine X_id ?_;first|refine Yaf ?_|refine Yau ?_|refine Yan ?_|refine Yap ?_|refine Ya5 (fun _ _ hS _ => ?_))|refine Yeb ?_|refine Yab ?_)
 have hS := hS.pick [4,0,0,0,0]
 refine Zgf (mk := Value.int .i64) (L := D.vals) (k := no) rfl rfl rfl rfl hS (fun w hS => ?_)
 rw [Z5q] at hS;repeat (first|refine Yac ?_|refine Yab ?_)
 refine Zam (.s 0 (.s 1 (.s 2 (.s 3 (.s 4 (.s 5 (.s 6 (.s 7 (.s 8 (.h 9 (.s 10 (.h 11 .nil .no)) .no)))))))))) mixed (by kernel_rfl) rfl ?_
 have hS := hS.drew
 repeat (first|(refine Zae ?_;first|refine Ya3 ?_|refine Ybr ?_|refine Ybe ?_|refine Ybk ?_|refine Yb1 ?_|refine Yas ?_))
 refine Zaa _ rfl rfl rfl rfl rfl (Zeo a nd.data.length q nd.data _ (by
  rcases ha with ha | ha
  ·exact ha.rd hS
  ·exact ha.rd (hS.rd (r := bag X) (by simp))) rfl hl) ?_
 rintro _ w ⟨a',q',rfl,_,hqq,hS'⟩
 replace hS := hS.plus hS';clear hS';repeat (first|(refine Zae ?_;first|refine Yb8 ?_|refine Yas ?_)|(refine Zac ?_;first|refine Ydg ?_))
 have hS := hS.pick [5,0,2,2,0]
 refine Ze1 (mk := Value.int .i64) (L := P.vals) (k := no) rfl rfl rfl rfl rfl hS (fun w hS => ?_)
 rw [show (Value.agg (List.toArray [.int .i64 nd.st.kind,.int .i64 nd.st.mode,.int .i64 nd.st.owner,.int .i64 nd.st.group,.slice a' nd.data.length q'])) = PN.val ⟨nd,a',q'⟩ from rfl,Z4j] at hS
 repeat (first|refine Ybt ?_|(refine Zae ?_;first|refine Yay ?_)|(refine Zac ?_;first|refine Ydg ?_))
 have hS : St W F [own 5 1 a' q' (bv nd.data),bag X,pts c (chC f b pm dm),mapq (Value.int .i64) pm (PV.vals (setA no ⟨nd,a',q'⟩ P)),mapq (Value.int .i64) dm (DV.vals (delA no D))] _ := hS.took
 have hS := hS.bagAdd (a := a') (cs := bv nd.data) fun _ h => h.row
 exact ⟨rfl,_,fun _ h => List.mem_cons_of_mem _ h,hS.shutCh (Z5w hq (fun _ h => List.mem_cons_of_mem _ h) no nd a' q' (.mem (List.mem_cons_self ..)) hqq)⟩
theorem Z5d {c f : Nat} {b : Int} {T N : Int → Option Nd} {X : List RowD} (no : Int) (W : World) (F : Nat → Prop) (hS : St W F [chR c f b T N X] W) :
  Calls Tryz.prog 108 #[.pointer (some ⟨c,0,none⟩),.int .i64 no] W (Ret fun v w => v = .tuple #[] ∧ St W F [chR c f b T (fun k => if k = no then none else N k) X] w) := by
 obtain ⟨P,D,pm,dm,hq,hS⟩ := hS.openCh
 refine Zab Tryz.func108 rfl Tryz.ntmps108 rfl ?_
 repeat (first|refine Yaa ?_|refine Yaf ?_|refine Yau ?_|refine Yan ?_|refine Yap ?_|refine Yeb ?_)
 have hS := hS.pick [2,0,0,0]
 refine Zgf (mk := Value.int .i64) (L := P.vals) (k := no) rfl rfl rfl rfl hS (fun w hS => ?_)
 rw [Z5p] at hS;repeat (first|refine Yea ?_|refine Yaf ?_|refine Yau ?_|refine Yan ?_|refine Yap ?_|refine Yad ?_|refine Yab ?_)
 have hS := hS.pick [3,0,0,0]
 refine Ze1 (mk := Value.int .i64) (L := D.vals) (k := no) rfl rfl rfl rfl rfl hS (fun w hS => ?_)
 rw [Z4k] at hS;repeat (first|refine Yac ?_|refine Ybt ?_)
 have hS : St W F [bag X,pts c (chC f b pm dm),mapq (Value.int .i64) pm (PV.vals (delA no P)),mapq (Value.int .i64) dm (DV.vals (setA no true D))] _ := hS.took
 exact ⟨rfl,hS.shutCh (Z3m hq no)⟩
def Z7m (p : Nat) (a : Option Addr) (s : List UInt8) (c : Nat) (W : World) (F : Nat → Prop) (r : Option (Mv × List UInt8)) (v : Value) (w : World) : Prop :=
 match r with
 | some (t,l) => ∃ cs X,v = .agg (List.toArray cs) ∧ Mrd (RX X) t cs ∧ ∃ i,i ≤ s.length ∧ s.drop i = l ∧ St W F [bag X,Rdr p a s.length c i 0] w
 | none => ∃ k n a1 n1 c1 a2 n2 c2,v = .agg (List.toArray [.int .i64 k,.int .i64 n,.slice a1 n1 c1,.slice a2 n2 c2]) ∧ ∃ i e,i ≤ s.length ∧ e ≠ 0 ∧ St W F [Rdr p a s.length c i e] w
def Z7r (p : Nat) (a : Option Addr) (s : List UInt8) (c : Nat) (W : World) (F : Nat → Prop) (r : Option (List Mv × List UInt8)) (v : Value) (w : World) : Prop :=
 match r with
 | some (x,l) => ∃ b q rows X,v = .slice b x.length q ∧ RX X b rows.flatten ∧ Mrds (RX X) x rows ∧ ∃ i,i ≤ s.length ∧ s.drop i = l ∧ St W F [bag X,Rdr p a s.length c i 0] w
 | none => ∃ b m q,v = .slice b m q ∧ ∃ i e,i ≤ s.length ∧ e ≠ 0 ∧ St W F [Rdr p a s.length c i e] w
def Zoz (p : Nat) (a : Option Addr) (s : List UInt8) (c : Nat) (f : Nat) : Prop :=
 ∀ (i deep : Nat) (W : World) (F : Nat → Prop),i ≤ s.length → deep ≤ 9 → 2 * (s.length - i) + 1 ≤ f → Lg W F → Ro W F (bytes a s) → St W F [Rdr p a s.length c i 0] W →
  Calls Tryz.prog 115 #[.pointer (some ⟨p,0,none⟩),.int .i64 (deep : Nat)] W (Ret fun v w => Z7m p a s c W F (pvM f deep (s.drop i)) v w)
def Zyo (p : Nat) (a : Option Addr) (s : List UInt8) (c : Nat) (f : Nat) : Prop :=
 ∀ (i deep : Nat) (W : World) (F : Nat → Prop),s[i]? = some 40 → deep ≤ 9 → 2 * (s.length - (i + 1)) + 2 ≤ f → Lg W F → Ro W F (bytes a s) → St W F [Rdr p a s.length c i 0] W →
  Calls Tryz.prog 180 #[.pointer (some ⟨p,0,none⟩),.int .i64 (deep : Nat)] W (Ret fun v w => Z7r p a s c W F (if 8 < deep then none else plM f deep (s.drop (i + 1))) v w)

theorem Zwq (f deep : Nat) : pvM f deep [] = none := by cases f <;> simp [pvM]
theorem Zzu (f deep : Nat) (l : List UInt8) (h : l.head? ≠ some 41) : plM (f + 1) deep l = match pvM f (deep + 1) l with
  | none => none
  | some (t,r') => match plM f deep r' with
   | none => none
   | some (x,r'') => some (t :: x,r'') := by
 cases l with
 | nil => rw [Zwq]; simp [plM]
 | cons c l =>
  rw [plM,if_neg (fun e => h (by rw [e]; rfl))]
  cases pvM f (deep + 1) (c :: l) with
  | none => rfl
  | some q =>
   obtain ⟨t,r'⟩ := q
   simp only
   cases plM f deep r' with
   | none => rfl
   | some q => rfl
def Z31 (top p : Nat) (a : Option Addr) (s : List UInt8) (c : Nat) (deep : Nat) (res : Option (List Mv × List UInt8)) (W : World) (F : Nat → Prop) (z : Nat × Option Addr × Nat × Nat) (w : World) : Prop :=
 (∃ f i x rows X,z.1 = f + 1 ∧ deep ≤ 8 ∧ f ≤ top ∧ z.2.2.1 = x.length ∧ x.length ≤ z.2.2.2 ∧ i ≤ s.length ∧ x.length ≤ i ∧ 2 * (s.length - i) + 2 ≤ f ∧ res = (plM f deep (s.drop i)).map (fun q => (x ++ q.1,q.2)) ∧ Mrds (RX X) x rows ∧
  St W F [own 38 4 z.2.1 z.2.2.2 rows.flatten,bag X,Rdr p a s.length c i 0] w) ∨
 (res = none ∧ ∃ i e,i ≤ s.length ∧ e ≠ 0 ∧ St W F [Rdr p a s.length c i e] w)
def Z7s (p : Nat) (a : Option Addr) (s : List UInt8) (c : Nat) (res : Option (List Mv × List UInt8)) (W : World) (F : Nat → Prop) (z : Option Addr × Nat × Nat) (w : World) : Prop :=
 (∃ i x rows X,z.2.1 = x.length ∧ s[i]? = some 41 ∧ res = some (x,s.drop (i + 1)) ∧ Mrds (RX X) x rows ∧
  St W F [own 38 4 z.1 z.2.2 rows.flatten,bag X,Rdr p a s.length c i 0] w) ∨
 (res = none ∧ ∃ i e,i ≤ s.length ∧ e ≠ 0 ∧ St W F [Rdr p a s.length c i e] w)
theorem Zz3 (p : Nat) (a : Option Addr) (s : List UInt8) (c : Nat) (hl : s.length ≤ 1099511627776) (f : Nat) (hv : ∀ g,g < f → Zoz p a s c g) : Zyo p a s c f := by
 intro i deep W F hi hd hf hG hb hS
 have hil := (List.getElem?_eq_some_iff.1 hi).1
 obtain ⟨res,hres⟩ : ∃ res,res = (if 8 < deep then none else plM f deep (s.drop (i + 1))) := ⟨_,rfl⟩
 rw [← hres];refine Zab Tryz.func180 rfl Tryz.ntmps180 rfl ?_
 repeat (first|refine Yea ?_|refine Yen ?_|refine Yeb ?_|refine Yab ?_)
 obtain ⟨_,hc,hr,hw,hbk⟩ := hS.call [true]
 refine Zaa _ rfl rfl rfl rfl rfl (Zy8 p a s c i 0 40 _ _ hc (hw _ hb) hl) ?_
 rintro _ w ⟨rfl,hS⟩
 replace hS := hbk hS
 clear hc hr hw hbk;rw [show Zfr s i 0 40 = (i + 1,0) by unfold Zfr; rw [if_neg (by simp),if_neg (by simpa using hil),if_pos hi]] at hS
 simp only at hS
 by_cases h8 : 8 < deep
 case' pos =>
  rw [if_pos h8] at hres;repeat (first|refine Yea ?_|refine Yaf ?_|refine Ybx ?_|refine Yev ?_|refine Yab ?_)
  obtain ⟨_,hc,hr,hw,hbk⟩ := hS.call [true]
  refine Zaa _ rfl rfl rfl rfl rfl (Zj6 p a s.length c (i + 1) 0 18 _ _ hc) ?_
  rintro _ w ⟨rfl,hS⟩
  replace hS := hbk hS
  clear hc hr hw hbk;repeat (first|refine Yea ?_|refine Yag ?_|refine Yed ?_|refine Yab ?_)
  have hI : ∃ z0,Z31 f p a s c deep res W F (z0,none,0,0) _ := ⟨0,.inr ⟨hres,_,18,hil,by decide,hS⟩⟩
 case' neg =>
  rw [if_neg h8] at hres;repeat (first|refine Yea ?_|refine Yaf ?_|refine Yag ?_|refine Ybs ?_|refine Ye4 ?_|refine Yab ?_)
  have hI : ∃ z0,Z31 f p a s c deep res W F (z0,none,0,0) _ := ⟨f + 1,.inl ⟨f,i + 1,[],[],[],rfl,by omega,Nat.le_refl _,rfl,Nat.le_refl _,hil,Nat.zero_le _,hf,by rw [hres]; cases plM f deep (s.drop (i + 1)) <;> simp,.nil,(hS.bagNil).own_none _ _ _⟩⟩
 all_goals
  obtain ⟨z0,hI⟩ := hI
  clear hS hres;refine Zbz (α := Option Addr × Nat × Nat) (fun z => [(0,.pointer (some ⟨p,0,none⟩)),(5,.slice z.1 z.2.1 z.2.2)]) (Z7s p a s c res W F) ?_ ?_
  ·refine Zal (α := Nat × Option Addr × Nat × Nat) (fun z => [(0,.pointer (some ⟨p,0,none⟩)),(1,.int .i64 (deep : Nat)),(5,.slice z.2.1 z.2.2.1 z.2.2.2)]) (Z31 f p a s c deep res W F) (fun z => z.1) (z0,none,0,0) ⟨rfl,rfl,rfl,trivial⟩ hI ?_
   clear hI;rintro ⟨m,b,n,q⟩ w (⟨g,j,x,rows,X,hm,hd8,hgf,hn,hnq,hj,hxj,hg,hr,hM,hS⟩ | ⟨hr,j,e,hj,he,hS⟩)
   ·simp only at hm hn hnq hS
    subst hm hn
    have hrl := hM.flat
    have hq41 := is_ p a s c j 0 41
    obtain ⟨g',rfl⟩ : ∃ g',g = g' + 1 := ⟨g - 1,by omega⟩
    by_cases h41 : s[j]? = some 41
    ·simp only [decide_eq_true h41] at hq41
     repeat (first|refine Yer ?_|(refine X_id ?_;first|(refine Zad 179 rfl rfl rfl rfl rfl hS (hq41 _ (hS.rd (List.mem_cons_of_mem _ (List.mem_cons_of_mem _ (List.mem_cons_self ..)))) (hb.rd hS)) ?_;rintro _ _ rfl hS)|refine Yaf ?_|refine Yau ?_|refine Yan ?_|refine Ya8 ?_|refine Ybd ?_|refine Ybi ?_|refine Yap ?_)|refine Yeq ?_|refine Yeg ?_)
     refine Zbp (b,x.length,q) ⟨rfl,rfl,trivial⟩ (.inl ⟨j,x,rows,X,rfl,h41,?_,hM,hS⟩)
     obtain ⟨hjl,hje⟩ := List.getElem?_eq_some_iff.1 h41
     rw [hr,List.drop_eq_getElem_cons hjl,hje,plM,if_pos rfl];simp
    ·simp only [decide_eq_false h41] at hq41
     rw [Zzu g' deep _ (by rw [List.head?_drop]; exact h41)] at hr
     repeat (first|refine Yer ?_|(refine X_id ?_;first|(refine Zad 179 rfl rfl rfl rfl rfl hS (hq41 _ (hS.rd (List.mem_cons_of_mem _ (List.mem_cons_of_mem _ (List.mem_cons_self ..)))) (hb.rd hS)) ?_;rintro _ _ rfl hS)|refine Yaf ?_|refine Yau ?_|refine Yan ?_|refine Ya8 ?_|refine Ybq ?_|refine Ybi ?_|refine Ya0 ?_|refine Yap ?_)|refine Yee ?_|refine Yab ?_)
     obtain ⟨_,hc,_,hw,hbk⟩ := hS.call [false,false,true]
     refine Zaa _ rfl rfl rfl rfl rfl (hv g' (by omega) j (deep + 1) _ _ hj (by omega) (by omega) (hG.mono hw) (hw _ hb) hc) ?_
     rintro v w hV
     cases hp : pvM g' (deep + 1) (s.drop j) with
     | none =>
      rw [hp] at hV hr;obtain ⟨k1,k2,a1,n1,c1,a2,n2,c2,rfl,j',e',hj',he',hS⟩ := hV
      replace hS := hbk hS
      clear hbk hw hc;simp only at hr
      repeat (first|refine Yaa ?_|refine Ybn (fun _ _ hS _ => ?_))
      have hnw := (hS.rd (List.mem_cons_self ..)).own_row
      refine Zar rfl rfl rfl rfl rfl hS hrl hnq hnw rfl (by simp [Value.oneCell']) (by dsimp only; omega) (by simp only [maxLen]; omega) (fun b' q' w hS hq' _ => ?_)
      repeat (first|refine Yea ?_|refine Yag ?_|refine Yaw ?_)
      exact Zaf (z := (g' + 1 + 1,b,x.length,q)) (0,b',x.length + 1,q') ⟨rfl,rfl,rfl,trivial⟩ (.inr ⟨by rw [hr]; rfl,j',e',hj',he',hS.took⟩) (by simp)
     | some u =>
      obtain ⟨t,l⟩ := u
      rw [hp] at hV hr;obtain ⟨cs,Y,rfl,hMt,j',hj',hdl,hS⟩ := hV
      replace hS := hbk hS
      clear hbk hw hc;obtain ⟨a1,c1,a2,c2,rows2,rfl,_⟩ := hMt.lit
      have hlen := (Z4u g').1 _ _ _ _ hp
      rw [← hdl] at hlen hr;simp only [List.length_drop] at hlen
      simp only at hr
      repeat (first|refine Yaa ?_|refine Ybn (fun _ _ hS _ => ?_))
      have hnw := (hS.rd (List.mem_cons_self ..)).own_row
      refine Zar rfl rfl rfl rfl rfl hS hrl hnq hnw rfl (by simp [Value.oneCell']) (by dsimp only; omega) (by simp only [maxLen]; omega) (fun b' q' w hS hq' _ => ?_)
      repeat (first|refine Yea ?_|refine Yag ?_|refine Yaw ?_)
      have hS : St W F [bag X,bag Y,own 38 4 b' q' (rows.flatten ++ [.int .i64 t.kind,.int .i64 t.num,.slice a1 t.txt.length c1,.slice a2 t.lst.length c2]),Rdr p a s.length c j' 0] w := hS.took
      replace hS := hS.bagJoin
      refine Zaf (z := (g' + 1 + 1,b,x.length,q)) (g' + 1,b',x.length + 1,q') ⟨rfl,rfl,rfl,trivial⟩ (.inl ⟨g',j',x ++ [t],rows ++ [[.int .i64 t.kind,.int .i64 t.num,.slice a1 t.txt.length c1,.slice a2 t.lst.length c2]],X ++ Y,rfl,hd8,by omega,by simp,by simpa using hq',hj',by simp; omega,by omega,?_,(hM.mono fun _ _ h => h.left).snoc (hMt.mono fun _ _ h => h.right),?_⟩) (by simp)
      ·rw [hr]
       cases plM g' deep (s.drop j') with
       | none => rfl
       | some q => simp
      ·rw [List.flatten_append]
       simpa using hS.took
   ·repeat (first|refine Yep ?_|(refine X_id ?_;first|refine Yaf ?_|refine Yau ?_|refine Yan ?_|refine Ya1 ?_|refine Ybh ?_|refine Yap ?_)|refine Yeq ?_|refine Yeg ?_)
    exact Zbp (b,n,q) ⟨rfl,rfl,trivial⟩ (.inr ⟨hr,j,e,hj,he,hS⟩)
  ·clear hI
   rintro ⟨b,n,q⟩ w (⟨j,x,rows,X,hn,h41,hr,hM,hS⟩ | ⟨hr,j,e,hj,he,hS⟩)
   ·simp only at hn hS
    subst hn
    have hjl := (List.getElem?_eq_some_iff.1 h41).1
    repeat (first|refine Yaa ?_|refine Yaf ?_|refine Yeb ?_)
    obtain ⟨_,hc,hr,hw,hbk⟩ := hS.call [false,false,true]
    refine Zaa _ rfl rfl rfl rfl rfl (Zy8 p a s c j 0 41 _ _ hc (hw _ hb) hl) ?_
    rintro _ w ⟨rfl,hS⟩
    replace hS := hbk hS
    clear hc hr hw hbk;rw [show Zfr s j 0 41 = (j + 1,0) by unfold Zfr; rw [if_neg (by simp),if_neg (by simpa using hjl),if_pos h41]] at hS
    simp only at hS
    repeat (first|refine Yea ?_|refine Yen ?_|refine Ye1 ?_|refine Yec ?_)
    rw [hr];have hS : St W F [own 38 4 b q rows.flatten,bag X,Rdr p a s.length c (j + 1) 0] _ := hS.took
    exact ⟨b,q,rows,_,rfl,.mem (List.mem_cons_self ..),hM.mono fun _ _ h => h.tail,j + 1,hjl,rfl,hS.bagAdd fun _ h => h.row⟩
   ·repeat (first|refine Yaa ?_|refine Yaf ?_|refine Yeb ?_)
    obtain ⟨_,hc,hr,hw,hbk⟩ := hS.call [true]
    refine Zaa _ rfl rfl rfl rfl rfl (Zy7 p a s.length c j e 41 _ _ hc he) ?_
    rintro _ w ⟨rfl,hS⟩
    replace hS := hbk hS
    clear hc hr hw hbk;repeat (first|refine Yea ?_|refine Yen ?_|refine Ye1 ?_|refine Yec ?_)
    rw [hr];exact ⟨b,n,q,rfl,j,e,hj,he,hS⟩
theorem Zzs (f deep : Nat) (r : List UInt8) : pvM (f + 1) deep (40 :: r) = (if 8 < deep then none else plM f deep r).map fun q => (liM q.1,q.2) := by
 rw [pvM,if_pos rfl]
 split
 ·rfl
 ·cases plM f deep r <;> rfl
theorem Z2o (f deep : Nat) (r : List UInt8) : pvM (f + 1) deep (105 :: r) = (num true 59 r).map fun q => (nuM q.1,q.2) := by
 rw [pvM,if_neg (by decide),if_pos rfl];cases num true 59 r <;> rfl
theorem Z2n (f deep : Nat) (c : UInt8) (r : List UInt8) (h1 : ¬ c = 40) (h2 : ¬ c = 105) : pvM (f + 1) deep (c :: r) =
  (num false 58 (c :: r)).bind fun q => if q.1.toNat ≤ q.2.length then some (txM (q.2.take q.1.toNat),q.2.drop q.1.toNat) else none := by
 rw [pvM,if_neg h1,if_neg h2];cases num false 58 (c :: r) <;> rfl
theorem Zsx (p : Nat) (a : Option Addr) (n c : Nat) (i : Nat) (k : Int) (W : World) (F : Nat → Prop) (hS : St W F [Rdr p a n c i 0] W) :
  Calls Tryz.prog 178 #[.pointer (some ⟨p,0,none⟩),.int .i64 k] W (Ret fun v w => v = .tuple #[] ∧ St W F [Rdr p a n c i k] w) := Zj6 p a n c i 0 k W F hS
theorem Zv2 (p : Nat) (a : Option Addr) (s : List UInt8) (c : Nat) (hsc : s.length ≤ c) (hl : s.length ≤ 1073741824) (f : Nat) (hL : Zyo p a s c f) : Zoz p a s c (f + 1) := by
 intro i deep W F hi hd hf hG hb hS
 have hm := Zi1 p a s.length c i 0
 have q40 := is_ p a s c i 0 40
 have q105 := is_ p a s c i 0 105
 refine Zab Tryz.func115 rfl Tryz.ntmps115 rfl ?_
 by_cases hlt : i < s.length
 ·simp only [decide_eq_true hlt] at hm
  have hdr := List.drop_eq_getElem_cons hlt
  generalize hx0 : s[i] = x at hdr;have hx : s[i]? = some x := by rw [List.getElem?_eq_getElem hlt,hx0]
  rw [hdr];by_cases h40 : x = 40
  ·subst h40
   simp only [decide_eq_true hx] at q40
   have hLi := hL i deep
   rw [Zzs];generalize (if 8 < deep then none else plM f deep (s.drop (i + 1))) = res at hLi ⊢;repeat (first|refine Yea ?_|(refine X_id ?_;first|(refine Zad 177 rfl rfl rfl rfl rfl hS (hm _ (hS.rd (List.mem_cons_of_mem _ (List.mem_cons_self ..)))) ?_;rintro _ _ rfl hS)|(refine Zad 179 rfl rfl rfl rfl rfl hS (q40 _ (hS.rd (List.mem_cons_of_mem _ (List.mem_cons_self ..))) (hb.rd hS)) ?_;rintro _ _ rfl hS)|refine Yaf ?_|refine Yag ?_|refine Yau ?_|refine Yan ?_|refine Ybd ?_|refine Yar (fun _ _ hS _ => ?_))|refine Ye8 ?_|refine Yab ?_)
   obtain ⟨_,hc,_,hw,hbk⟩ := hS.call [false,true]
   refine Zaa _ rfl rfl rfl rfl rfl (hLi _ _ hx hd (by omega) (hG.mono hw) (hw _ hb) hc) ?_
   rintro v w hV
   cases res with
   | none =>
    obtain ⟨b,m,q,rfl,j,e,hj,he,hS⟩ := hV
    replace hS := hbk hS
    clear hbk hw hc;repeat (first|refine Yea ?_|refine Ybl ?_|refine Yao (fun _ hS _ => ?_)|refine Yah ?_|refine Yab ?_|refine Yaq ?_|refine Ya7 ?_|refine Ybw ?_)
    exact ⟨_,_,_,_,_,_,_,_,rfl,j,e,hj,he,hS.took⟩
   | some u =>
    obtain ⟨x,t⟩ := u
    obtain ⟨b,q,rows,X,rfl,hb2,hM,j,hj,hdj,hS⟩ := hV
    replace hS := hbk hS
    clear hbk hw hc;repeat (first|refine Yea ?_|refine Ybl ?_|refine Yao (fun _ hS _ => ?_)|refine Yah ?_|refine Yab ?_|refine Yaq ?_|refine Ya7 ?_|refine Ybw ?_)
    have hS : St W F [bag X,Rdr p a s.length c j 0] _ := hS.took
    exact ⟨_,X,rfl,.mk (k := 2) (n := 0) (b := []) (l := x) (Nat.zero_le _) .nil hb2 hM.1 hM.2,j,hj,hdj,hS⟩
  ·have h40' : ¬ s[i]? = some 40 := fun h => h40 (by rw [hx] at h; exact Option.some.inj h)
   simp only [decide_eq_false h40'] at q40
   by_cases h105 : x = 105
   ·subst h105
    simp only [decide_eq_true hx] at q105
    rw [Z2o];have hN := Zqu p a s c hsc (i + 1) true 59
    generalize num true 59 (s.drop (i + 1)) = res at hN ⊢;repeat (first|refine Yea ?_|(refine X_id ?_;first|(refine Zad 177 rfl rfl rfl rfl rfl hS (hm _ (hS.rd (List.mem_cons_of_mem _ (List.mem_cons_self ..)))) ?_;rintro _ _ rfl hS)|(refine Zad 179 rfl rfl rfl rfl rfl hS (q40 _ (hS.rd (List.mem_cons_of_mem _ (List.mem_cons_self ..))) (hb.rd hS)) ?_;rintro _ _ rfl hS)|(refine Zad 179 rfl rfl rfl rfl rfl hS (q105 _ (hS.rd (List.mem_cons_of_mem _ (List.mem_cons_self ..))) (hb.rd hS)) ?_;rintro _ _ rfl hS)|refine Yaf ?_|refine Yag ?_|refine Yau ?_|refine Yan ?_|refine Ybd ?_|refine Yar (fun _ _ hS _ => ?_))|refine Ye8 ?_|refine Yab ?_)
    obtain ⟨_,hc,hr,hw,hbk⟩ := hS.call [false,true]
    refine Zaa _ rfl rfl rfl rfl rfl (Zy8 p a s c i 0 105 _ _ hc (hw _ hb) (by omega)) ?_
    rintro _ w ⟨rfl,hS⟩
    replace hS := hbk hS
    clear hc hr hw hbk;rw [show Zfr s i 0 105 = (i + 1,0) by unfold Zfr; rw [if_neg (by simp),if_neg (by simpa using hlt),if_pos hx]] at hS
    simp only at hS
    repeat (first|refine Yea ?_|refine Yaf ?_|refine Yeb ?_|refine Yab ?_)
    obtain ⟨_,hc,_,hw,hbk⟩ := hS.call [true,false]
    refine Zaa _ rfl rfl rfl rfl rfl (hN _ _ hc (hw _ hb) (by omega) (by omega) (hG.mono hw)) ?_
    rintro v w hV
    cases res with
    | none =>
     obtain ⟨rfl,j,e,hj,he,hS⟩ := hV
     replace hS := hbk hS
     clear hbk hw hc;repeat (first|refine Yea ?_|refine Ybl ?_|refine Yao (fun _ hS _ => ?_)|refine Yah ?_|refine Yab ?_|refine Yaq ?_|refine Ya7 ?_|refine Ybw ?_)
     exact ⟨_,_,_,_,_,_,_,_,rfl,j,e,hj,he,hS.took⟩
    | some u =>
     obtain ⟨n,t⟩ := u
     obtain ⟨rfl,j,hj,hdj,hS⟩ := hV
     replace hS := hbk hS
     clear hbk hw hc;repeat (first|refine Yea ?_|refine Ybl ?_|refine Yao (fun _ hS _ => ?_)|refine Yah ?_|refine Yab ?_|refine Yaq ?_|refine Ya7 ?_|refine Ybw ?_)
     have hS : St W F [Rdr p a s.length c j 0] _ := hS.took
     exact ⟨_,[],rfl,.mk (k := 0) (n := n) (b := []) (l := []) (rows := []) (Nat.zero_le _) .nil .nil rfl (fun _ _ _ h => by simp at h),j,hj,hdj,hS.bagNil⟩
   ·have h105' : ¬ s[i]? = some 105 := fun h => h105 (by rw [hx] at h; exact Option.some.inj h)
    simp only [decide_eq_false h105'] at q105
    rw [Z2n _ _ _ _ h40 h105,← hdr];have hN := Zqu p a s c hsc i false 58
    have hnn : ∀ n t,num false 58 (s.drop i) = some (n,t) → 0 ≤ n := fun n t h => Zmc h
    generalize num false 58 (s.drop i) = res at hN hnn ⊢;repeat (first|refine Yea ?_|(refine X_id ?_;first|(refine Zad 177 rfl rfl rfl rfl rfl hS (hm _ (hS.rd (List.mem_cons_of_mem _ (List.mem_cons_self ..)))) ?_;rintro _ _ rfl hS)|(refine Zad 179 rfl rfl rfl rfl rfl hS (q40 _ (hS.rd (List.mem_cons_of_mem _ (List.mem_cons_self ..))) (hb.rd hS)) ?_;rintro _ _ rfl hS)|(refine Zad 179 rfl rfl rfl rfl rfl hS (q105 _ (hS.rd (List.mem_cons_of_mem _ (List.mem_cons_self ..))) (hb.rd hS)) ?_;rintro _ _ rfl hS)|refine Yaf ?_|refine Yag ?_|refine Yau ?_|refine Yan ?_|refine Ybd ?_|refine Yar (fun _ _ hS _ => ?_))|refine Ye7 ?_|refine Yab ?_)
    obtain ⟨_,hc,_,hw,hbk⟩ := hS.call [false,true]
    refine Zaa _ rfl rfl rfl rfl rfl (hN _ _ hc (hw _ hb) (by omega) (by omega) (hG.mono hw)) ?_
    rintro v w hV
    cases res with
    | none =>
     obtain ⟨rfl,j,e,hj,he,hS⟩ := hV
     replace hS := hbk hS
     clear hbk hw hc;repeat (first|refine Yea ?_|refine Yag ?_|refine Yae ?_|refine Yab ?_)
     refine Zam (.s 0 (.s 1 (.s 2 (.s 3 (.s 4 (.s 5 (.s 6 (.s 7 (.s 8 (.s 9 (.s 10 (.s 11 (.s 12 (.s 13 (.s 14 (.s 15 (.s 16 (.s 17 (.s 18 (.s 19 (.s 20 .nil))))))))))))))))))))) mixed (by kernel_rfl) rfl ?_
     have hS := hS.drew
     repeat (first|refine Yea ?_|(refine X_id ?_;first|refine Yaf ?_|refine Yau ?_|refine Yan ?_|refine Ybh ?_|refine Ybl ?_|refine Yap ?_|refine Yao (fun _ hS _ => ?_))|refine Yfa ?_|refine Yab ?_|refine Yaw ?_|refine Ybw ?_|(refine Zae ?_;first|refine Yay ?_|refine Ya3 ?_|refine Ybr ?_|refine Ybe ?_|refine Yb7 ?_|refine Zak rfl rfl (fun _ => Zic rfl rfl rfl (by omega)) rfl rfl ?_|refine Ybk ?_|refine Ycc ?_))
     exact ⟨_,_,_,_,_,_,_,_,rfl,j,e,hj,he,hS.took⟩
    | some u =>
     obtain ⟨n,t⟩ := u
     obtain ⟨rfl,j,hj,hdj,hS⟩ := hV
     replace hS := hbk hS
     clear hbk hw hc;obtain ⟨m,rfl⟩ : ∃ m : Nat,n = m := ⟨n.toNat,by have := hnn n t rfl; omega⟩
     have htl : t.length = s.length - j := by rw [← hdj,List.length_drop]
     simp only [Option.bind_some,Int.toNat_natCast]
     by_cases hmt : m ≤ t.length
     ·rw [if_pos hmt]
      repeat (first|refine Yea ?_|refine Yag ?_|refine Yae ?_|refine Yab ?_)
      refine Zam (.s 0 (.s 1 (.s 2 (.s 3 (.s 4 (.s 5 (.s 6 (.s 7 (.s 8 (.s 9 (.s 10 (.s 11 (.s 12 (.s 13 (.s 14 (.s 15 (.s 16 (.s 17 (.s 18 (.s 19 (.s 20 .nil))))))))))))))))))))) mixed (by kernel_rfl) rfl ?_
      have hS := hS.drew
      repeat (first|refine Yea ?_|(refine X_id ?_;first|refine Yaf ?_|refine Yau ?_|refine Yan ?_|refine Ybi ?_|refine Ya0 ?_|refine Yap ?_|refine Yao (fun _ hS _ => ?_))|refine Yfq ?_|refine Yab ?_|(refine Zae ?_;first|refine Yay ?_|refine Ya3 ?_|refine Ybr ?_|refine Ybe ?_|refine Ycb ?_|refine Yd1 ?_|refine Ybk ?_|refine Yb6 ?_|refine Yct ?_|refine Yck ?_|refine Yd0 ?_|refine Zbv rfl rfl rfl rfl (fun _ => Zor rfl rfl rfl (by omega)) rfl rfl ?_|refine Yd5 ?_|refine Ycr ?_))
      have hS := hS.conv (rs' := [Rdr p a s.length c (j + m) 0,pts _ (.cells (List.toArray _) _ _)]) rfl
      refine Zam (.s 0 (.s 1 (.s 2 (.s 3 (.s 4 (.s 5 (.s 6 (.s 7 (.s 8 (.s 9 (.s 10 (.s 11 (.s 12 (.s 13 (.s 14 (.s 15 (.s 16 (.s 17 (.h 18 (.s 19 (.h 20 .nil .no)) .no))))))))))))))))))) mixed (by kernel_rfl) rfl ?_
      have hS := hS.drew
      repeat (first|(refine Zae ?_;first|refine Ya3 ?_|refine Ybr ?_|refine Ybe ?_|refine Ycv ?_|refine Ybk ?_))
      have hsb : Ro W F (bytes (Cr.sub a j 1 c) (t.take m)) := by
       have := hb.subBytes (l := j) (h := j + m) (c := c) (by omega) (by omega)
       rwa [show j + m - j = m by omega,hdj] at this
      refine Zak rfl rfl (fun _ => Zap (l := j) (h := j + m) rfl rfl rfl rfl (.inr ⟨_,_,rfl,by omega,by omega,by omega⟩) (.inr ⟨_,_,rfl,by omega,by omega,by omega⟩)) rfl rfl ?_
      repeat (first|(refine Zae ?_;first|refine Yas ?_))
      refine Zaa _ rfl rfl rfl rfl rfl (Zeo _ _ _ (t.take m) _ (hsb.rd hS) (by simp; omega) (by omega)) ?_
      rintro _ w ⟨a',c',rfl,_,hc',hS'⟩
      replace hS := hS.plus hS';clear hS';repeat (first|refine Yao (fun _ hS _ => ?_)|refine Yah ?_|refine Yab ?_|refine Yaq ?_|refine Ya7 ?_|refine Ybw ?_|(refine Zae ?_;first|refine Yay ?_|refine Yb8 ?_|refine Yas ?_)|(refine Zac ?_;first|refine Yaz ?_))
      have hS : St W F [own 5 1 a' c' (bv (t.take m)),Rdr p a s.length c (j + m) 0] _ := hS.took
      have hS := hS.toBag (a := a') (cs := bv (t.take m)) fun _ h => h.row
      have hmt' : (t.take m).length = j + m - j := by simp; omega
      rw [← hmt'];exact ⟨_,_,rfl,.mk (k := 1) (n := 0) (b := t.take m) (l := []) (rows := []) (by rw [hmt']; omega) (.mem (List.mem_cons_self ..)) .nil rfl (fun _ _ _ h => by simp at h),j + m,by omega,by rw [← hdj,List.drop_drop],hS⟩
     ·rw [if_neg hmt]
      repeat (first|refine Yea ?_|refine Yag ?_|refine Yae ?_|refine Yab ?_)
      refine Zam (.s 0 (.s 1 (.s 2 (.s 3 (.s 4 (.s 5 (.s 6 (.s 7 (.s 8 (.s 9 (.s 10 (.s 11 (.s 12 (.s 13 (.s 14 (.s 15 (.s 16 (.s 17 (.s 18 (.s 19 (.s 20 .nil))))))))))))))))))))) mixed (by kernel_rfl) rfl ?_
      have hS := hS.drew
      repeat (first|refine Yaa ?_|refine Yaf ?_|refine Yad ?_|refine Yaj ?_|refine Yab ?_|(refine Zae ?_;first|refine Yay ?_|refine Ya3 ?_|refine Ybr ?_|refine Ybe ?_|refine Ycb ?_|refine Yd1 ?_|refine Ybk ?_|refine Yb6 ?_|refine Yct ?_|refine Yck ?_|refine Yd0 ?_|refine Zbv rfl rfl rfl rfl (fun _ => Zuh rfl rfl rfl (by omega)) rfl rfl ?_|refine Yd5 ?_|refine Ycr ?_))
      obtain ⟨_,hc,hr,hw,hbk⟩ := hS.call [true,false]
      refine Zaa _ rfl rfl rfl rfl rfl (Zsx p a s.length c j 4 _ _ hc) ?_
      rintro _ w ⟨rfl,hS⟩
      replace hS := hbk hS
      clear hc hr hw hbk;repeat (first|refine Yea ?_|(refine X_id ?_;first|refine Yaf ?_|refine Yau ?_|refine Yan ?_|refine Ybh ?_|refine Ybl ?_|refine Yap ?_|refine Yao (fun _ hS _ => ?_))|refine Yfa ?_|refine Yab ?_|refine Yaw ?_|refine Ybw ?_)
      exact ⟨_,_,_,_,_,_,_,_,rfl,j,4,hj,by decide,hS.took⟩
 ·simp only [decide_eq_false hlt] at hm
  rw [List.drop_of_length_le (by omega)];repeat (first|refine Yea ?_|(refine X_id ?_;first|(refine Zad 177 rfl rfl rfl rfl rfl hS (hm _ (hS.rd (List.mem_cons_of_mem _ (List.mem_cons_self ..)))) ?_;rintro _ _ rfl hS)|refine Yaf ?_|refine Yag ?_|refine Yau ?_|refine Yan ?_|refine Ybq ?_|refine Yar (fun _ _ hS _ => ?_))|refine Ye9 ?_|refine Yab ?_)
  obtain ⟨_,hc,hr,hw,hbk⟩ := hS.call [false,true]
  refine Zaa _ rfl rfl rfl rfl rfl (Zsx p a s.length c i 4 _ _ hc) ?_
  rintro _ w ⟨rfl,hS⟩
  replace hS := hbk hS
  clear hc hr hw hbk;repeat (first|refine Yea ?_|refine Ybl ?_|refine Yao (fun _ hS _ => ?_)|refine Ye1 ?_|refine Yab ?_|refine Yaw ?_|refine Ybw ?_)
  rw [Zwq];exact ⟨_,_,_,_,_,_,_,_,rfl,i,4,hi,by decide,hS.took⟩
theorem Z13 (p : Nat) (a : Option Addr) (s : List UInt8) (c : Nat) (hsc : s.length ≤ c) (hl : s.length ≤ 1073741824) (f : Nat) : Zoz p a s c f := by
 induction f using Nat.strongRecOn with
 | _ f ih =>
  cases f with
  | zero => intro i deep W F hi hd hf; omega
  | succ f => exact Zv2 p a s c hsc hl f (Zz3 p a s c (by omega) f fun g hg => ih g (by omega))
def Z7q (W : World) (r : Option (Mv × List UInt8)) (v : Value) (w : World) : Prop :=
 match r with
 | some (t,l) => ∃ cs X b q,v = .tuple #[.agg (List.toArray cs),.slice b l.length q,.int .i64 0] ∧ Mrd (RX X) t cs ∧ St W noF [bag X] w
 | none => ∃ e,v = .tuple #[.agg (List.toArray [.int .i64 0,.int .i64 0,.slice none 0 0,.slice none 0 0]),.slice none 0 0,.int .i64 e] ∧ e ≠ 0 ∧ St W noF [] w
theorem Z41 (a : Option Addr) (s : List UInt8) (c : Nat) (hsc : s.length ≤ c) (hl : s.length ≤ 131072) (W : World) (hG : Lg W noF) (hb : Ro W noF (bytes a s)) :
  Calls Tryz.prog 69 #[.slice a s.length c] W (Ret fun v w => Z7q W (pvM (2 * s.length + 1) 1 s) v w) := by
 have hS := St.start W
 refine Zab Tryz.func69 rfl Tryz.ntmps69 rfl ?_
 repeat (first|refine Yea ?_|(refine X_id ?_;first|refine Yaf ?_|refine Yag ?_|refine Yav ?_|refine Ybs ?_|refine Ybl ?_|refine Ya5 (fun _ _ hS _ => ?_)|refine Yar (fun _ _ hS _ => ?_))|refine Yem ?_|refine Yab ?_)
 rename_i r _ _;have hv := Z13 r a s c hsc (by omega) (2 * s.length + 1) 0 1
 rw [List.drop_zero] at hv;generalize pvM (2 * s.length + 1) 1 s = res at hv ⊢;obtain ⟨_,hc,_,hw,hbk⟩ := hS.call [true,false]
 refine Zaa _ rfl rfl rfl rfl rfl (hv _ _ (Nat.zero_le _) (by omega) (by omega) (hG.mono hw) (hw _ hb) hc) ?_
 rintro v w hV
 cases res with
 | none =>
  obtain ⟨k,n,a1,n1,c1,a2,n2,c2,rfl,j,e,hj,he,hS⟩ := hV
  replace hS := hbk hS
  clear hbk hw hc;repeat (first|refine Yea ?_|(refine X_id ?_;first|refine Yaf ?_|refine Yau ?_|refine Yan ?_|refine Ybj ?_|refine Yap ?_|refine Yao (fun _ hS _ => ?_)|refine Yar (fun _ _ hS _ => ?_))|refine Yev ?_|refine Yab ?_)
  refine Zam (.s 0 (.s 1 (.s 2 (.s 3 (.s 4 (.h 5 (.s 6 (.s 7 .nil)) .no)))))) mixed (by kernel_rfl) rfl ?_
  have hS := hS.drew
  repeat (first|refine Yao (fun _ hS _ => ?_)|refine Yah ?_|refine Yab ?_|refine Yaq ?_|refine Yco ?_|(refine Zae ?_;first|refine Yay ?_|refine Ya3 ?_|refine Ybm ?_|refine Ybr ?_|refine Ybe ?_|refine Yb8 ?_|refine Ybk ?_|refine Yas ?_)|(refine Zac ?_;first|refine Yaz ?_))
  exact ⟨e,rfl,he,hS.took⟩
 | some u =>
  obtain ⟨t,l⟩ := u
  obtain ⟨cs,X,rfl,hM,j,hj,hdj,hS⟩ := hV
  replace hS := hbk hS
  clear hbk hw hc;obtain ⟨a1,c1,a2,c2,rows2,rfl,_⟩ := hM.lit
  have hsb : Ro W noF (bytes (Cr.sub a j 1 c) l) := by
   have := hb.subBytes (l := j) (h := s.length) (c := c) (by omega) (by omega)
   rwa [hdj,List.take_of_length_le (by rw [← hdj]; simp)] at this
  have hll : l.length = s.length - j := by rw [← hdj,List.length_drop]
  repeat (first|refine Yea ?_|(refine X_id ?_;first|refine Yaf ?_|refine Yau ?_|refine Yan ?_|refine Ya4 ?_|refine Yap ?_|refine Yao (fun _ hS _ => ?_)|refine Yar (fun _ _ hS _ => ?_))|refine Yem ?_|refine Yab ?_)
  refine Zam (.s 0 (.s 1 (.s 2 (.s 3 (.s 4 (.s 5 (.s 6 (.s 7 (.h 8 (.h 9 (.s 10 (.s 11 .nil)) .no) .no))))))))) mixed (by kernel_rfl) rfl ?_
  have hS := hS.drew
  repeat (first|(refine Zae ?_;first|refine Ya3 ?_|refine Ybr ?_|refine Ybe ?_|refine Ybk ?_|refine Yb1 ?_))
  refine Zak rfl rfl (fun _ => Zap (l := j) (h := s.length) rfl rfl rfl rfl (.inl ⟨rfl,rfl⟩) (.inr ⟨_,_,rfl,by omega,by omega,by omega⟩)) rfl rfl ?_
  repeat (first|(refine Zae ?_;first|refine Yas ?_))
  refine Zaa _ rfl rfl rfl rfl rfl (Zeo _ _ _ l _ (hsb.rd hS) hll (by omega)) ?_
  rintro _ w ⟨a',c',rfl,_,_,hS'⟩
  replace hS := hS.plus hS';clear hS';rw [← hll];repeat (first|refine Yao (fun _ hS _ => ?_)|refine Yah ?_|refine Yab ?_|refine Yco ?_|(refine Zae ?_;first|refine Yay ?_|refine Ybm ?_|refine Yas ?_)|(refine Zac ?_;first|refine Yaz ?_))
  exact ⟨_,X,a',c',rfl,hM,hS.took⟩
def Z7u (W : World) (r : Option Mv) (v : Value) (w : World) : Prop :=
 match r with
 | some t => ∃ cs X,v = .tuple #[.agg (List.toArray cs),.int .i64 0] ∧ Mrd (RX X) t cs ∧ St W noF [bag X] w
 | none => ∃ e,v = .tuple #[.agg (List.toArray [.int .i64 0,.int .i64 0,.slice none 0 0,.slice none 0 0]),.int .i64 e] ∧ e ≠ 0 ∧ St W noF [] w
theorem Zj0 (a : Option Addr) (s : List UInt8) (c : Nat) (hsc : s.length ≤ c) (hl : s.length ≤ 131072) (W : World) (hG : Lg W noF) (hb : Ro W noF (bytes a s)) :
  Calls Tryz.prog 29 #[.slice a s.length c] W (Ret fun v w => Z7u W (decM s) v w) := by
 have hS := St.start W
 have hN := Z41 a s c hsc hl
 unfold decM
 generalize pvM (2 * s.length + 1) 1 s = res at hN ⊢;refine Zab Tryz.func29 rfl Tryz.ntmps29 rfl ?_
 repeat (first|refine Yea ?_|refine Yen ?_|refine Yar (fun _ _ hS _ => ?_)|refine Yeb ?_|refine Yab ?_)
 obtain ⟨_,hc,_,hw,hbk⟩ := hS.call [false]
 refine Zaa _ rfl rfl rfl rfl rfl (hN _ ((hG.mono hw).at_ hc) ((hw _ hb).rd hc).ro) ?_
 rintro v w hV
 cases res with
 | none =>
  obtain ⟨e,rfl,he,hS'⟩ := hV
  replace hS := hS.plus hS';clear hbk hw hc;repeat (first|refine Yea ?_|refine Yfo ?_|refine Yao (fun _ hS _ => ?_)|refine Yar (fun _ _ hS _ => ?_)|refine Yfb ?_|refine Yfn ?_)
  exact ⟨e,rfl,he,hS.took⟩
 | some u =>
  obtain ⟨t,l⟩ := u
  obtain ⟨cs,X,b,q,rfl,hM,hS'⟩ := hV
  replace hS := hS.plus hS';clear hbk hw hc;obtain ⟨a1,c1,a2,c2,rows2,rfl,_⟩ := hM.lit
  cases l with
  | nil =>
   simp only [List.length_nil]
   repeat (first|refine Yea ?_|(refine X_id ?_;first|refine Yaf ?_|refine Yag ?_|refine Yat ?_|refine Yav ?_|refine Ya4 ?_|refine Ybs ?_|refine Ybg ?_|refine Yao (fun _ hS _ => ?_)|refine Yar (fun _ _ hS _ => ?_))|refine Yfd ?_|refine Yab ?_|refine Yaw ?_|refine Ybv ?_)
   exact ⟨_,X,rfl,hM,hS.took⟩
  | cons x l =>
   simp only [List.length_cons]
   repeat (first|refine Yea ?_|(refine X_id ?_;first|refine Yaf ?_|refine Yag ?_|refine Yat ?_|refine Yav ?_|refine Ya4 ?_|refine Ybx ?_|refine Ybl ?_|refine Yao (fun _ hS _ => ?_)|refine Yar (fun _ _ hS _ => ?_))|refine Yfc ?_|refine Yfn ?_)
   exact ⟨3,rfl,by decide,hS.took⟩
def nmC (x : Nm) : List Value := [.string (str x.1),.int .i64 x.2]
def nmV (l : List Nm) : List Value := l.flatMap nmC
theorem Zg6 : ∀ l : List Nm,(nmV l).length = l.length * 2
 | [] => rfl
 | x :: l => by
  have := Zg6 l
  simp only [nmV,List.flatMap_cons,List.length_append,nmC,List.length_cons,List.length_nil] at this ⊢; omega
theorem Zhy : ∀ {l : List Nm} {i : Nat} {x : Nm},l[i]? = some x → ((nmV l).drop (i * 2)).take 2 = nmC x
 | [],i,x,h => by simp at h
 | y :: l,0,x,h => by
  obtain rfl : y = x := by simpa using h
  simp [nmV,nmC]
 | y :: l,i + 1,x,h => by
  have := Zhy (l := l) (i := i) (x := x) (by simpa using h)
  rw [nmV,List.flatMap_cons,List.drop_append];simp only [nmC,List.length_cons,List.length_nil]
  rw [show (i + 1) * 2 - (0 + 1 + 1) = i * 2 by omega,List.drop_of_length_le (by simp; omega),List.nil_append]
  exact this
theorem Zkr (l m : List Nm) : nmV (l ++ m) = nmV l ++ nmV m := by simp [nmV]
theorem Zkd (a : Option Addr) (l : List Nm) (c : Nat) (W : World) (hr : Ro W noF (row a (nmV l))) (hl : NmOk l) (hG : Lg W noF) :
  Calls Tryz.prog 88 #[.slice a l.length c] W (Ret fun v w => ∃ b q,v = .slice b (wrD l).length q ∧ (wrD l).length ≤ q ∧ St W noF [own 5 1 b q (bv (wrD l))] w) := by
 have hS := St.start W
 have hlen := hl.1
 have h0 : Ro W noF (row none ([] : List (List Value)).flatten) := Zfq _ _ _
 refine Zab Tryz.func88 rfl Tryz.ntmps88 rfl ?_
 repeat (first|refine Yea ?_|refine Yag ?_|refine Yeb ?_|refine Yab ?_)
 refine Zaa _ rfl rfl rfl rfl rfl (of_M none [] 0 [] _ h0 .nil (by simp [wMs])) ?_
 rintro _ w ⟨b,q,rows,X,rfl,hq,hMs,hS'⟩
 replace hS := hS.plus hS';clear hS';have hrow0 : rows = [] := List.eq_nil_of_length_eq_zero (by simpa using hMs.1)
 subst hrow0
 repeat (first|refine Yea ?_|refine Yaf ?_|refine Yav ?_|refine Yao (fun _ hS _ => ?_)|refine Yar (fun _ _ hS _ => ?_)|refine Yed ?_|refine Yab ?_)
 rename_i b3 _ _ _ _ _;have hS2 : St W noF [own 38 4 b q ([] : List (List Value)).flatten,bag X,pts b3 (.cells (List.toArray [.int .i64 2,.int .i64 0,.slice none 0 0,.slice b 0 q]) 38 (0,0))] _ := hS.took
 clear hS;refine Zal (α := Nat × Option Addr × Nat) (fun z => [(3,.pointer (some ⟨b3,0,none⟩)),(9,.slice a l.length c),(10,.int .i64 (l.length : Nat)),(11,.int .i64 (z.1 : Nat))])
  (fun z w => z.1 ≤ l.length ∧ z.1 ≤ z.2.2 ∧ ∃ rows X,Mrds (RX X) ((l.take z.1).map Zfa) rows ∧ St W noF [own 38 4 z.2.1 z.2.2 rows.flatten,bag X,pts b3 (.cells (List.toArray [.int .i64 2,.int .i64 0,.slice none 0 0,.slice z.2.1 z.1 z.2.2]) 38 (0,0))] w)
  (fun z => l.length - z.1) (0,b,q) ⟨rfl,rfl,rfl,rfl,trivial⟩ ⟨Nat.zero_le _,Nat.zero_le _,[],X,.nil,hS2⟩ ?_
 clear hS2;rintro ⟨i,b,q⟩ w ⟨hi,hiq,rows,X,hMs,hS2⟩
 simp only at hi hiq hMs hS2
 have hrl : rows.flatten.length = i * 4 := by rw [hMs.flat,List.length_map,List.length_take,Nat.min_eq_left hi]
 by_cases hlt : i < l.length
 ·obtain ⟨y,hyx⟩ : ∃ y,y = l[i] := ⟨_,rfl⟩
  have hy0 : l[i]? = some y := by rw [hyx]; exact List.getElem?_eq_getElem hlt
  have hyo := hl.2 y (List.mem_of_getElem? hy0)
  have hxs := Zhy hy0
  unfold nmC at hxs
  obtain ⟨ab,ao,rfl⟩ := hr.start.base (by
   intro e
   rw [e] at hxs;simp at hxs)
  have hS := hS2
  repeat (first|refine Yea ?_|(refine X_id ?_;first|refine Ya2 ?_|refine Ybc ?_|refine Ybp ?_|refine Yao (fun _ hS _ => ?_)|refine Yar (fun _ _ hS _ => ?_))|refine Yee ?_|refine Yab ?_)
  refine Zam (.s 0 (.s 1 (.s 2 (.s 3 (.s 5 (.s 6 (.h 4 (.h 7 (.h 8 (.h 9 (.h 10 (.h 11 (.s 12 (.h 13 .nil .no)) .no) .no) .no) .no) .no) .no))))))) mixed (by kernel_rfl) rfl ?_
  have hS := hS.drew
  repeat (first|(refine Zae ?_;first|refine Ybe ?_|refine Ybk ?_|refine Yas ?_))
  refine Zaa _ rfl rfl rfl rfl rfl (Zl2 y.1 _) ?_
  rintro _ w ⟨b1,c1,Y,rfl,hY,hS'⟩
  replace hS := hS.plus hS';clear hS';repeat (first|(refine Zae ?_;first|refine Yas ?_)|(refine Zac ?_;first|refine Yaz ?_))
  refine Zaa _ rfl rfl rfl rfl rfl (Z27 y.2 _) ?_
  rintro _ w ⟨rfl,hS'⟩
  replace hS := hS.plus hS';clear hS';repeat (first|refine Ybn (fun _ _ hS _ => ?_)|(refine Zae ?_;first|refine Yas ?_)|(refine Zac ?_;first|refine Yaz ?_))
  have hr2 := (hS.rd (List.mem_cons_self ..)).own_row.ro
  have hM2 : Mrds (RoR _ noF) [txM y.1,nuM y.2] [[.int .i64 1,.int .i64 0,.slice b1 y.1.length c1,.slice none 0 0],[.int .i64 0,.int .i64 y.2,.slice none 0 0,.slice none 0 0]] := (Mrds.nil.snoc (hY.ro (hS.rd (r := bag Y) (by simp)).ro)).snoc (Zwv (fun a => Zfq _ _ a) y.2)
  refine Zaa _ rfl rfl rfl rfl rfl (of_M _ [txM y.1,nuM y.2] 2 [[.int .i64 1,.int .i64 0,.slice b1 y.1.length c1,.slice none 0 0],[.int .i64 0,.int .i64 y.2,.slice none 0 0,.slice none 0 0]] _ hr2 hM2 (by simp only [wMs,Zfs,List.length_nil]; omega)) ?_
  rintro _ w ⟨b4,q4,rows4,Z,rfl,_,hZ,hS'⟩
  replace hS := hS.plus hS';clear hS';simp only [List.length_cons,List.length_nil,Nat.zero_add,Nat.reduceAdd]
  repeat (first|refine Ybn (fun _ _ hS _ => ?_)|(refine Zae ?_;first|refine Yas ?_)|(refine Zac ?_;first|refine Yaz ?_))
  have hnw := (hS.rd (List.mem_cons_self ..)).own_row
  refine Zar rfl rfl rfl rfl rfl hS hrl hiq hnw rfl (by simp [Value.oneCell']) (by omega) (by simp only [maxLen]; omega) (fun b' q' w hS hq' _ => ?_)
  repeat (first|refine Yea ?_|refine Yef ?_|refine Yao (fun _ hS _ => ?_)|refine Yad ?_|refine Yei ?_|(refine Zae ?_;first|refine Yay ?_|refine Ybe ?_|refine Yas ?_)|(refine Zac ?_;first|refine Yaz ?_))
  refine Zaf (z := (i,b,q)) (i + 1,b',q') ⟨rfl,rfl,rfl,rfl,trivial⟩ ⟨hlt,hq',rows ++ [[.int .i64 2,.int .i64 0,.slice none 0 0,.slice b4 2 q4]],((b4,rows4.flatten) :: Z) ++ X,?_,?_⟩ (by dsimp only; omega)
  ·rw [List.take_succ_eq_append_getElem hlt,← hyx,List.map_append]
   refine (hMs.mono fun _ _ h => h.right).snoc ?_
   exact Mrd.mk' (l := [txM y.1,nuM y.2]) rfl rfl (Nat.zero_le _) .nil (.mem (List.mem_append_left _ (List.mem_cons_self ..))) hZ.1 fun i y cs h1 h2 => (hZ.2 i y cs h1 h2).mono fun _ _ h => h.tail.left
  ·have hS : St W noF [own 38 4 b4 q4 rows4.flatten,bag Z,bag X,own 38 4 b' q' (rows.flatten ++ [.int .i64 2,.int .i64 0,.slice none 0 0,.slice b4 2 q4]),pts b3 (.cells (List.toArray [.int .i64 2,.int .i64 0,.slice none 0 0,.slice b' (i + 1) q']) 38 (0,0))] _ := hS.took
   have hS := (hS.bagAdd (a := b4) (cs := rows4.flatten) fun _ h => h.row).bagJoin
   rw [List.flatten_append]
   simpa using hS.took (out := [own 38 4 b' q' (rows.flatten ++ [.int .i64 2,.int .i64 0,.slice none 0 0,.slice b4 2 q4]),bag (((b4,rows4.flatten) :: Z) ++ X),pts b3 (.cells (List.toArray [.int .i64 2,.int .i64 0,.slice none 0 0,.slice b' (i + 1) q']) 38 (0,0))])
 ·obtain rfl : i = l.length := by omega
  have hS := hS2
  rw [List.take_length] at hMs;repeat (first|refine Yea ?_|refine Ya6 ?_|refine Ybg ?_|refine Yeq ?_|refine Yeg ?_)
  have hS3 : St W noF [own 38 4 b q rows.flatten,bag X] _ := hS.took
  have hS4 := hS3.bagAdd (a := b) (cs := rows.flatten) fun _ h => h.row
  have hv : Mrd (RX ((b,rows.flatten) :: X)) (dirM l) [.int .i64 2,.int .i64 0,.slice none 0 0,.slice b l.length q] :=
   .mk' rfl (by rw [List.length_map]) (Nat.zero_le _) .nil (.mem (List.mem_cons_self ..)) hMs.1 fun i y cs h1 h2 => (hMs.2 i y cs h1 h2).mono fun _ _ h => h.tail
  refine Zaa _ rfl rfl rfl rfl rfl (Zoe (dirM l) _ _ (hv.ro (hS4.rd (List.mem_cons_self ..)).ro) (Z12 hl) (Zt1 hl.2) (by have := Zrg hl; unfold wrD at this; omega) (hG.at_ hS)) ?_
  rintro _ w (⟨h,_⟩ | ⟨_,b',q',rfl,hq',hS'⟩)
  ·exact absurd (Zt9 l) h
  replace hS := hS.plus hS';clear hS';repeat (first|refine Yea ?_|refine Yeo ?_|refine Ye1 ?_|refine Yec ?_)
  have hS : St W noF [own 5 1 b' q' (bv (encM (dirM l)))] _ := hS.took
  exact ⟨b',q',rfl,hq',hS⟩
theorem Z04 (a : Option Addr) (s : List UInt8) (c : Nat) (W : World) (hb : Ro W noF (bytes a s)) (hsc : s.length ≤ c) (hl : s.length ≤ 512) (hG : Lg W noF) :
  Calls Tryz.prog 153 #[.slice a s.length c] W (Ret fun v w => ∃ b q,v = .slice b (rdD s).length q ∧ St W noF [own 290 2 b q (nmV (rdD s))] w) := by
 have hS := St.start W
 have hD := Zj0 a s c hsc (by omega)
 unfold rdD
 refine Zab Tryz.func153 rfl Tryz.ntmps153 rfl ?_
 repeat (first|refine Yea ?_|refine Yen ?_|refine Yeb ?_|refine Yab ?_)
 refine Zaa _ rfl rfl rfl rfl rfl (hD _ (hG.at_ hS) ((hb.rd hS).ro)) ?_
 rintro v w hV
 cases hd : decM s with
 | none =>
  rw [hd] at hV;obtain ⟨e,rfl,he,hS'⟩ := hV
  replace hS := hS.plus hS';clear hS';repeat (first|refine Yea ?_|(refine X_id ?_;first|refine Yaf ?_|refine Yag ?_|refine Yan ?_|refine Yat ?_|refine Yav ?_|refine Yap ?_|refine Yao (fun _ hS _ => ?_)|refine Yar (fun _ _ hS _ => ?_))|refine Yed ?_|refine Yab ?_)
  refine Zal (α := Unit) (fun _ => [(5,.slice none 0 0),(15,.int .i64 0),(16,.int .i64 0)]) (fun _ w => St W noF [] w) (fun _ => 0) () ⟨rfl,rfl,rfl,trivial⟩ hS.drops ?_
  clear hS;rintro _ w hS
  repeat (first|refine Yea ?_|refine Yfi ?_|refine Yej ?_|refine Yfe ?_)
  exact ⟨_,_,rfl,hS.own_none _ _ _⟩
 | some t =>
  rw [hd] at hV;obtain ⟨cs,X,rfl,hM,hS'⟩ := hV
  replace hS := hS.plus hS';clear hS';obtain ⟨k,n,tb,l⟩ := t
  obtain ⟨a1,c1,a2,c2,rows,rfl,hc1,hb1,hr1,hMs⟩ := hM.lit
  simp only [Mv.kind,Mv.num,Mv.txt,Mv.lst] at *
  have hll := Zmx hd
  simp only [Mv.lst] at hll
  repeat (first|refine Yea ?_|(refine X_id ?_;first|refine Yaf ?_|refine Yag ?_|refine Yan ?_|refine Yat ?_|refine Yav ?_|refine Yap ?_|refine Yao (fun _ hS _ => ?_)|refine Yar (fun _ _ hS _ => ?_))|refine Yed ?_|refine Yab ?_)
  have hS : St W noF [bag X] _ := hS.took
  obtain ⟨F2,hS2,hro,hw,hbk⟩ := hS.call []
  have hX := hro _ (List.mem_cons_self ..)
  rename_i w1 _ _;refine Zal (α := Nat × Option Addr × Nat × Nat) (fun z => [(5,.slice z.2.1 z.2.2.1 z.2.2.2),(14,.slice a2 l.length c2),(15,.int .i64 (l.length : Nat)),(16,.int .i64 (z.1 : Nat))])
   (fun z w => z.1 ≤ l.length ∧ z.2.2.1 = ((l.take z.1).filterMap Zf8).length ∧ z.2.2.1 ≤ z.2.2.2 ∧ St _ F2 [own 290 2 z.2.1 z.2.2.2 (nmV ((l.take z.1).filterMap Zf8))] w) (fun z => l.length - z.1) (0,none,0,0) ⟨rfl,rfl,rfl,rfl,trivial⟩ ⟨Nat.zero_le _,rfl,Nat.le_refl _,hS2.own_none _ _ _⟩ ?_
  clear hS hS2;rintro ⟨i,b,n,q⟩ w ⟨hi,hn,hnq,hS2⟩
  simp only at hi hn hnq hS2
  by_cases hlt : i < l.length
  ·obtain ⟨y,hyx⟩ : ∃ y,y = l[i] := ⟨_,rfl⟩
   have hy0 : l[i]? = some y := by rw [hyx]; exact List.getElem?_eq_getElem hlt
   have htk : l.take (i + 1) = l.take i ++ [y] := by rw [List.take_succ_eq_append_getElem hlt,← hyx]
   obtain ⟨cs,hxs,hy⟩ := hMs.at_ hy0
   obtain ⟨d1,e1,d2,e2,rows2,rfl,_,_,hr2X,hM2⟩ := hy.lit
   have hr := hr1.ro hX
   obtain ⟨ab,ao,rfl⟩ := hr.start.base (by
    intro e
    rw [e] at hxs;simp at hxs)
   have hS := hS2
   by_cases h2 : y.lst.length = 2
   ·obtain ⟨u,v,huv⟩ : ∃ u v,y.lst = [u,v] := by
     match hh : y.lst with
     | [] => rw [hh] at h2; simp at h2
     | [_] => rw [hh] at h2; simp at h2
     | [u,v] => exact ⟨u,v,rfl⟩
     | _ :: _ :: _ :: _ => rw [hh] at h2; simp at h2
    rw [huv] at hM2;obtain ⟨cu,hcu,hu⟩ := hM2.at_ (i := 0) rfl
    obtain ⟨cv,hcv,hv⟩ := hM2.at_ (i := 1) rfl
    obtain ⟨f1,g1,f2,g2,rows3,rfl,_,hbu,_⟩ := hu.lit
    obtain ⟨f3,g3,f4,g4,rows4,rfl,_⟩ := hv.lit
    have hen : Zf8 y = some (u.txt,v.num) := by unfold Zf8; rw [huv]
    repeat (first|refine Yea ?_|(refine X_id ?_;first|refine Yan ?_|refine Yav ?_|refine Ybi ?_|refine Ya2 ?_|refine Ybc ?_|refine Yap ?_|refine Ybp ?_|refine Yao (fun _ hS _ => ?_)|refine Yar (fun _ _ hS _ => ?_))|refine Yee ?_|refine Yab ?_)
    have hr := hr2X.ro hX
    obtain ⟨xb,xo,rfl⟩ := hr.start.base (by
     intro e
     rw [e] at hcu;simp at hcu)
    have hx : rows2.flatten[2]? = some (.slice f1 u.txt.length g1) := by
     have := congrArg (fun l => l[2]?) hcu
     simpa [List.getElem?_take,List.getElem?_drop] using this
    have hr2 := hr
    have hx2 : rows2.flatten[5]? = some (.int .i64 v.num) := by
     have := congrArg (fun l => l[1]?) hcv
     simpa [List.getElem?_take,List.getElem?_drop] using this
    have hb := hbu.ro hX
    refine Zam (.s 0 (.s 1 (.s 2 (.s 3 (.s 4 (.s 5 (.s 6 (.s 7 (.s 8 (.s 9 (.s 10 (.s 11 (.s 12 (.h 13 (.h 14 (.s 15 .nil) .no) .no)))))))))))))) mixed (by kernel_rfl) rfl ?_
    have hS := hS.drew
    repeat (first|refine Ybn (fun _ _ hS _ => ?_)|(refine Zae ?_;first|refine Ya3 ?_|refine Ybe ?_|refine Yc9 ?_|refine Yb8 ?_|refine Yb3 ?_|refine Ybk ?_|refine Yd3 ?_|refine Yas ?_|refine Zat (fun w' => w'.cell? _ = some _) rfl rfl ((hr2.rd hS).cellF (by first|omega|(dsimp only;omega)) hx2) (fun _ hc => Zas rfl rfl hc) rfl rfl ?_|refine Yd4 ?_)|(refine Zac ?_;first|refine Yaz ?_))
    have hnw := (hS.rd (List.mem_cons_self ..)).own_row
    have hni : n ≤ i := by
     have := List.length_filterMap_le Zf8 (l.take i)
     rw [List.length_take] at this; omega
    refine Zar rfl rfl rfl rfl rfl hS (by rw [Zg6,hn]) hnq hnw rfl (by simp [Value.oneCell']) (by dsimp only; omega) (by simp only [maxLen]; omega) (fun b' q' w hS hq' _ => ?_)
    repeat (first|refine Yea ?_|refine Yef ?_|refine Yad ?_|refine Yei ?_|(refine Zae ?_;first|refine Ye6 ?_)|(refine Zac ?_;first|refine Yaz ?_))
    have hre : (l.take (i + 1)).filterMap Zf8 = (l.take i).filterMap Zf8 ++ [(u.txt,v.num)] := by rw [htk,List.filterMap_append]; simp [hen]
    refine Zaf (z := (i,b,n,q)) (i + 1,b',n + 1,q') ⟨rfl,rfl,rfl,rfl,trivial⟩ ⟨hlt,by rw [hre,List.length_append,← hn]; rfl,hq',?_⟩ (by dsimp only; omega)
    rw [hre,Zkr];have hS : St w1 F2 [own 290 2 b' q' (nmV ((l.take i).filterMap Zf8) ++ [.string (str u.txt),.int .i64 v.num])] _ := hS.took
    exact hS
   ·have hen : Zf8 y = none := by
     unfold Zf8
     match hh : y.lst with
     | [] => rfl
     | [_] => rfl
     | [u,v] => rw [hh] at h2; simp at h2
     | _ :: _ :: _ :: _ => rfl
    repeat (first|refine Yea ?_|(refine X_id ?_;first|refine Yaf ?_|refine Yan ?_|refine Yav ?_|refine Ybh ?_|refine Ya2 ?_|refine Ybc ?_|refine Ya0 ?_|refine Yap ?_|refine Ybp ?_|refine Yao (fun _ hS _ => ?_)|refine Yar (fun _ _ hS _ => ?_))|refine Yeh ?_|refine Yei ?_)
    have hre : (l.take (i + 1)).filterMap Zf8 = (l.take i).filterMap Zf8 := by rw [htk,List.filterMap_append]; simp [hen]
    refine Zaf (z := (i,b,n,q)) (i + 1,b,n,q) ⟨rfl,rfl,rfl,rfl,trivial⟩ ⟨hlt,by rw [hre]; exact hn,hnq,?_⟩ (by dsimp only; omega)
    rw [hre];exact hS.took
  ·obtain rfl : i = l.length := by omega
   have hS := hS2
   rw [List.take_length] at hn hS;repeat (first|refine Yea ?_|refine Yfi ?_|refine Yej ?_|refine Yfe ?_)
   replace hS := hbk hS
   subst hn
   have hS : St W noF [own 290 2 b q (nmV (l.filterMap Zf8))] _ := hS.took
   exact ⟨b,q,rfl,hS⟩
def ixN (s : List UInt8) : List Nm → Int
 | [] => -1
 | x :: l => if x.1 = s then 0 else if ixN s l < 0 then -1 else ixN s l + 1
theorem Z1j (s : List UInt8) : ∀ l : List Nm,-1 ≤ ixN s l
 | [] => by simp [ixN]
 | x :: l => by
  have := Z1j s l
  unfold ixN; split
  ·omega
  ·split <;> omega
theorem Zw4 {s : List UInt8} : ∀ {l : List Nm} {k : Nat} {x : Nm},l[k]? = some x → x.1 = s → (∀ j,j < k → ∀ y,l[j]? = some y → y.1 ≠ s) → ixN s l = k
 | y :: l,0,x,h,hx,_ => by
  obtain rfl : y = x := by simpa using h
  simp [ixN,hx]
 | y :: l,k + 1,x,h,hx,hb => by
  have h0 := hb 0 (by omega) y rfl
  have ih := Zw4 (l := l) (k := k) (by simpa using h) hx fun j hj z hz => hb (j + 1) (by omega) z (by simpa using hz)
  rw [ixN,if_neg h0,ih,if_neg (by omega)]; omega
theorem Zn4 {s : List UInt8} : ∀ {l : List Nm},(∀ x ∈ l,x.1 ≠ s) → ixN s l = -1
 | [],_ => rfl
 | y :: l,h => by
  rw [ixN,if_neg (h y (List.mem_cons_self ..)),Zn4 fun x hx => h x (List.mem_cons_of_mem _ hx)]; rfl
def strV (p : List (List UInt8)) : List Value := p.map fun s => .string (str s)
theorem Zeu (p : List (List UInt8)) : (strV p).length = p.length := by simp [strV]
theorem Znk {p : List (List UInt8)} {i : Nat} {s : List UInt8} (h : p[i]? = some s) : (strV p)[i]? = some (.string (str s)) := by simp [strV,h]
def Zcd (p : List (List UInt8)) : Prop := p.length ≤ 8 ∧ ∀ s ∈ p,nameOk s
instance (p : List (List UInt8)) : Decidable (Zcd p) := by unfold Zcd; infer_instance

theorem Z1l (x : Nm) (b : Nat) (s : List UInt8) (T : TypeId) (fz : Nat × Nat) (W : World) (hb : Rd W (pts b (.cells (List.toArray [.string (str s)]) T fz))) :
  Calls Tryz.prog 163 #[.agg (List.toArray [.string (str x.1),.int .i64 x.2]),.pointer (some ⟨b,0,none⟩)] W (Ret fun v w => v = .bool (decide (x.1 = s)) ∧ St W noF [] w) := by
 have hc := hb.ro
 have hS := St.start W
 by_cases h : x.1 = s
 ·refine Zab Tryz.func163 rfl Tryz.ntmps163 rfl ?_
  repeat (first|refine Yea ?_|(refine X_id ?_;first|refine Yag ?_|refine Yan ?_|refine Yap ?_|refine Ya5 (fun _ _ hS _ => ?_)|refine Yci ?_|refine Yca ?_)|refine Ye1 ?_|refine Yec ?_)
  refine ⟨?_,hS.drops⟩
  simp [h]
 ·have h' : str x.1 ≠ str s := fun e => h (Zwc e)
  refine Zab Tryz.func163 rfl Tryz.ntmps163 rfl ?_
  repeat (first|refine Yea ?_|(refine X_id ?_;first|refine Yag ?_|refine Yan ?_|refine Yap ?_|refine Ya5 (fun _ _ hS _ => ?_)|refine Ycd ?_|refine Yca ?_)|refine Ye1 ?_|refine Yec ?_)
  refine ⟨?_,hS.drops⟩
  simp [h,h']
theorem Z0b (a : Option Addr) (l : List Nm) (c b : Nat) (s : List UInt8) (T : TypeId) (fz : Nat × Nat) (W : World) (hr0 : Rd W (row a (nmV l))) (hb : Rd W (pts b (.cells (List.toArray [.string (str s)]) T fz))) (hl : l.length ≤ 1048576) :
  Calls Tryz.prog 162 #[.slice a l.length c,.func (.func 163) #[] #[.pointer (some ⟨b,0,none⟩)]] W (Ret fun v w => v = .int .i64 (ixN s l) ∧ St W noF [] w) := by
 have hbo := hb.ro
 have hr1 := hr0.ro
 have hS := St.start W
 refine Zab Tryz.func162 rfl Tryz.ntmps162 rfl ?_
 repeat (first|refine Yea ?_|refine Yfj ?_|refine Yed ?_|refine Yab ?_)
 refine Zal (α := Nat) (fun k => [(0,.slice a l.length c),(1,.func (.func 163) #[] #[.pointer (some ⟨b,0,none⟩)]),(7,.int .i64 (l.length : Nat)),(8,.int .i64 (k : Nat))])
  (fun k w => k ≤ l.length ∧ (∀ j,j < k → ∀ y,l[j]? = some y → y.1 ≠ s) ∧ St W noF [] w) (fun k => l.length - k) 0 ⟨rfl,rfl,rfl,rfl,trivial⟩ ⟨Nat.zero_le _,fun j hj => absurd hj (by omega),hS⟩ ?_
 clear hS;rintro k w ⟨hk,hne,hS2⟩
 by_cases hlt : k < l.length
 ·have hx0 : l[k]? = some l[k] := List.getElem?_eq_getElem (by omega)
  generalize l[k] = x at hx0;have hr := hr1
  have hxs : ((nmV l).drop (k * 2)).take 2 = [.string (str x.1),.int .i64 x.2] := Zhy hx0
  obtain ⟨xb,xo,rfl⟩ := (hr.rd hS2).base (by intro e; rw [e] at hxs; simp at hxs)
  have hS := hS2
  by_cases hq : x.1 = s
  ·have hc1 := fun w h => Z1l x b s T fz w h
   rw [decide_eq_true hq] at hc1;repeat (first|refine Yea ?_|refine Yfr ?_|refine Yee ?_|refine Yab ?_)
   refine Zb4 (first := []) (captured := [.pointer (some ⟨b,0,none⟩)]) rfl rfl rfl rfl rfl (hc1 _ (hbo.rd hS)) ?_
   rintro _ w' ⟨rfl,hS'⟩
   replace hS := hS.plus hS';clear hS';repeat (first|refine Yea ?_|refine Yen ?_|refine Yek ?_|refine Yey ?_)
   exact ⟨by rw [Zw4 hx0 hq hne],hS⟩
  ·have hc1 := fun w h => Z1l x b s T fz w h
   rw [decide_eq_false hq] at hc1;repeat (first|refine Yea ?_|refine Yfr ?_|refine Yee ?_|refine Yab ?_)
   refine Zb4 (first := []) (captured := [.pointer (some ⟨b,0,none⟩)]) rfl rfl rfl rfl rfl (hc1 _ (hbo.rd hS)) ?_
   rintro _ w' ⟨rfl,hS'⟩
   replace hS := hS.plus hS';clear hS';repeat (first|refine Yea ?_|refine Yef ?_|refine Yet ?_|refine Yei ?_)
   refine Zaf (k + 1) ⟨rfl,rfl,rfl,rfl,trivial⟩ ⟨by omega,fun j hj y hy => ?_,hS⟩ (by omega)
   by_cases hjk : j = k
   ·subst hjk; rw [hx0] at hy; cases hy; exact hq
   ·exact hne j (by omega) y hy
 ·obtain rfl : k = l.length := by omega
  have hS := hS2
  repeat (first|refine Yea ?_|refine Yag ?_|refine Ya6 ?_|refine Yej ?_|refine Yfe ?_)
  rw [Zn4 fun x hx => (by
   obtain ⟨j,hj,he⟩ := List.mem_iff_getElem.1 hx
   exact hne j hj x (by rw [List.getElem?_eq_getElem hj,he]))]
  exact ⟨rfl,hS⟩
theorem Z5j (a : Option Addr) (l : List Nm) (c : Nat) (s : List UInt8) (W : World) (hr : Rd W (row a (nmV l))) (hl : l.length ≤ 1048576) :
  Calls Tryz.prog 100 #[.slice a l.length c,.string (str s)] W (Ret fun v w => v = .int .i64 (ixN s l) ∧ St W noF [] w) := by
 have hro := hr.ro
 have hS := St.start W
 refine Zab Tryz.func100 rfl Tryz.ntmps100 rfl ?_
 repeat (first|refine Yea ?_|refine Yaf ?_|refine Yag ?_|refine Ycg ?_|refine Ya5 (fun _ _ hS _ => ?_)|refine Yeb ?_|refine Yab ?_)
 refine Zaa _ rfl rfl rfl rfl rfl (Z0b a l c _ s _ _ _ (hro.rd hS) (hS.rd (List.mem_cons_self ..)) hl) ?_
 rintro _ w' ⟨rfl,hS'⟩
 replace hS := hS.plus hS';clear hS';repeat (first|refine Yea ?_|refine Yag ?_|refine Yah ?_|refine Yec ?_)
 exact ⟨rfl,hS.drops⟩
theorem Zwk (s : List UInt8) (W : World) : Calls Tryz.prog 217 #[.string (str s)] W (Ret fun v w => v = .bool (!decide (nameOk s)) ∧ St W noF [] w) := by
 have hS := St.start W
 have hn := fun W => Zwy s W
 refine Zab Tryz.func217 rfl Tryz.ntmps217 rfl ?_
 repeat (first|refine Yea ?_|(refine X_id ?_;first|(refine Zad 42 rfl rfl rfl rfl rfl hS (hn _) ?_;rintro _ _ rfl hS)|refine Yaf ?_|refine Yag ?_|refine X_yl (Z6c rfl rfl) rfl rfl ?_)|refine Ye1 ?_|refine Yec ?_)
 exact ⟨by simp,hS⟩
theorem Z0a (a : Option Addr) (p : List (List UInt8)) (c : Nat) (W : World) (hr0 : Rd W (row a (strV p))) (hl : p.length ≤ 1048576) :
  Calls Tryz.prog 104 #[.slice a p.length c,.func (.func 217) #[] #[]] W (Ret fun v w => (∃ z : Int,v = .int .i64 z ∧ (z < 0 ↔ ∀ s ∈ p,nameOk s)) ∧ St W noF [] w) := by
 have hr1 := hr0.ro
 have hS := St.start W
 refine Zab Tryz.func104 rfl Tryz.ntmps104 rfl ?_
 repeat (first|refine Yea ?_|refine Yfj ?_|refine Yed ?_|refine Yab ?_)
 refine Zal (α := Nat) (fun k => [(0,.slice a p.length c),(1,.func (.func 217) #[] #[]),(7,.int .i64 (p.length : Nat)),(8,.int .i64 (k : Nat))])
  (fun k w => k ≤ p.length ∧ (∀ j,j < k → ∀ y,p[j]? = some y → nameOk y) ∧ St W noF [] w) (fun k => p.length - k) 0 ⟨rfl,rfl,rfl,rfl,trivial⟩ ⟨Nat.zero_le _,fun j hj => absurd hj (by omega),hS⟩ ?_
 clear hS;rintro k w ⟨hk,hne,hS2⟩
 by_cases hlt : k < p.length
 ·have hx0 : p[k]? = some p[k] := List.getElem?_eq_getElem (by omega)
  generalize p[k] = x at hx0;have hr := hr1
  have hx := Znk hx0
  obtain ⟨xb,xo,rfl⟩ := (hr.rd hS2).base (by intro e; rw [e] at hx; simp at hx)
  have hS := hS2
  by_cases hq : nameOk x
  ·have hc1 := fun w => Zwk x w
   rw [decide_eq_true hq] at hc1;repeat (first|refine Yea ?_|refine Yfk ?_|refine Yee ?_|refine Yab ?_)
   refine Zb4 (first := []) (captured := []) rfl rfl rfl rfl rfl (hc1 _) ?_
   rintro _ w' ⟨rfl,hS'⟩
   replace hS := hS.plus hS';clear hS';repeat (first|refine Yea ?_|refine Yef ?_|refine Yet ?_|refine Yei ?_)
   refine Zaf (k + 1) ⟨rfl,rfl,rfl,rfl,trivial⟩ ⟨by omega,fun j hj y hy => ?_,hS⟩ (by omega)
   by_cases hjk : j = k
   ·subst hjk; rw [hx0] at hy; cases hy; exact hq
   ·exact hne j (by omega) y hy
  ·have hc1 := fun w => Zwk x w
   rw [decide_eq_false hq] at hc1;repeat (first|refine Yea ?_|refine Yfk ?_|refine Yee ?_|refine Yab ?_)
   refine Zb4 (first := []) (captured := []) rfl rfl rfl rfl rfl (hc1 _) ?_
   rintro _ w' ⟨rfl,hS'⟩
   replace hS := hS.plus hS';clear hS';repeat (first|refine Yea ?_|refine Yen ?_|refine Yek ?_|refine Yey ?_)
   exact ⟨⟨(k : Nat),rfl,⟨fun h => absurd h (by omega),fun h => absurd (h x (List.mem_of_getElem? hx0)) hq⟩⟩,hS⟩
 ·obtain rfl : k = p.length := by omega
  have hS := hS2
  repeat (first|refine Yea ?_|refine Yag ?_|refine Ya6 ?_|refine Yej ?_|refine Yfe ?_)
  refine ⟨⟨-1,rfl,⟨fun _ s hs => ?_,fun _ => by omega⟩⟩,hS⟩
  obtain ⟨j,hj,he⟩ := List.mem_iff_getElem.1 hs
  exact hne j hj s (by rw [List.getElem?_eq_getElem hj,he])
theorem Zwr (a : Option Addr) (p : List (List UInt8)) (c : Nat) (W : World) (hr : Rd W (row a (strV p))) (hl : p.length ≤ 1048576) :
  Calls Tryz.prog 158 #[.slice a p.length c] W (Ret fun v w => v = .bool (decide (Zcd p)) ∧ St W noF [] w) := by
 have hro := hr.ro
 have hS := St.start W
 by_cases h8 : p.length ≤ 8
 ·have hcf : ∀ W,Rd W (row a (strV p)) → Calls Tryz.prog 53 #[.slice a p.length c,.func (.func 217) #[] #[]] W (Ret fun v w => v = .bool (!decide (Zcd p)) ∧ St W noF [] w) := by
   intro W hr
   have hS := St.start W
   refine Zab Tryz.func53 rfl Tryz.ntmps53 rfl ?_
   repeat (first|refine Yea ?_|refine Yen ?_|refine Yeb ?_|refine Yab ?_)
   refine Zaa _ rfl rfl rfl rfl rfl (Z0a a p c _ hr hl) ?_
   rintro _ w ⟨⟨z,rfl,hz⟩,hS'⟩
   replace hS := hS.plus hS';clear hS';by_cases h : z < 0
   ·repeat (first|refine Yea ?_|refine Yag ?_|refine Yce ?_|refine Yah ?_|refine Yec ?_)
    have : Zcd p := ⟨h8,hz.1 h⟩
    exact ⟨by simp [this],hS⟩
   ·repeat (first|refine Yea ?_|refine Yag ?_|refine Yb9 ?_|refine Yah ?_|refine Yec ?_)
    have : ¬ Zcd p := fun q => h (hz.2 q.2)
    exact ⟨by simp [this],hS⟩
  refine Zab Tryz.func158 rfl Tryz.ntmps158 rfl ?_
  repeat (first|refine Yer ?_|(refine X_id ?_;first|(refine Zad 53 rfl rfl rfl rfl rfl hS (hcf _ (hro.rd hS)) ?_;rintro _ _ rfl hS)|refine Yaf ?_|refine Yag ?_|refine Ya8 ?_|refine X_yl (Zop rfl rfl) rfl rfl ?_|refine Yav ?_|refine Ydk ?_)|refine Ye1 ?_|refine Yec ?_)
  refine ⟨by simp,hS⟩
 ·have : ¬ Zcd p := fun q => h8 q.1
  refine Zab Tryz.func158 rfl Tryz.ntmps158 rfl ?_
  repeat (first|refine Yep ?_|(refine X_id ?_;first|refine Yaf ?_|refine Yag ?_|refine Ya1 ?_|refine Yav ?_|refine X_yl (Zoq rfl rfl rfl (by omega)) rfl rfl ?_)|refine Ye1 ?_|refine Yec ?_)
  exact ⟨by simp [this],hS⟩
end Cr
namespace Cr
open Go
set_option maxHeartbeats 64000000

inductive Tn where
 | mk (nm : List UInt8) (no : Int) (st : StatM) (data : List UInt8) (kids : List Tn)
def Tn.nm : Tn → List UInt8 | .mk nm _ _ _ _ => nm
def Tn.no : Tn → Int | .mk _ no _ _ _ => no
def Tn.st : Tn → StatM | .mk _ _ st _ _ => st
def Tn.data : Tn → List UInt8 | .mk _ _ _ data _ => data
def Tn.kids : Tn → List Tn | .mk _ _ _ _ kids => kids
def Tn.names (t : Tn) : List Nm := t.kids.map fun k => (k.nm,k.no)
def Tn.nd (t : Tn) : Nd := ⟨t.st,if t.st.kind = 1 then wrD t.names else t.data⟩
mutual
def subT : Tn → List Tn
 | .mk nm no st data kids => .mk nm no st data kids :: subL kids
def subL : List Tn → List Tn
 | [] => []
 | k :: l => subT k ++ subL l
end
mutual
def hgtT : Tn → Nat
 | .mk _ _ _ _ kids => hgtL kids
def hgtL : List Tn → Nat
 | [] => 0
 | k :: l => max (1 + hgtT k) (hgtL l)
end
def ent (u : Tn) : Int × Nd := (u.no,u.nd)
def Zck (t : Tn) : List (Int × Nd) := (subT t).map ent
def Zdc (l : List Tn) : List (Int × Nd) := (subL l).map ent
def Nt (t : Tn) (no : Int) : Option Nd := getA no (Zck t)
def ltS (a b : List UInt8) : Prop := Lib.compareBytes a b < 0
instance (a b : List UInt8) : Decidable (ltS a b) := by unfold ltS; infer_instance
theorem Zxu : ∀ a : List UInt8,Lib.compareBytes a a = 0
 | [] => rfl
 | x :: a => by rw [Lib.compareBytes,if_neg (UInt8.lt_irrefl x),if_neg (UInt8.lt_irrefl x),Zxu a]
theorem Z5y : ∀ {a b : List UInt8},Lib.compareBytes a b = 0 → a = b
 | [],[],_ => rfl
 | [],_ :: _,h => by rw [Lib.compareBytes] at h; cases h
 | _ :: _,[],h => by rw [Lib.compareBytes] at h; cases h
 | x :: a,y :: b,h => by
  rw [Lib.compareBytes] at h
  split at h
  ·cases h
  ·rename_i h1
   split at h
   ·cases h
   ·rename_i h2
    rw [Z5y h,UInt8.le_antisymm (UInt8.not_lt.1 h2) (UInt8.not_lt.1 h1)]
theorem Zub : ∀ {a b c : List UInt8},Lib.compareBytes a b < 0 → Lib.compareBytes b c < 0 → Lib.compareBytes a c < 0
 | [],[],c,h,_ => by rw [Lib.compareBytes] at h; cases h
 | [],_ :: _,[],_,h => by rw [Lib.compareBytes] at h; cases h
 | [],_ :: _,_ :: _,_,_ => by rw [Lib.compareBytes]; decide
 | _ :: _,[],c,h,_ => by rw [Lib.compareBytes] at h; cases h
 | _ :: _,_ :: _,[],_,h => by rw [Lib.compareBytes] at h; cases h
 | x :: a,y :: b,z :: c,h1,h2 => by
  rw [Lib.compareBytes] at h1 h2 ⊢;by_cases hxy : x < y
  ·by_cases hyz : y < z
   ·rw [if_pos (UInt8.lt_trans hxy hyz)]; decide
   ·rw [if_neg hyz] at h2
    by_cases hzy : z < y
    ·rw [if_pos hzy] at h2; cases h2
    ·have : y = z := UInt8.le_antisymm (UInt8.not_lt.1 hzy) (UInt8.not_lt.1 hyz)
     subst this
     rw [if_pos hxy]; decide
  ·rw [if_neg hxy] at h1
   by_cases hyx : y < x
   ·rw [if_pos hyx] at h1; cases h1
   ·rw [if_neg hyx] at h1
    have : x = y := UInt8.le_antisymm (UInt8.not_lt.1 hyx) (UInt8.not_lt.1 hxy)
    subst this
    by_cases hyz : x < z
    ·rw [if_pos hyz]; decide
    ·rw [if_neg hyz] at h2 ⊢
     by_cases hzy : z < x
     ·rw [if_pos hzy] at h2; cases h2
     ·rw [if_neg hzy] at h2 ⊢
      exact Zub h1 h2
theorem Z44 {a b : List UInt8} (h : ltS a b) : a ≠ b := fun e => by subst e; unfold ltS at h; rw [Zxu] at h; cases h
theorem Zp1 {a b c : List UInt8} (h : ltS a b) (h2 : ltS b c) : ltS a c := Zub h h2
theorem Zz1 {a b : List UInt8} (h : ¬ ltS a b) (hne : a ≠ b) : ltS b a := by
 unfold ltS at *
 have key : ∀ a b : List UInt8,0 < Lib.compareBytes a b → Lib.compareBytes b a < 0 := by
  intro a
  induction a with
  | nil => intro b h; cases b <;> (rw [Lib.compareBytes] at h; cases h)
  | cons x a ih =>
   intro b h
   cases b with
   | nil => rw [Lib.compareBytes]; decide
   | cons y b =>
    rw [Lib.compareBytes] at h ⊢;by_cases hxy : x < y
    ·rw [if_pos hxy] at h; cases h
    ·rw [if_neg hxy] at h
     by_cases hyx : y < x
     ·rw [if_pos hyx]; decide
     ·rw [if_neg hyx] at h ⊢
      rw [if_neg hxy];exact ih b h
 have h0 : Lib.compareBytes a b ≠ 0 := fun e => hne (Z5y e)
 exact key a b (by omega)
structure TnOk (n : Nat) (u : Tn) : Prop where
 chk : u.st.check = 0
 low : 0 ≤ u.no ∧ u.no < n
 dir : u.st.kind = 1 → u.data = [] ∧ (wrD u.names).length ≤ 512
 rise : u.kids.Pairwise fun a b => ltS a.nm b.nm
 nmk : ∀ k ∈ u.kids,nameOk k.nm
 leaf : u.st.kind ≠ 1 → u.kids = [] ∧ u.data.length ≤ 512
structure TreeOk (n : Nat) (t : Tn) : Prop where
 node : ∀ u ∈ subT t,TnOk n u
 nodup : ((Zck t).map (·.1)).Nodup
 root : t.no = 0 ∧ t.st.kind = 1
 high : hgtT t ≤ 8
 small : n ≤ 1000000
theorem Zd8 (t : Tn) : subT t = t :: subL t.kids := by cases t; rw [subT]; rfl
theorem Zev (t : Tn) : t ∈ subT t := by rw [Zd8]; exact List.mem_cons_self ..
theorem mem_subL : ∀ {l : List Tn} {u : Tn},u ∈ subL l ↔ ∃ k ∈ l,u ∈ subT k
 | [],u => by simp [subL]
 | k :: l,u => by
  rw [subL,List.mem_append,mem_subL];simp
theorem Zr2 {t k : Tn} (h : k ∈ t.kids) : k ∈ subT t := by
 rw [Zd8]; exact List.mem_cons_of_mem _ (mem_subL.2 ⟨k,h,Zev k⟩)
theorem Zfv {t k u : Tn} (h : k ∈ t.kids) (hu : u ∈ subT k) : u ∈ subT t := by
 rw [Zd8]; exact List.mem_cons_of_mem _ (mem_subL.2 ⟨k,h,hu⟩)
mutual
theorem Zd6 : ∀ {t u v : Tn},u ∈ subT t → v ∈ subT u → v ∈ subT t
 | .mk nm no st data kids,u,v,hu,hv => by
  rw [subT] at hu ⊢;rcases List.mem_cons.1 hu with rfl | hu
  ·rw [subT] at hv; exact hv
  ·exact List.mem_cons_of_mem _ (Zl3 hu hv)
theorem Zl3 : ∀ {l : List Tn} {u v : Tn},u ∈ subL l → v ∈ subT u → v ∈ subL l
 | [],u,v,hu,_ => by rw [subL] at hu; cases hu
 | k :: l,u,v,hu,hv => by
  rw [subL] at hu ⊢;rcases List.mem_append.1 hu with hu | hu
  ·exact List.mem_append_left _ (Zd6 hu hv)
  ·exact List.mem_append_right _ (Zl3 hu hv)
end
theorem Zju : ∀ {l : List Tn} {k : Tn},k ∈ l → 1 + hgtT k ≤ hgtL l
 | x :: l,k,h => by
  rw [hgtL];rcases List.mem_cons.1 h with rfl | h
  ·exact Nat.le_max_left _ _
  ·exact Nat.le_trans (Zju h) (Nat.le_max_right _ _)
theorem Ze2 (t : Tn) : hgtT t = hgtL t.kids := by cases t; rw [hgtT]; rfl
def kidT (s : List UInt8) (l : List Tn) : Option Tn := l.find? fun k => decide (k.nm = s)
def Zcz (u : Tn) (s : List UInt8) : Except Int Tn :=
 if u.st.kind = 1 then match kidT s u.kids with
  | some k => .ok k
  | none => .error 7
 else .error 17
def goT : Tn → List (List UInt8) → Except Int Tn
 | t,[] => .ok t
 | t,s :: p => match Zcz t s with
  | .ok k => goT k p
  | .error e => .error e
theorem Zts {s : List UInt8} {l : List Tn} {k : Tn} (h : kidT s l = some k) : k ∈ l ∧ k.nm = s :=
 ⟨List.mem_of_find?_eq_some h,by simpa using List.find?_some h⟩
theorem Zjw {u k : Tn} {s : List UInt8} (h : Zcz u s = .ok k) : u.st.kind = 1 ∧ k ∈ u.kids ∧ k.nm = s := by
 unfold Zcz at h
 split at h
 ·rename_i hk
  split at h
  ·rename_i x hx
   injection h with h
   subst h
   exact ⟨hk,Zts hx⟩
  ·cases h
 ·cases h
theorem Zqc {u : Tn} {s : List UInt8} {e : Int} (h : Zcz u s = .error e) : e = 7 ∨ e = 17 := by
 unfold Zcz at h
 split at h
 ·split at h
  ·cases h
  ·injection h with h; exact .inl h.symm
 ·injection h with h; exact .inr h.symm
theorem Zc4 : ∀ {p : List (List UInt8)} {t u : Tn},goT t p = .ok u → u ∈ subT t
 | [],t,u,h => by
  rw [goT] at h; injection h with h; subst h; exact Zev t
 | s :: p,t,u,h => by
  rw [goT] at h;cases hs : Zcz t s with
  | error e => rw [hs] at h; cases h
  | ok k => rw [hs] at h; exact Zfv (Zjw hs).2.1 (Zc4 h)
theorem Zjx : ∀ (p : List (List UInt8)) (t : Tn) (s : List UInt8),goT t (p ++ [s]) = match goT t p with | .ok u => Zcz u s | .error e => .error e
 | [],t,s => by
  show goT t [s] = Zcz t s
  rw [goT];cases Zcz t s <;> simp [goT]
 | x :: p,t,s => by
  rw [List.cons_append,goT,goT];cases Zcz t x with
  | error e => rfl
  | ok k => exact Zjx p k s
theorem Zw6 : ∀ (p q : List (List UInt8)) (t : Tn),goT t (p ++ q) = match goT t p with | .ok u => goT u q | .error e => .error e
 | [],q,t => by rw [List.nil_append,goT]
 | x :: p,q,t => by
  rw [List.cons_append,goT,goT];cases Zcz t x with
  | error e => rfl
  | ok k => exact Zw6 p q k

section
variable {n : Nat} {t : Tn}
theorem TreeOk.at_ (h : TreeOk n t) {u : Tn} (hu : u ∈ subT t) : Nt t u.no = some u.nd :=
 Zeh h.nodup (List.mem_map.2 ⟨u,hu,rfl⟩)
theorem TreeOk.names (h : TreeOk n t) {u : Tn} (hu : u ∈ subT t) : NmOk u.names ∨ 512 < (wrD u.names).length := by
 by_cases hl : u.names.length ≤ 1024
 ·refine .inl ⟨hl,fun x hx => ?_⟩
  obtain ⟨k,hk,rfl⟩ := List.mem_map.1 hx
  have h1 := (h.node u hu).nmk k hk
  have hks : k ∈ subT t := by
   clear hx h1 hl;exact Zd6 hu (Zr2 hk)
  have h2 := (h.node k hks).low
  have h3 := h.small
  have := h1.2.1
  exact ⟨show k.nm.length ≤ 64 by omega,h2.1,show k.no ≤ 1000000 by omega⟩
 ·refine .inr ?_
  have hge := Zjz (m := 7) (l := u.names.map Zfa) fun x hx => by
   obtain ⟨y,_,rfl⟩ := List.mem_map.1 hx
   exact Zk7 y 6
  rw [wrD,dirM,Zbl];simp only [List.length_map,List.length_cons,List.length_append,List.length_nil] at hge ⊢
  omega
theorem TreeOk.rd (h : TreeOk n t) {u : Tn} (hu : u ∈ subT t) (hk : u.st.kind = 1) : NmOk u.names ∧ rdD u.nd.data = u.names := by
 have hok : NmOk u.names := (h.names hu).resolve_right (by have := ((h.node u hu).dir hk).2; omega)
 refine ⟨hok,?_⟩
 show rdD (if u.st.kind = 1 then wrD u.names else u.data) = _
 rw [if_pos hk];exact Zwo hok.2
theorem TreeOk.len (h : TreeOk n t) {u : Tn} (hu : u ∈ subT t) : u.nd.data.length ≤ 512 := by
 show (if u.st.kind = 1 then wrD u.names else u.data).length ≤ 512
 by_cases hk : u.st.kind = 1
 ·rw [if_pos hk]; exact ((h.node u hu).dir hk).2
 ·rw [if_neg hk]; exact ((h.node u hu).leaf hk).2
def Zw5 (N : Int → Option Nd) (nd : Nd) (s : List UInt8) : Except Int (Int × Nd) :=
 if nd.st.kind = 1 then match (rdD nd.data).find? (fun x => decide (x.1 = s)) with
  | some x => match N x.2 with
   | some y => .ok (x.2,y)
   | none => .error 0
  | none => .error 7
 else .error 17
theorem Zmf (u : Tn) (s : List UInt8) : (u.names.find? fun x => decide (x.1 = s)) = (kidT s u.kids).map fun k => (k.nm,k.no) := by
 unfold Tn.names kidT
 rw [List.find?_map]; rfl
theorem TreeOk.into (h : TreeOk n t) {u : Tn} (hu : u ∈ subT t) (s : List UInt8) : Zw5 (Nt t) u.nd s = match Zcz u s with
  | .ok k => .ok (k.no,k.nd)
  | .error e => .error e := by
 unfold Zw5 Zcz
 rw [show u.nd.st = u.st from rfl];by_cases hk : u.st.kind = 1
 ·rw [if_pos hk,if_pos hk,(h.rd hu hk).2,Zmf]
  cases hq : kidT s u.kids with
  | none => rfl
  | some k =>
   have := h.at_ (Zd6 hu (Zr2 (Zts hq).1))
   simp only [Option.map_some,this]
 ·rw [if_neg hk,if_neg hk]
end
end Cr
namespace Cr
open Go Go.Proofs
set_option maxRecDepth 100000
set_option maxHeartbeats 64000000
attribute [local irreducible] Calls

abbrev plV (no : Int) (nd : Nd) (a : Option Addr) (q : Nat) : List Value := [.int .i64 no,.int .i64 nd.st.kind,.int .i64 nd.st.mode,.int .i64 nd.st.owner,.int .i64 nd.st.group,.slice a nd.data.length q]
abbrev pl0 : List Value := [.int .i64 0,.int .i64 0,.int .i64 0,.int .i64 0,.int .i64 0,.slice none 0 0]
theorem Ztl (no : Int) (nd : Nd) (a : Option Addr) (q : Nat) (W : World) (hb : Rd W (bytes a nd.data)) (hq : nd.data.length ≤ q) (hl : nd.data.length ≤ 512) (hG : Lg W noF) :
  Calls Tryz.prog 106 #[.agg (List.toArray [.int .i64 no,.int .i64 nd.st.kind,.int .i64 nd.st.mode,.int .i64 nd.st.owner,.int .i64 nd.st.group,.slice a nd.data.length q])] W (Ret fun v w =>
   (nd.st.kind = 1 ∧ ∃ b c,v = .tuple #[.slice b (rdD nd.data).length c,.int .i64 0] ∧ St W noF [own 290 2 b c (nmV (rdD nd.data))] w) ∨ (nd.st.kind ≠ 1 ∧ v = .tuple #[.slice none 0 0,.int .i64 17] ∧ St W noF [] w)) := by
 have hS := St.start W
 have hbo := hb.ro
 by_cases hk : nd.st.kind = 1
 ·refine Zab Tryz.func106 rfl Tryz.ntmps106 rfl ?_
  repeat (first|refine Yea ?_|(refine X_id ?_;first|refine Yag ?_|refine Yan ?_|refine Yby ?_|refine Ya4 ?_|refine Yap ?_|refine Ya5 (fun _ _ hS _ => ?_))|refine Yem ?_|refine Yab ?_)
  refine Zaa _ rfl rfl rfl rfl rfl (Z04 a nd.data q _ (hbo.rd hS).ro hq hl (hG.at_ hS)) ?_
  rintro _ w ⟨b,c,rfl,hS'⟩
  replace hS := hS.plus hS';clear hS';repeat (first|refine Yea ?_|refine Yag ?_|refine Yah ?_|refine Yex ?_)
  exact .inl ⟨hk,b,c,rfl,hS.took⟩
 ·refine Zab Tryz.func106 rfl Tryz.ntmps106 rfl ?_
  repeat (first|refine Yea ?_|(refine X_id ?_;first|refine Yag ?_|refine Yan ?_|refine Yby ?_|refine Ybj ?_|refine Yap ?_|refine Ya5 (fun _ _ hS _ => ?_))|refine Yek ?_|refine Yew ?_)
  exact .inr ⟨hk,rfl,hS.drops⟩
def Z6g (X : List RowD) (r : Except Int (Int × Nd)) (v : Value) : Prop := match r with
 | .error e => v = .tuple #[.agg (List.toArray pl0),.int .i64 e] ∧ e ≠ 0
 | .ok x => ∃ a q,v = .tuple #[.agg (List.toArray (plV x.1 x.2 a q)),.int .i64 0] ∧ x.2.data.length ≤ q ∧ RX X a (bv x.2.data)
theorem Zru (b : List UInt8) : 2 * (rdD b).length ≤ b.length := by
 unfold rdD
 cases h : decM b with
 | none => simp
 | some v =>
  have h1 := Zmx h
  have h2 := List.length_filterMap_le Zf8 v.lst
  simp only [rdV]; omega
theorem Rd.rd {w : World} {r : Res} {W : World} {F : Nat → Prop} {rs : List Res} (H : Rd w r) (_ : St W F rs w) : Rd w r := H
theorem Zh0 {s : List UInt8} : ∀ {l : List Nm},(ixN s l < 0 ∧ l.find? (fun x => decide (x.1 = s)) = none) ∨ ∃ (k : Nat) (x : Nm),ixN s l = k ∧ l[k]? = some x ∧ l.find? (fun x => decide (x.1 = s)) = some x
 | [] => .inl ⟨by simp [ixN],rfl⟩
 | y :: l => by
  unfold ixN
  by_cases h : y.1 = s
  ·exact .inr ⟨0,y,by rw [if_pos h]; rfl,rfl,by simp [h]⟩
  ·rw [if_neg h]
   rcases Zh0 (s := s) (l := l) with ⟨h1,h2⟩ | ⟨k,x,h1,h2,h3⟩
   ·exact .inl ⟨by rw [if_pos h1]; decide,by simp [h,h2]⟩
   ·exact .inr ⟨k + 1,x,by rw [h1,if_neg (by omega)]; omega,by simpa using h2,by simp [h,h3]⟩
section
variable {c f tp n : Nat} {b : Int} {T N : Int → Option Nd} {X : List RowD}
theorem Z49 (no : Int) (nd : Nd) (a : Option Addr) (q : Nat) (s : List UInt8) (W : World) (F : Nat → Prop) (hT : TreeRo W F f tp n b T) (hG : Lg W F) (ha : RX X a (bv nd.data)) (hq : nd.data.length ≤ q) (hl : nd.data.length ≤ 512) (hN : Zw5 N nd s ≠ .error 0) (hS : St W F [chR c f b T N X] W) :
  Calls Tryz.prog 105 #[.pointer (some ⟨c,0,none⟩),.agg (List.toArray [.int .i64 no,.int .i64 nd.st.kind,.int .i64 nd.st.mode,.int .i64 nd.st.owner,.int .i64 nd.st.group,.slice a nd.data.length q]),.string (str s)] W (Ret fun v w => ∃ X',(∀ x ∈ X,x ∈ X') ∧ St W F [chR c f b T N X'] w ∧ Z6g X' (Zw5 N nd s) v) := by
 unfold Zw5 at hN ⊢
 refine Zab Tryz.func105 rfl Tryz.ntmps105 rfl ?_
 repeat (first|refine Yea ?_|refine Yag ?_|refine Ybg ?_|refine Ya5 (fun _ _ hS _ => ?_)|refine Yar (fun _ _ hS _ => ?_)|refine Yeb ?_|refine Yab ?_)
 refine Zaa _ rfl rfl rfl rfl rfl (Ztl no nd a q _ (ha.rd (hS.rd (r := chR c f b T N X) (by simp)).ch) hq hl (hG.at_ hS)) ?_
 rintro _ w (⟨hk,nb,nc,rfl,hS'⟩ | ⟨hk,rfl,hS'⟩)
 ·replace hS := hS.plus hS'
  clear hS';rw [if_pos hk] at hN ⊢;have hlen := Zru nd.data
  repeat (first|refine Yea ?_|refine Yff ?_|refine Yem ?_|refine Yab ?_)
  refine Zaa _ rfl rfl rfl rfl rfl (Z5j nb (rdD nd.data) nc s _ (hS.rd (r := own 290 2 nb nc (nmV (rdD nd.data))) (by simp)).own_row (by omega)) ?_
  rintro _ w ⟨rfl,hS'⟩
  replace hS := hS.plus hS';clear hS';rcases Zh0 (s := s) (l := rdD nd.data) with ⟨h1,h2⟩ | ⟨k,x,h1,h2,h3⟩
  ·rw [h2]
   repeat (first|refine Yea ?_|(refine X_id ?_;first|refine Yaf ?_|refine Yag ?_|refine Ya2 ?_|refine Ybl ?_|refine Yao (fun _ hS _ => ?_))|refine Yek ?_|refine Yab ?_|refine Yaq ?_|refine Ybv ?_)
   exact ⟨X,fun _ h => h,hS.took,rfl,by decide⟩
  ·rw [h1]
   rw [h3] at hN ⊢;simp only at hN ⊢
   cases hNx : N x.2 with
   | none => rw [hNx] at hN; exact absurd rfl hN
   | some y =>
    have hkl := (List.getElem?_eq_some_iff.1 h2).1
    have hx : (nmV (rdD nd.data))[k * 2 + 1]? = some (.int .i64 x.2) := by
     have := congrArg (fun l => l[1]?) (Zhy h2)
     simpa [List.getElem?_take,List.getElem?_drop,nmC] using this
    obtain ⟨xb,xo,rfl⟩ := ((hS.rd (r := own 290 2 nb nc (nmV (rdD nd.data))) (by simp)).own_row).base (by intro e; rw [e] at hx; simp at hx)
    have hr := (hS.rd (r := own 290 2 (some ⟨xb,xo,none⟩) nc (nmV (rdD nd.data))) (by simp)).own_row
    repeat (first|refine Yea ?_|(refine X_id ?_;first|refine Yaf ?_|refine Yag ?_|refine Yby ?_|refine Ya6 ?_|refine Ybc ?_|refine X_yl (Zas rfl rfl ((hr.rd hS).cellF (by first|omega|(dsimp only;omega)) hx)) rfl rfl ?_)|refine Yem ?_|refine Yab ?_)
    clear hr;obtain ⟨_,hc,_,hw,hbk⟩ := hS.call [false,false,false,true]
    refine Zaa _ rfl rfl rfl rfl rfl (Z2y x.2 _ _ (hT.mono hw) hc) ?_
    rintro v w ⟨X',hX',hS,y',a',q',rfl,hy⟩
    replace hS := hbk hS
    clear hbk hw hc;obtain ⟨rfl,hq',hrow⟩ := hy y hNx
    rw [hNx];simp only [Option.isSome_some]
    repeat (first|refine Yea ?_|refine Yeo ?_|refine Yao (fun _ hS _ => ?_)|refine Yar (fun _ _ hS _ => ?_)|refine Yae ?_|refine Yab ?_)
    refine Zam (.s 0 (.s 1 (.s 2 (.s 3 (.s 4 (.s 5 (.s 6 (.h 7 (.s 8 .nil) .no)))))))) mixed (by kernel_rfl) rfl ?_
    have hS := hS.drew
    have hr := (hS.rd (r := own 290 2 (some ⟨xb,xo,none⟩) nc (nmV (rdD nd.data))) (by simp)).own_row
    repeat (first|refine Yao (fun _ hS _ => ?_)|refine Yah ?_|refine Yab ?_|refine Ybv ?_|(refine Zae ?_;first|refine Yay ?_|refine Ya3 ?_|refine Ybm ?_|refine Yc9 ?_|refine Yb8 ?_|refine Yb3 ?_|refine Yb1 ?_|refine Yas ?_|refine Zat (fun w' => w'.cell? _ = some _) rfl rfl ((hr.rd hS).cellF (by first|omega|(dsimp only;omega)) hx) (fun _ hc => Zas rfl rfl hc) rfl rfl ?_)|(refine Zac ?_;first|refine Ydg ?_))
    exact ⟨X',hX',hS.took,a',q',rfl,hq',hrow⟩
 ·replace hS := hS.plus hS'
  clear hS';rw [if_neg hk];repeat (first|refine Yea ?_|refine Yfo ?_|refine Yao (fun _ hS _ => ?_)|refine Yek ?_|refine Yab ?_|refine Yaq ?_|refine Ybv ?_)
  exact ⟨X,fun _ h => h,hS.took,rfl,by decide⟩
end
end Cr
