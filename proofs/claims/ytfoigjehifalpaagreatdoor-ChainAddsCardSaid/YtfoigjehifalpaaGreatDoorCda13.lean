/-
  Layer 9 (table): a table of a change; what stands at a path; a key's value.
  Layer 9 (table): the directories that are still to be made.
  Layer 9 (table): one more node of a value's way; what was made is taken away again.
  Layer 9 (table): what was made is taken away again.
  Layer 9 (table): Put.
  The laws' helper Same: are bytes the same?
  Layer 7 (inode): Open: a node of its sector's bytes; does a block stand in two Zhh?
  Layer 7 (inode): Format; what nil tells; Same.
  Layer 7 (inode): does a block stand in two Zhh? Open.
  Layer 7 (inode): Open of a log that holds a table.
  Layer 7 (inode): Used: the keys of a map,gone through by a range over a function,and sorted.
  Layer 8 (tree): a tree is opened on a table that is new.
  Layer 8 (tree): a tree is opened on a table that is new.
  The laws' helpers To of layers 6 and 7.
  The laws' helper known of layer 7: the chapter's examples.
  Layer 8 (tree): a change is begun; a fresh disk,log,table,tree.
-/
import Derived.Test.YtfoigjehifalpaaGreatDoorCda12
import Derived.Test.YtfoigjehifalpaaGreatDoorCda3
import Derived.Test.YtfoigjehifalpaaGreatDoorCda5
import Derived.Test.YtfoigjehifalpaaGreatDoorCda8
import Derived.Test.YtfoigjehifalpaaGreatDoorCda9
import Derived.Sort.Row
import Derived.Sort.Grow
namespace Cr
open Go Go.Proofs
set_option maxRecDepth 100000
set_option maxHeartbeats 8000000
attribute [local irreducible] Calls

def dbN : List UInt8 := [100,98]
def Zb7 (t : Tn) (p : List (List UInt8)) : Int := match getR t p with
 | .error _ => -1
 | .ok nd => nd.st.kind
def Zth (t : Tn) (name key : List UInt8) : Except Int Mv :=
 if nameOk key then match getR t [dbN,name,key] with
  | .error _ => .error 7
  | .ok nd => if nd.st.kind = 0 then match decM nd.data with
   | some v => .ok v
   | none => .error 3
   else .error 3
 else .error 10
abbrev zMv : List Value := [.int .i64 0,.int .i64 0,.slice none 0 0,.slice none 0 0]
def Z2b (X : List RowD) (r : Except Int Mv) (v : Value) : Prop := match r with
 | .error e => e ≠ 0 ∧ v = .tuple #[.agg (List.toArray zMv),.int .i64 e]
 | .ok x => ∃ cs,v = .tuple #[.agg (List.toArray cs),.int .i64 0] ∧ Mrd (RX X) x cs
theorem Zyx {n : Nat} {t : Tn} (ht : TreeOk n t) {p : List (List UInt8)} {x : Nd} (h : getR t p = .ok x) : x.data.length ≤ 512 := by
 unfold getR at h
 cases hg : goR t p with
 | error e => rw [hg] at h; cases h
 | ok y =>
  rw [hg] at h
  simp only [Except.ok.injEq] at h
  obtain ⟨_,u,_,hu,rfl⟩ := Zo6 ht hg
  subst h
  have := ht.len hu
  show (if u.nd.st.kind = 1 then [] else u.nd.data).length ≤ 512
  split
  ·simp
  ·exact this
section
variable {c f tp n : Nat} {b : Int} {T : Int → Option Nd} {t : Tn} {X : List RowD}
theorem Zoe (ht : TreeOk n t) (pa : Option Addr) (p : List (List UInt8)) (pc : Nat) (W : World) (F : Nat → Prop) (hT : TreeRo W F f tp n b T) (hG : Lg W F) (hp : Ro W F (row pa (strV p))) (hpl : p.length ≤ 1048576) (hS : St W F [chR c f b T (Nt t) X] W) :
  Calls Tryz.prog 49 #[.pointer (some ⟨c,0,none⟩),.slice pa p.length pc] W (Ret fun v w => v = .int .i64 (Zb7 t p) ∧ ∃ X',(∀ x ∈ X,x ∈ X') ∧ St W F [chR c f b T (Nt t) X'] w) := by
 unfold Zb7
 refine Zab Tryz.func49 rfl Tryz.ntmps49 rfl ?_
 repeat (first|refine Yd7 ?_|refine Yel ?_|refine Yd8 ?_|refine Yab ?_)
 obtain ⟨_,hc,_,hw,hbk⟩ := hS.call [true]
 refine Zaa _ rfl rfl rfl rfl rfl (get_ ht pa p pc _ _ (hT.mono hw) (hG.mono hw) (hw _ hp) hpl hc) ?_
 rintro v w ⟨X',hX',hS,hv⟩
 replace hS := hbk hS
 clear hbk hw hc
 cases hg : getR t p with
 | error e =>
  rw [hg] at hv
  obtain ⟨rfl,he⟩ := hv
  repeat (first|refine Yd7 ?_|refine Yfd ?_|refine Yao (fun _ hS _ => ?_)|refine Yar (fun _ _ hS _ => ?_)|refine Yeo ?_|refine Yep ?_)
  exact ⟨rfl,X',hX',hS.took⟩
 | ok x =>
  rw [hg] at hv
  obtain ⟨a',q',rfl,hq',hrow⟩ := hv
  repeat (first|refine Yd7 ?_|(refine X_id ?_;first|refine Yaf ?_|refine Yag ?_|refine Yan ?_|refine Yay ?_|refine Yba ?_|refine Yap ?_|refine Yao (fun _ hS _ => ?_)|refine Yar (fun _ _ hS _ => ?_))|refine Yew ?_|refine Yd9 ?_)
  exact ⟨rfl,X',hX',hS.took⟩
theorem Z40 (ht : TreeOk n t) (tb : Nat) (name key : List UInt8) (W : World) (F : Nat → Prop) (hT : TreeRo W F f tp n b T) (hG : Lg W F) (htb : Ro W F (pts tb (.cells (List.toArray [.pointer (some ⟨c,0,none⟩),.string (str name)]) 114 (0,0)))) (hS : St W F [chR c f b T (Nt t) X] W) :
  Calls Tryz.prog 13 #[.pointer (some ⟨tb,0,none⟩),.string (str key)] W (Ret fun v w => ∃ X',(∀ x ∈ X,x ∈ X') ∧ St W F [chR c f b T (Nt t) X'] w ∧ Z2b X' (Zth t name key) v) := by
 have hN := fun W => Zye key W
 unfold Zth
 have hc := htb
 by_cases hk : nameOk key
 case neg =>
  rw [if_neg hk]
  simp only [decide_eq_false hk] at hN
  refine Zab Tryz.func13 rfl Tryz.ntmps13 rfl ?_
  repeat (first|refine Yd7 ?_|(refine X_id ?_;first|(refine Zae 43 rfl rfl rfl rfl rfl hS (hN _) ?_;rintro _ _ rfl hS)|refine Yaf ?_|refine Yag ?_|refine Ybr ?_|refine Ybn ?_|refine Ybq ?_|refine Yao (fun _ hS _ => ?_)|refine Yar (fun _ _ hS _ => ?_))|refine Yer ?_|refine Yab ?_|refine Yaq ?_|refine Ya8 ?_|refine Yby ?_)
  exact ⟨X,fun _ h => h,hS.took,by decide,rfl⟩
 rw [if_pos hk]
 simp only [decide_eq_true hk] at hN
 clear hk
 refine Zab Tryz.func13 rfl Tryz.ntmps13 rfl ?_
 repeat (first|refine Yd7 ?_|(refine X_id ?_;first|(refine Zae 43 rfl rfl rfl rfl rfl hS (hN _) ?_;rintro _ _ rfl hS)|refine Yaf ?_|refine Yag ?_|refine Ybc ?_|refine Ybq ?_|refine Yar (fun _ _ hS _ => ?_))|refine Yez ?_|refine Yef ?_)
 rename_i b4 _ _ _ _
 refine Zk2 (α := Nat × Nd × Option Addr × Nat × Int) (fun z => [(4,.pointer (some ⟨b4,0,none⟩)),(6,.pointer (some ⟨z.1,0,none⟩)),(7,.int .i64 z.2.2.2.2)])
  (fun z w => ∃ X',(∀ x ∈ X,x ∈ X') ∧ St W F [chR c f b T (Nt t) X',pts z.1 (.cells (List.toArray [.int .i64 z.2.1.st.kind,.int .i64 z.2.1.st.mode,.int .i64 z.2.1.st.owner,.int .i64 z.2.1.st.group,.slice z.2.2.1 z.2.1.data.length z.2.2.2.1]) 84 (0,0)),pts b4 (.cells (List.toArray zMv) 38 (0,0))] w ∧
   match getR t [dbN,name,key] with
   | .error e => z.2.2.2.2 = e ∧ e ≠ 0
   | .ok x => z.2.2.2.2 = 0 ∧ z.2.1 = x ∧ x.data.length ≤ z.2.2.2.1 ∧ RX X' z.2.2.1 (bv x.data)) ?_ ?_
 ·skip
  refine Zao (.s 0 (.s 1 (.s 2 (.s 3 (.s 4 (.s 5 (.s 6 (.s 7 (.s 8 (.h 9 (.h 10 (.s 11 (.s 12 (.s 13 (.h 14 (.h 15 (.s 16 .nil) .no) .no)))) (.h 14 (.h 10 (.s 11 (.s 12 (.s 13 (.h 15 (.s 16 .nil) .no)))) .no) .no)) (.h 14 (.h 9 (.h 10 (.s 11 (.s 12 (.s 13 (.h 15 (.s 16 .nil) .no)))) .no) .no) .no))))))))))) mixed (by kernel_rfl) rfl ?_
  have hS := hS.drew
  repeat' (first|refine Zep ?_ ?_|refine Yar (fun _ _ hS _ => ?_)|refine Ybf (fun _ _ hS _ => ?_)|(refine Zad ?_;first|refine Ya2 ?_|refine Ybp ?_|refine Ybe ?_|refine Yau ?_|refine Ycy ?_)|(refine Zac ?_;first|refine Ya0 ?_))
  ·obtain ⟨_,hcc,hr1,hw,hbk⟩ := hS.call [false,false,true]
   refine Zaa _ rfl rfl rfl rfl rfl (get_ ht _ [dbN,name,key] _ _ _ (hT.mono hw) (hG.mono hw) (hr1 _ (List.mem_cons_self ..)).own_row (by simp) hcc) ?_
   rintro v w ⟨X',hX',hS,hv⟩
   replace hS := hbk hS
   clear hbk hw hcc hr1
   cases hg : getR t [dbN,name,key] with
   | error e =>
    rw [hg] at hv
    obtain ⟨rfl,he⟩ := hv
    repeat (first|refine Yao (fun _ hS _ => ?_)|refine Yar (fun _ _ hS _ => ?_)|(refine Zad ?_;first|refine Yaz ?_|refine Ya2 ?_|refine Ybk ?_|refine Yct ?_|refine Yau ?_)|(refine Zac ?_;first|refine Ya0 ?_))
    exact Zbg ⟨_,⟨⟨0,0,0,0⟩,[]⟩,none,0,e⟩ ⟨rfl,rfl,rfl,trivial⟩ ⟨X',hX',hS.took,⟨rfl,he⟩⟩
   | ok x =>
    rw [hg] at hv
    obtain ⟨a',q',rfl,hq',hrow⟩ := hv
    repeat (first|refine Yao (fun _ hS _ => ?_)|refine Yar (fun _ _ hS _ => ?_)|(refine Zad ?_;first|refine Yaz ?_|refine Ya2 ?_|refine Ybk ?_|refine Yct ?_|refine Yau ?_)|(refine Zac ?_;first|refine Ya0 ?_))
    exact Zbg ⟨_,x,a',q',0⟩ ⟨rfl,rfl,rfl,trivial⟩ ⟨X',hX',hS.took,⟨rfl,rfl,hq',hrow⟩⟩
  ·obtain ⟨_,hcc,hr1,hw,hbk⟩ := hS.call [false,false,false,true]
   refine Zaa _ rfl rfl rfl rfl rfl (get_ ht _ [dbN,name,key] _ _ _ (hT.mono hw) (hG.mono hw) (hr1 _ (List.mem_cons_of_mem _ (List.mem_cons_self ..))).own_row (by simp) hcc) ?_
   rintro v w ⟨X',hX',hS,hv⟩
   replace hS := hbk hS
   clear hbk hw hcc hr1
   cases hg : getR t [dbN,name,key] with
   | error e =>
    rw [hg] at hv
    obtain ⟨rfl,he⟩ := hv
    repeat (first|refine Yao (fun _ hS _ => ?_)|(refine Zad ?_;first|refine Yaz ?_|refine Ya2 ?_|refine Ybk ?_|refine Yct ?_|refine Yau ?_)|(refine Zac ?_;first|refine Ya0 ?_))
    exact Zbg ⟨_,⟨⟨0,0,0,0⟩,[]⟩,none,0,e⟩ ⟨rfl,rfl,rfl,trivial⟩ ⟨X',hX',hS.took,⟨rfl,he⟩⟩
   | ok x =>
    rw [hg] at hv
    obtain ⟨a',q',rfl,hq',hrow⟩ := hv
    repeat (first|refine Yao (fun _ hS _ => ?_)|(refine Zad ?_;first|refine Yaz ?_|refine Ya2 ?_|refine Ybk ?_|refine Yct ?_|refine Yau ?_)|(refine Zac ?_;first|refine Ya0 ?_))
    exact Zbg ⟨_,x,a',q',0⟩ ⟨rfl,rfl,rfl,trivial⟩ ⟨X',hX',hS.took,⟨rfl,rfl,hq',hrow⟩⟩
  ·obtain ⟨_,hcc,hr1,hw,hbk⟩ := hS.call [false,false,false,true]
   refine Zaa _ rfl rfl rfl rfl rfl (get_ ht _ [dbN,name,key] _ _ _ (hT.mono hw) (hG.mono hw) (hr1 _ (List.mem_cons_self ..)).own_row (by simp) hcc) ?_
   rintro v w ⟨X',hX',hS,hv⟩
   replace hS := hbk hS
   clear hbk hw hcc hr1
   cases hg : getR t [dbN,name,key] with
   | error e =>
    rw [hg] at hv
    obtain ⟨rfl,he⟩ := hv
    repeat (first|refine Yao (fun _ hS _ => ?_)|(refine Zad ?_;first|refine Yaz ?_|refine Ya2 ?_|refine Ybk ?_|refine Yct ?_|refine Yau ?_)|(refine Zac ?_;first|refine Ya0 ?_))
    exact Zbg ⟨_,⟨⟨0,0,0,0⟩,[]⟩,none,0,e⟩ ⟨rfl,rfl,rfl,trivial⟩ ⟨X',hX',hS.took,⟨rfl,he⟩⟩
   | ok x =>
    rw [hg] at hv
    obtain ⟨a',q',rfl,hq',hrow⟩ := hv
    repeat (first|refine Yao (fun _ hS _ => ?_)|(refine Zad ?_;first|refine Yaz ?_|refine Ya2 ?_|refine Ybk ?_|refine Yct ?_|refine Yau ?_)|(refine Zac ?_;first|refine Ya0 ?_))
    exact Zbg ⟨_,x,a',q',0⟩ ⟨rfl,rfl,rfl,trivial⟩ ⟨X',hX',hS.took,⟨rfl,rfl,hq',hrow⟩⟩
 ·rintro ⟨b6,nd,na,nq,e⟩ w ⟨X',hX',hS,hr⟩
  simp only at hS hr
  cases hg : getR t [dbN,name,key] with
  | error e' =>
   rw [hg] at hr
   obtain ⟨rfl,he⟩ := hr
   simp only
   repeat (first|refine Yd7 ?_|(refine X_id ?_;first|refine Yaf ?_|refine Yag ?_|refine Ybl ?_|refine Ybn ?_|refine Yao (fun _ hS _ => ?_))|refine Yeu ?_|refine Yab ?_|refine Yaq ?_|refine Ya8 ?_|refine Yby ?_)
   exact ⟨X',hX',hS.took,by decide,rfl⟩
  | ok x =>
   rw [hg] at hr
   obtain ⟨rfl,rfl,hq,hrow⟩ := hr
   have hlen := Zyx ht hg
   simp only
   by_cases hk : nd.st.kind = 0
   ·rw [if_pos hk]
    have hD := fun W h1 h2 => Zsv na nd.data nq hq (by omega) W h1 h2
    repeat (first|refine Yd7 ?_|(refine X_id ?_;first|refine Yaf ?_|refine Yag ?_|refine Yan ?_|refine Yba ?_|refine Yap ?_)|refine Yez ?_|refine Yef ?_)
    refine Zaa _ rfl rfl rfl rfl rfl (hD _ (hG.at_ hS) (hrow.rd (hS.rd (r := chR c f b T (Nt t) X') (by simp)).ch).ro) ?_
    rintro v w hV
    cases hd : decM nd.data with
    | none =>
     rw [hd] at hV
     obtain ⟨e,rfl,he,hS'⟩ := hV
     replace hS := hS.plus hS'
     clear hS'
     repeat (first|refine Yd7 ?_|refine Yfi ?_|refine Yao (fun _ hS _ => ?_)|refine Yar (fun _ _ hS _ => ?_)|refine Yeo ?_|refine Yab ?_|refine Yaq ?_|refine Yby ?_)
     exact ⟨X',hX',hS.took,by decide,rfl⟩
    | some x =>
     rw [hd] at hV
     obtain ⟨cs,Y,rfl,hM,hS'⟩ := hV
     replace hS := hS.plus hS'
     clear hS'
     obtain ⟨a1,c1,a2,c2,rows2,rfl,_⟩ := hM.lit
     repeat (first|refine Yd7 ?_|(refine X_id ?_;first|refine Yaf ?_|refine Yag ?_|refine Yay ?_|refine Yba ?_|refine Ybg ?_|refine Yao (fun _ hS _ => ?_)|refine Yar (fun _ _ hS _ => ?_))|refine Yew ?_|refine Yab ?_|refine Yby ?_)
     have hS : St W F [bag Y,chR c f b T (Nt t) X'] _ := hS.took
     exact ⟨_,fun y hy => List.mem_append_right _ (hX' y hy),hS.chAdd,_,rfl,hM.mono fun _ _ h => h.left⟩
   ·rw [if_neg hk]
    repeat (first|refine Yd7 ?_|(refine X_id ?_;first|refine Yaf ?_|refine Yag ?_|refine Yan ?_|refine Ybl ?_|refine Yba ?_|refine Ybn ?_|refine Yap ?_|refine Yao (fun _ hS _ => ?_))|refine Yer ?_|refine Yab ?_|refine Yaq ?_|refine Ya8 ?_|refine Yby ?_)
    exact ⟨X',hX',hS.took,by decide,rfl⟩
end
end Cr
namespace Cr
open Go Go.Proofs
set_option maxRecDepth 100000
set_option maxHeartbeats 8000000
attribute [local irreducible] Calls

def PathsRd (Y : List RowD) (l : List (List (List UInt8))) (vs : List Value) : Prop :=
 vs.length = l.length ∧ ∀ (i : Nat) (p : List (List UInt8)),l[i]? = some p → ∃ a c,vs[i]? = some (.slice a p.length c) ∧ p.length ≤ c ∧ RX Y a (strV p)
theorem PathsRd.nil {Y : List RowD} : PathsRd Y [] [] := ⟨rfl,fun i p h => by simp at h⟩
theorem PathsRd.snoc {Y : List RowD} {l : List (List (List UInt8))} {vs : List Value} (h : PathsRd Y l vs) {p : List (List UInt8)} {a : Option Addr} {c : Nat} (hc : p.length ≤ c) (hr : RX Y a (strV p)) : PathsRd Y (l ++ [p]) (vs ++ [.slice a p.length c]) := by
 refine ⟨by simp [h.1],fun i q hq => ?_⟩
 by_cases hi : i < l.length
 ·rw [List.getElem?_append_left hi] at hq
  obtain ⟨a',c',h1,h2⟩ := h.2 i q hq
  exact ⟨a',c',by rw [List.getElem?_append_left (by rw [h.1]; exact hi)]; exact h1,h2⟩
 ·rw [List.getElem?_append_right (by omega)] at hq
  cases hk : i - l.length with
  | zero =>
   rw [hk] at hq
   obtain rfl : p = q := by simpa using hq
   exact ⟨a,c,by rw [List.getElem?_append_right (by rw [h.1]; omega),h.1,hk]; rfl,hc,hr⟩
  | succ k => rw [hk] at hq; simp at hq
theorem PathsRd.sub {Y Z : List RowD} {l : List (List (List UInt8))} {vs : List Value} (h : PathsRd Y l vs) (hs : ∀ x ∈ Y,x ∈ Z) : PathsRd Z l vs :=
 ⟨h.1,fun i p hp => (h.2 i p hp).imp fun _ ⟨c,h1,h2,h3⟩ => ⟨c,h1,h2,h3.sub hs⟩⟩
def wayL (name : List UInt8) : List (List (List UInt8)) := [[dbN],[dbN,name]]
def Zdv (t : Tn) : List (List (List UInt8)) → Option (List (List (List UInt8)))
 | [] => some []
 | p :: l => if Zb7 t p = 1 then Zdv t l else if Zb7 t p = -1 then (Zdv t l).map (p :: ·) else none
section
variable {c f tp n : Nat} {b : Int} {T : Int → Option Nd} {t : Tn} {X : List RowD}
theorem Z4w (ht : TreeOk n t) (tb : Nat) (name : List UInt8) (W : World) (F : Nat → Prop) (hT : TreeRo W F f tp n b T) (hG : Lg W F) (htb : Ro W F (pts tb (.cells (List.toArray [.pointer (some ⟨c,0,none⟩),.string (str name)]) 114 (0,0)))) (hS : St W F [chR c f b T (Nt t) X] W) :
  Calls Tryz.prog 48 #[.pointer (some ⟨tb,0,none⟩)] W (Ret fun v w => ∃ X',(∀ x ∈ X,x ∈ X') ∧ match Zdv t (wayL name) with
   | none => v = .tuple #[.slice none 0 0,.int .i64 17] ∧ St W F [chR c f b T (Nt t) X'] w
   | some l => ∃ a q vs Y,v = .tuple #[.slice a l.length q,.int .i64 0] ∧ RX Y a vs ∧ PathsRd Y l vs ∧ St W F [bag Y,chR c f b T (Nt t) X'] w) := by
 have hc := htb
 refine Zab Tryz.func48 rfl Tryz.ntmps48 rfl ?_
 repeat (first|refine Yd7 ?_|(refine X_id ?_;first|refine Yaf ?_|refine Yag ?_|refine Yat ?_|refine Yan ?_|refine Yas ?_|refine Ybf (fun _ _ hS _ => ?_)|refine Yb6 ?_)|refine Yea ?_|refine Yab ?_)
 rename_i b7 _ _ _ b12 _ _ _ b13 _ _
 have hS := hS.toBag (a := some ⟨b13,0,none⟩) (cs := [.slice (some ⟨b7,0,none⟩) 1 1,.slice (some ⟨b12,0,none⟩) 2 2]) fun _ h => h.row
 have hS := hS.swap1.bagAdd (a := some ⟨b12,0,none⟩) (cs := strV [dbN,name]) fun _ h => h.row
 have hS := hS.swap1.bagAdd (a := some ⟨b7,0,none⟩) (cs := strV [dbN]) fun _ h => h.row
 generalize hY : ((some (⟨b7,0,none⟩ : Addr),strV [dbN]) :: [(some (⟨b12,0,none⟩ : Addr),strV [dbN,name]),(some (⟨b13,0,none⟩ : Addr),[Value.slice (some ⟨b7,0,none⟩) 1 1,Value.slice (some ⟨b12,0,none⟩) 2 2])] : List RowD) = Y at hS
 have hW : PathsRd Y (wayL name) [.slice (some ⟨b7,0,none⟩) 1 1,.slice (some ⟨b12,0,none⟩) 2 2] := by
  have h1 : PathsRd Y [[dbN]] [.slice (some ⟨b7,0,none⟩) 1 1] := PathsRd.nil.snoc (p := [dbN]) (Nat.le_refl _) (.mem (by rw [← hY]; simp))
  exact h1.snoc (p := [dbN,name]) (Nat.le_refl _) (.mem (by rw [← hY]; simp))
 have hR : (some (⟨b13,0,none⟩ : Addr),[Value.slice (some ⟨b7,0,none⟩) 1 1,Value.slice (some ⟨b12,0,none⟩) 2 2]) ∈ Y := by rw [← hY]; simp
 have hl2 : (wayL name).length = 2 := rfl
 clear hY
 generalize [Value.slice (some ⟨b7,0,none⟩) 1 1,Value.slice (some ⟨b12,0,none⟩) 2 2] = vs13 at hW hR
 refine Zal (α := Nat × Option Addr × Nat × Nat) (fun z => [(0,.pointer (some ⟨tb,0,none⟩)),(4,.slice z.2.1 z.2.2.1 z.2.2.2),(13,.slice (some ⟨b13,0,none⟩) 2 2),(14,.int .i64 (2 : Nat)),(15,.int .i64 (z.1 : Nat))])
  (fun z w => z.1 ≤ 2 ∧ ∃ acc vs X',(∀ x ∈ X,x ∈ X') ∧ PathsRd Y acc vs ∧ z.2.2.1 = acc.length ∧ z.2.2.1 ≤ z.2.2.2 ∧ acc.length ≤ z.1 ∧ Zdv t (wayL name) = (Zdv t ((wayL name).drop z.1)).map (acc ++ ·) ∧ St W F [own 40 1 z.2.1 z.2.2.2 vs,bag Y,chR c f b T (Nt t) X'] w)
  (fun z => 2 - z.1) (0,none,0,0) ⟨rfl,rfl,rfl,rfl,rfl,trivial⟩ ⟨by decide,[],[],X,fun _ h => h,.nil,rfl,Nat.le_refl _,Nat.le_refl _,by rw [List.drop_zero]; cases Zdv t (wayL name) <;> simp,hS.own_none _ _ _⟩ ?_
 clear hS
 rintro ⟨i,oa,on,oc⟩ w ⟨hi,acc,vs,X',hX',hP,hon,hoc,hai,hwf,hS⟩
 simp only at hi hon hoc hai hwf hS
 by_cases hlt : i < 2
 ·have hp0 : (wayL name)[i]? = some (wayL name)[i] := List.getElem?_eq_getElem (by omega)
  have hdr := List.drop_eq_getElem_cons (l := wayL name) (i := i) (by omega)
  have hpl : (wayL name)[i].length ≤ 1048576 := by
   have : ∀ p ∈ wayL name,p.length ≤ 1048576 := by simp [wayL]
   exact this _ (List.getElem_mem _)
  generalize (wayL name)[i] = p at hp0 hdr hpl
  obtain ⟨pa,pc,hx,hpc,hpr⟩ := hW.2 i p hp0
  rw [hdr] at hwf
  have hr := (hS.rd (r := bag Y) (by simp)).bag hR
  repeat (first|refine Yd7 ?_|(refine X_id ?_;first|refine Yaf ?_|refine Yag ?_|refine Yat ?_|refine Yan ?_|refine Ya1 ?_|refine Ybb ?_|refine Ybw ?_|refine Yb6 ?_)|refine Yeb ?_|refine Yab ?_)
  obtain ⟨_,hcc,hr1,hw,hbk⟩ := hS.call [false,false,true]
  refine Zaa _ rfl rfl rfl rfl rfl (Zoe ht pa p pc _ _ (hT.mono hw) (hG.mono hw) (hpr.ro (hr1 _ (List.mem_cons_of_mem _ (List.mem_cons_self ..)))) hpl hcc) ?_
  rintro _ w ⟨rfl,X2,hX2,hS⟩
  replace hS := hbk hS
  clear hbk hw hcc hr1 hr
  rw [Zdv] at hwf
  obtain ⟨k,hk⟩ : ∃ k,k = Zb7 t p := ⟨_,rfl⟩
  rw [← hk] at hwf ⊢
  by_cases h1 : k = 1
  ·rw [if_pos h1] at hwf
   repeat (first|refine Yd7 ?_|refine Yaf ?_|refine Yag ?_|refine Ybh ?_|refine Yax ?_|refine Yeb ?_|refine Yef ?_)
   refine Zag (z := (i,oa,on,oc)) (i + 1,oa,on,oc) ⟨rfl,rfl,rfl,rfl,rfl,trivial⟩ ⟨by dsimp only; omega,acc,vs,X2,fun x hx => hX2 x (hX' x hx),hP,hon,hoc,by dsimp only; omega,hwf,hS.took⟩ (by dsimp only; omega)
  ·rw [if_neg h1] at hwf
   by_cases h2 : k = -1
   ·rw [if_pos h2] at hwf
    repeat (first|refine Yd7 ?_|(refine X_id ?_;first|refine Yaf ?_|refine Yag ?_|refine Ybh ?_|refine Ybi ?_|refine Ybf (fun _ _ hS _ => ?_))|refine Yfh ?_|refine Yab ?_)
    have hnw := (hS.rd (List.mem_cons_self ..)).own_row
    refine Zas rfl rfl rfl rfl rfl hS (by rw [hP.1]; dsimp only; omega) hoc hnw rfl (by simp [Value.oneCell']) (by dsimp only; omega) (by simp only [maxLen]; omega) (fun b' q' w hS hq' _ => ?_)
    repeat (first|refine Yd7 ?_|refine Yem ?_|refine Yad ?_|refine Yef ?_)
    refine Zag (z := (i,oa,on,oc)) (i + 1,b',on + 1,q') ⟨rfl,rfl,rfl,rfl,rfl,trivial⟩ ⟨by dsimp only; omega,acc ++ [p],vs ++ [.slice pa p.length pc],X2,fun x hx => hX2 x (hX' x hx),hP.snoc hpc hpr,by rw [List.length_append,← hon]; rfl,hq',by rw [List.length_append]; simp; omega,?_,hS.took⟩ (by dsimp only; omega)
    rw [hwf]
    cases Zdv t ((wayL name).drop (i + 1)) <;> simp
   ·rw [if_neg h2] at hwf
    rw [hwf]
    repeat (first|refine Yd7 ?_|refine Yag ?_|refine Ybi ?_|refine Yae ?_|refine Yad ?_|refine Yak ?_|refine Yah ?_|refine Yai ?_|refine Ye5 ?_)
    exact ⟨X2,fun x hx => hX2 x (hX' x hx),rfl,hS.took⟩
 ·obtain rfl : i = 2 := by omega
  rw [show (wayL name).drop 2 = [] from rfl,Zdv] at hwf
  rw [hwf]
  subst hon
  repeat (first|refine Yd7 ?_|refine Ye1 ?_|refine Yeg ?_|refine Yab ?_|refine Ya6 ?_|refine Ya7 ?_|refine Ybo ?_)
  have hS := hS.bagAdd (a := oa) (cs := vs) fun _ h => h.row
  refine ⟨X',hX',oa,oc,vs,_,?_,.mem (List.mem_cons_self ..),by simpa using hP.sub fun x hx => List.mem_cons_of_mem _ hx,hS⟩
  simp
end
end Cr
namespace Cr
open Go Go.Proofs
set_option maxRecDepth 100000
set_option maxHeartbeats 8000000
attribute [local irreducible] Calls

def Zb5 (n : Nat) (z : Int × Tn × List (List (List UInt8))) (nd : Nd) (p : List (List UInt8)) : Int × Tn × List (List (List UInt8)) :=
 if z.1 = 0 then if (Zdo n z.2.1 nd p).1 = 0 then (0,(Zdo n z.2.1 nd p).2,z.2.2 ++ [p]) else ((Zdo n z.2.1 nd p).1,(Zdo n z.2.1 nd p).2,z.2.2) else z
def Zoa (t : Tn) : List (List (List UInt8)) → Tn
 | [] => t
 | p :: l => (Ztq (Zoa t l) p).2
theorem Zmp {n : Nat} {t : Tn} (ht : TreeOk n t) : ∀ l,TreeOk n (Zoa t l)
 | [] => ht
 | p :: l => Zx7 (Zmp ht l) p
theorem Zkq {n : Nat} {z : Int × Tn × List (List (List UInt8))} (ht : TreeOk n z.2.1) (nd : Nd) (p : List (List UInt8)) : TreeOk n (Zb5 n z nd p).2.1 := by
 unfold Zb5
 split
 ·split
  ·exact Zr9 ht nd p
  ·exact Zr9 ht nd p
 ·exact ht
section
variable {c f tp n : Nat} {b : Int} {T : Int → Option Nd} {t : Tn} {X Y : List RowD}
theorem Z20 (ht : TreeOk n t) (tb be b3 bd : Nat) (name : List UInt8) (e : Int) (nd : Nd) (a : Option Addr) (q : Nat) (pa : Option Addr) (p : List (List UInt8)) (pc : Nat) (da : Option Addr) (dc : Nat) (done : List (List (List UInt8))) (vs : List Value) (W : World) (F : Nat → Prop) (hT : TreeRo W F f tp n b T) (hG : Lg W F)
  (htb : Ro W F (pts tb (.cells (List.toArray [.pointer (some ⟨c,0,none⟩),.string (str name)]) 114 (0,0)))) (hb3 : Ro W F (pts b3 (.cells (List.toArray [.pointer (some ⟨tb,0,none⟩)]) 30 (0,0)))) (hY : Ro W F (bag Y)) (hp : RX Y pa (strV p)) (hpc : p.length ≤ pc) (hpl : p.length ≤ 1048576) (ha : Ro W F (bytes a nd.data)) (hP : PathsRd Y done vs) (hdc : done.length ≤ dc) (hdl : done.length ≤ 1048576)
  (hS : St W F [chR c f b T (Nt t) X,own 40 1 da dc vs,pts bd (.cells (List.toArray [.slice da done.length dc]) 121 (0,0)),pts be (.cells (List.toArray [.int .i64 e]) 31 (0,0))] W) :
  Calls Tryz.prog 51 #[.agg (List.toArray [.int .i64 nd.st.kind,.int .i64 nd.st.mode,.int .i64 nd.st.owner,.int .i64 nd.st.group,.slice a nd.data.length q]),.slice pa p.length pc,.pointer (some ⟨be,0,none⟩),.pointer (some ⟨b3,0,none⟩),.pointer (some ⟨bd,0,none⟩)] W (Ret fun v w => v = .tuple #[] ∧ ∃ X' da' dc' vs',(∀ x ∈ X,x ∈ X') ∧ PathsRd Y (Zb5 n (e,t,done) nd p).2.2 vs' ∧ (Zb5 n (e,t,done) nd p).2.2.length ≤ dc' ∧
   St W F [chR c f b T (Nt (Zb5 n (e,t,done) nd p).2.1) X',own 40 1 da' dc' vs',pts bd (.cells (List.toArray [.slice da' (Zb5 n (e,t,done) nd p).2.2.length dc']) 121 (0,0)),pts be (.cells (List.toArray [.int .i64 (Zb5 n (e,t,done) nd p).1]) 31 (0,0))] w) := by
 have hb3w := hb3
 unfold Zb5
 simp only
 by_cases h0 : e = 0
 case neg =>
  rw [if_neg h0]
  refine Zab Tryz.func51 rfl Tryz.ntmps51 rfl ?_
  repeat (first|refine Yd7 ?_|refine Ybi ?_|refine Yap ?_|refine Ya9 (fun _ _ hS _ => ?_)|refine Yei ?_|refine Yab ?_|refine Ybu ?_)
  exact ⟨rfl,X,da,dc,vs,fun _ h => h,hP,hdc,hS.took⟩
 subst h0
 rw [if_pos rfl]
 have hc := hb3
 refine Zab Tryz.func51 rfl Tryz.ntmps51 rfl ?_
 repeat (first|refine Yd7 ?_|refine Ybh ?_|refine Yap ?_|refine Ya9 (fun _ _ hS _ => ?_)|refine Yeh ?_|refine Yab ?_)
 refine Zao (.s 0 (.s 1 (.s 2 (.s 3 (.s 4 (.s 5 (.h 6 (.h 7 .nil .no) .no))))))) mixed (by kernel_rfl) rfl ?_
 have hS := hS.drew
 have htbp := (htb.rd hS).pts
 repeat (first|(refine Zad ?_;first|refine Ya2 ?_|refine Ybp ?_|refine Ybe ?_|refine Yc0 ?_|refine Yb0 ?_|refine Yau ?_|refine Ycy ?_))
 obtain ⟨_,hcc,_,hw,hbk⟩ := hS.call [false,true]
 refine Zaa _ rfl rfl rfl rfl rfl (Z33 ht nd a q pa p pc _ _ (hT.mono hw) (hG.mono hw) (hw _ ha) (hw _ (hp.ro hY)) hpc hpl hcc) ?_
 rintro _ w ⟨X1,hX1,rfl,hS⟩
 replace hS := hbk hS
 clear hbk hw hcc htbp
 obtain ⟨e,he⟩ : ∃ e,e = (Zdo n t nd p).1 := ⟨_,rfl⟩
 rw [← he]
 generalize (Zdo n t nd p).2 = t' at hS ⊢
 by_cases h0 : e = 0
 ·subst h0
  rw [if_pos rfl]
  repeat (first|refine Yd7 ?_|(refine X_id ?_;first|refine Yaf ?_|refine Ybh ?_|refine Yap ?_|refine Yao (fun _ hS _ => ?_)|refine Ybf (fun _ _ hS _ => ?_))|refine Yeh ?_|refine Yab ?_|(refine Zad ?_;first|refine Yaz ?_|refine Yau ?_)|(refine Zac ?_;first|refine Ycu ?_))
  have hnw := (hS.rd (List.mem_cons_self ..)).own_row
  refine Zas rfl rfl rfl rfl rfl hS (by rw [hP.1,Nat.mul_one]) hdc hnw rfl (by simp [Value.oneCell']) (by omega) (by simp only [maxLen]; omega) (fun b' q' w hS hq' _ => ?_)
  repeat (first|refine Yd7 ?_|refine Yao (fun _ hS _ => ?_)|refine Ybu ?_)
  refine ⟨rfl,X1,b',q',vs ++ [.slice pa p.length pc],hX1,hP.snoc hpc hp,by simpa using hq',?_⟩
  rw [show (done ++ [p]).length = done.length + 1 by simp]
  exact hS.took
 ·rw [if_neg h0]
  repeat (first|refine Yd7 ?_|refine Ybi ?_|refine Yap ?_|refine Yao (fun _ hS _ => ?_)|refine Yei ?_|refine Yab ?_|refine Ybu ?_|(refine Zad ?_;first|refine Yaz ?_|refine Yau ?_)|(refine Zac ?_;first|refine Ycu ?_))
  exact ⟨rfl,X1,da,dc,vs,hX1,hP,hdc,hS.took⟩
end
end Cr
namespace Cr
open Go Go.Proofs
set_option maxRecDepth 100000
set_option maxHeartbeats 8000000
attribute [local irreducible] Calls

theorem Zk9 (l bx n c : Nat) (a : Option Addr) (cs : List Value) (w : World) (T : TypeId) (hn : n ≤ 4611686018427387904) (hcs : cs.length = n) (Inv : Nat → World → Prop)
  (hbx : ∀ k w,Inv k w → w.heap[bx]? = some (.cells #[.slice a n c] T)) (hrow : ∀ k w,Inv k w → Rd w (row a cs)) (hl : ∀ k w,Inv k w → ∃ r : Loop,r.params.size = 2 ∧ w.heap[l]? = some (.loop r) ∧ (k ≠ 0 → ∀ v,cs[k - 1]? = some v →
   RoundIn Fence.wide 0 Tryz.prog l r.fn ((r.params.zip #[.int .i64 ((k - 1 : Nat) : Int),v]).foldl (fun tmps (t,a) => tmps.setIfInBounds t a) r.tmps) r.assign r.body w
    (Ret fun v w' => v = .bool true ∧ Inv (k - 1) w'))) (h0 : Inv n w) :
  CallsIn Fence.wide 0 Tryz.prog 165 #[.func (.yield l) #[] #[],.pointer (some ⟨bx,0,none⟩)] w (Ret fun _ w' => Inv 0 w') := by
 refine callsIn_wide.2 ?_
 have hb := hbx _ _ h0
 refine Zab Tryz.func165 rfl Tryz.ntmps165 rfl ?_
 repeat (first|refine Yd7 ?_|refine Yag ?_|refine Yas ?_|refine Yb1 ?_|refine Yb2 ?_|refine Yea ?_|refine Yab ?_)
 refine Zal (α := Nat) (fun k => [(0,.func (.yield l) #[] #[]),(1,.pointer (some ⟨bx,0,none⟩)),(3,.int .i64 ((k : Int) - 1))]) (fun k w => k ≤ n ∧ Inv k w) (fun k => k) n ⟨rfl,rfl,rfl,trivial⟩ ⟨Nat.le_refl _,h0⟩ ?_
 clear hb h0
 rintro k w ⟨hk,hi⟩
 have hb := hbx _ _ hi
 by_cases h0 : k = 0
 ·subst h0
  repeat (first|refine Yd7 ?_|refine Yaf ?_|refine Yb9 ?_|refine Yej ?_|refine Yab ?_|refine Ya6 ?_|refine Ya7 ?_|refine Ybu ?_)
  exact hi
 ·obtain ⟨r,hp,hlr,hr⟩ := hl _ _ hi
  have hv : cs[k - 1]? = some cs[k - 1] := List.getElem?_eq_getElem (by omega)
  generalize cs[k - 1] = v at hv
  have hr := hr h0 v hv
  have hcs0 : cs ≠ [] := by intro e; rw [e] at hcs; simp at hcs; omega
  obtain ⟨xb,xo,rfl⟩ := (hrow _ _ hi).base hcs0
  have hcell := (hrow _ _ hi).cells (k - 1) v hv
  have e1 : ((k : Int) - 1).toNat = k - 1 := by omega
  have e2 : ((k - 1 : Nat) : Int) = (k : Int) - 1 := by omega
  rw [e2] at hr
  repeat (first|refine Yd7 ?_|refine Yaf ?_|refine Yb7 ?_|refine Ybb ?_|refine Yb2 ?_|refine Yeb ?_|refine Yab ?_)
  rw [e1,Nat.mul_one]
  refine X_yl (Zat rfl rfl hcell) rfl rfl ?_
  refine Zrh rfl rfl rfl rfl rfl rfl hlr (by rw [hp]; rfl) hr ?_
  rintro v w' ⟨rfl,hi'⟩
  repeat (first|refine Yd7 ?_|refine Yaf ?_|refine Yag ?_|refine Ybc ?_|refine Yb1 ?_|refine Yey ?_|refine Yef ?_)
  refine Zag (k - 1) ⟨rfl,rfl,?_,trivial⟩ ⟨by omega,hi'⟩ (by omega)
  rw [e2]; rfl
theorem Zwm (a : Option Addr) (n c : Nat) (W : World) : Calls Tryz.prog 102 #[.slice a n c] W
  (Ret fun v w => ∃ bx,v = .func (.func 165) #[] #[.pointer (some ⟨bx,0,none⟩)] ∧ St W noF [pts bx (.cells #[.slice a n c] 121)] w) := by
 have hS := St.start W
 refine Zab Tryz.func102 rfl Tryz.ntmps102 rfl ?_
 repeat (first|refine Yd7 ?_|refine Yag ?_|refine Yce ?_|refine Ya9 (fun _ _ hS _ => ?_)|refine Yek ?_|refine Yd9 ?_)
 exact ⟨_,rfl,hS⟩
section
variable {c f tp n : Nat} {b : Int} {T : Int → Option Nd} {t : Tn} {X Y : List RowD}
theorem Z4y (ht : TreeOk n t) (tb : Nat) (name : List UInt8) (a : Option Addr) (L : List (List (List UInt8))) (q : Nat) (vs : List Value) (W : World) (F : Nat → Prop) (hT : TreeRo W F f tp n b T) (hG : Lg W F)
  (htb : Ro W F (pts tb (.cells (List.toArray [.pointer (some ⟨c,0,none⟩),.string (str name)]) 114 (0,0)))) (hY : Ro W F (bag Y)) (hP : PathsRd Y L vs) (hr : Ro W F (row a vs)) (hll : L.length ≤ 1048576) (hlp : ∀ p ∈ L,p.length ≤ 1048576)
  (hS : St W F [chR c f b T (Nt t) X] W) :
  Calls Tryz.prog 53 #[.pointer (some ⟨tb,0,none⟩),.slice a L.length q] W (Ret fun v w => v = .tuple #[] ∧ ∃ X',(∀ x ∈ X,x ∈ X') ∧ St W F [chR c f b T (Nt (Zoa t L)) X'] w) := by
 have hro := hr
 clear hr
 refine Zab Tryz.func53 rfl Tryz.ntmps53 rfl ?_
 repeat (first|refine Yd7 ?_|refine Yaf ?_|refine Ya9 (fun _ _ hS _ => ?_)|refine Yd8 ?_|refine Yab ?_)
 obtain ⟨_,hcc,hr,hw,hbk⟩ := hS.call []
 refine Zaa _ rfl rfl rfl rfl rfl (Zwm _ _ _ _) ?_
 rintro _ w ⟨bx,rfl,hS⟩
 replace hS := hbk hS.more
 clear hcc hr hw hbk
 repeat (first|refine Yac ?_|refine Yak ?_|refine Yab ?_)
 rename_i b2 _ _ _ _
 refine Zg7 (first := []) (captured := [.pointer (some ⟨bx,0,none⟩)])
  (fun lp r j w => j = none ∧ ∃ X' lo,(∀ x ∈ X,x ∈ X') ∧ St W F [pts lp lo,pts r (.deferred (some [])),chR c f b T (Nt (Zoa t L)) X'] w) rfl rfl hS ?_ ?_ ?_
 ·intro A B hA hB fn tm lp r w1 htm hlook hS
  refine Zf0 (Zk9 lp bx L.length q a vs w1 121 (by omega) hP.1
   (fun k w => k ≤ L.length ∧ ∃ X',(∀ x ∈ X,x ∈ X') ∧ St W F [pts lp (.loop (recd fn tm #[8,9] A B r .ready none)),pts r (.deferred (some [])),pts bx (.cells #[.slice a L.length q] 121),pts b2 (.cells (List.toArray [.pointer (some ⟨tb,0,none⟩)]) 30 (0,0)),chR c f b T (Nt (Zoa t (L.drop k))) X'] w)
   (fun k w h => (h.2.choose_spec.2).has) (fun k w h => hro.rd h.2.choose_spec.2) ?_ ⟨Nat.le_refl _,X,fun _ h => h,by rw [List.drop_length]; exact hS⟩) ?_
  ·rintro k w ⟨hkl,X',hX',hS⟩
   refine ⟨_,rfl,hS.has,fun hk v hv => ?_⟩
   have hkl' : k - 1 < L.length := by omega
   have hp : L[k - 1]? = some L[k - 1] := List.getElem?_eq_getElem hkl'
   have hdr : L.drop (k - 1) = L[k - 1] :: L.drop k := by
    have := List.drop_eq_getElem_cons hkl'
    rwa [show k - 1 + 1 = k by omega] at this
   generalize L[k - 1] = p at hp hdr
   have hpl := hlp p (List.mem_of_getElem? hp)
   obtain ⟨pa,pc,hv2,hpc,hpr⟩ := hP.2 (k - 1) p hp
   rw [hv] at hv2
   cases hv2
   show RoundIn Fence.wide 0 Tryz.prog lp fn ((#[8,9].zip _).foldl _ tm) A B w _
   refine Zqk (Fr.round2 htm hlook lp (.int .i64 ((k - 1 : Nat) : Int)) (.slice pa p.length pc) (by decide) (by decide)) ?_
   refine C_eq hA ?_
   repeat (first|refine Yd7 ?_|refine Yag ?_|refine Yad ?_)
   refine Zn1 hS.has (fun w hset => ?_)
   replace hS := hS.upd hset
   refine C_eq hB ?_
   have hc := htb
   repeat (first|refine Yaa ?_|(refine X_id ?_;first|refine Yaf ?_|refine Yat ?_|refine Yan ?_|refine Yap ?_|refine Yb6 ?_)|refine Yad ?_|refine Yak ?_)
   obtain ⟨_,hcc,_,hw,hbk⟩ := hS.call [false,false,false,false,true]
   refine Zaa _ rfl rfl rfl rfl rfl (Z5q (Zmp ht _) pa p pc _ _ (hT.mono hw) (hG.mono hw) (hw _ (hpr.ro hY)) hpc hpl hcc) ?_
   rintro _ w ⟨X2,hX2,rfl,hS⟩
   replace hS := hbk hS
   clear hbk hw hcc
   repeat (first|refine Yac ?_|refine Yav ?_)
   refine Zkz hS.has (fun w hset => ⟨_,rfl,rfl,by omega,X2,fun x hx => hX2 x (hX' x hx),?_⟩)
   rw [hdr,Zoa]
   exact (hS.upd hset).took
  ·rintro _ w3 ⟨_,X',hX',hS⟩
   rw [List.drop_zero] at hS
   exact ⟨_,_,by simp,hS.has,fun w4 hset => ⟨rfl,X',_,hX',(hS.upd hset).pick [0,0,2]⟩⟩
 ·rintro lp r w4 ⟨_,X',lo,hX',hS⟩
  refine Zis ?_
  refine Ztd (.inr rfl) hS.has (fun w hset => ?_)
  replace hS := hS.upd hset
  repeat (first|refine Ybu ?_)
  exact ⟨rfl,X',hX',hS.took⟩
 ·rintro lp r cc w4 ⟨h,_⟩
  cases h
end
end Cr
namespace Cr
open Go Go.Proofs
set_option maxRecDepth 100000
set_option maxHeartbeats 8000000
attribute [local irreducible] Calls

def Zph : Nd := ⟨⟨1,448,0,0⟩,[]⟩
def Zcy (b : List UInt8) : Nd := ⟨⟨0,384,0,0⟩,b⟩
def Zcb (n : Nat) (t : Tn) (l : List (List (List UInt8))) : Int × Tn × List (List (List UInt8)) := l.foldl (fun z p => Zb5 n z Zph p) (0,t,[])
def Zp9 (n : Nat) (t : Tn) (name key : List UInt8) (v : Mv) : Int × Tn :=
 if ¬ nameOk key then (10,t) else if chkM 8 v ≠ 0 then (chkM 8 v,t) else if 512 < (encM v).length then (2,t) else
 match Zdv t (wayL name) with
 | none => (17,t)
 | some ms => if Zb7 t [dbN,name,key] = 0 then Ztt t (encM v) [dbN,name,key] else if Zb7 t [dbN,name,key] = 1 ∨ Zb7 t [dbN,name,key] = 2 then (17,t) else
  if (Zb5 n (Zcb n t ms) (Zcy (encM v)) [dbN,name,key]).1 = 0 then (0,(Zb5 n (Zcb n t ms) (Zcy (encM v)) [dbN,name,key]).2.1) else ((Zb5 n (Zcb n t ms) (Zcy (encM v)) [dbN,name,key]).1,Zoa (Zb5 n (Zcb n t ms) (Zcy (encM v)) [dbN,name,key]).2.1 (Zb5 n (Zcb n t ms) (Zcy (encM v)) [dbN,name,key]).2.2)
theorem Zg3 {n : Nat} {z : Int × Tn × List (List (List UInt8))} {nd : Nd} {p : List (List UInt8)} : (Zb5 n z nd p).2.2 = z.2.2 ∨ (Zb5 n z nd p).2.2 = z.2.2 ++ [p] := by
 unfold Zb5
 split
 ·split
  ·exact .inr rfl
  ·exact .inl rfl
 ·exact .inl rfl
theorem Zkr (n : Nat) (t : Tn) (l : List (List (List UInt8))) (p : List (List UInt8)) : Zcb n t (l ++ [p]) = Zb5 n (Zcb n t l) Zph p := by
 unfold Zcb; rw [List.foldl_append]; rfl
theorem Zks {n : Nat} {t : Tn} (ht : TreeOk n t) : ∀ (k : Nat) (l : List (List (List UInt8))),l.length = k → TreeOk n (Zcb n t l).2.1 ∧ (Zcb n t l).2.2.length ≤ l.length ∧ ∀ p ∈ (Zcb n t l).2.2,p ∈ l
 | 0,l,hl => by
  obtain rfl := List.eq_nil_of_length_eq_zero hl
  exact ⟨ht,Nat.le_refl _,fun p hp => (by cases hp)⟩
 | k + 1,l,hl => by
  rcases List.eq_nil_or_concat l with rfl | ⟨l,p,rfl⟩
  ·cases hl
  rw [List.concat_eq_append] at hl ⊢
  rw [List.length_append,List.length_singleton] at hl
  obtain ⟨h1,h2,h3⟩ := Zks ht k l (by omega)
  rw [Zkr]
  refine ⟨Zkq h1 _ _,?_,?_⟩
  ·rcases Zg3 (n := n) (z := Zcb n t l) (nd := Zph) (p := p) with h | h
   ·rw [h,List.length_append]; omega
   ·rw [h,List.length_append,List.length_append]; simp; omega
  ·intro q hq
   rcases Zg3 (n := n) (z := Zcb n t l) (nd := Zph) (p := p) with h | h
   ·rw [h] at hq; exact List.mem_append_left _ (h3 q hq)
   ·rw [h] at hq
    rcases List.mem_append.1 hq with hq | hq
    ·exact List.mem_append_left _ (h3 q hq)
    ·exact List.mem_append_right _ hq
theorem Zjt {t : Tn} : ∀ {l ms : List (List (List UInt8))},Zdv t l = some ms → (∀ p ∈ ms,p ∈ l) ∧ ms.length ≤ l.length
 | [],ms,h => by rw [Zdv] at h; injection h with h; subst h; exact ⟨fun p hp => (by cases hp),Nat.le_refl _⟩
 | p :: l,ms,h => by
  rw [Zdv] at h
  split at h
  ·obtain ⟨h1,h2⟩ := Zjt h
   exact ⟨fun q hq => List.mem_cons_of_mem _ (h1 q hq),by simp only [List.length_cons]; omega⟩
  ·split at h
   ·cases hw : Zdv t l with
    | none => rw [hw] at h; cases h
    | some r =>
     rw [hw] at h
     simp only [Option.map_some,Option.some.injEq] at h
     subst h
     obtain ⟨h1,h2⟩ := Zjt hw
     refine ⟨fun q hq => ?_,by simp only [List.length_cons]; omega⟩
     rcases List.mem_cons.1 hq with rfl | hq
     ·exact List.mem_cons_self ..
     ·exact List.mem_cons_of_mem _ (h1 q hq)
   ·cases h
theorem Zxo {n : Nat} {t : Tn} (ht : TreeOk n t) (name key : List UInt8) (v : Mv) : TreeOk n (Zp9 n t name key v).2 := by
 unfold Zp9
 split
 ·exact ht
 ·split
  ·exact ht
  ·split
   ·exact ht
   ·split
    ·exact ht
    ·rename_i ms _
     split
     ·exact Zya ht _ _
     ·split
      ·exact ht
      ·have h1 := Zkq (n := n) (Zks ht _ ms rfl).1 (Zcy (encM v)) [dbN,name,key]
       split
       ·exact h1
       ·exact Zmp h1 _
section
variable {c f tp n : Nat} {b : Int} {T : Int → Option Nd} {t : Tn} {X : List RowD}
theorem Z4z (ht : TreeOk n t) (tb : Nat) (name key : List UInt8) (v : Mv) (cs : List Value) (W : World) (F : Nat → Prop) (hT : TreeRo W F f tp n b T) (hG : Lg W F) (htb : Ro W F (pts tb (.cells (List.toArray [.pointer (some ⟨c,0,none⟩),.string (str name)]) 114 (0,0)))) (hv : Mrd (RoR W F) v cs) (hwv : wM v ≤ 1048576) (hfit : fitM v) (hlv : (encM v).length ≤ 131072) (hS : St W F [chR c f b T (Nt t) X] W) :
  Calls Tryz.prog 11 #[.pointer (some ⟨tb,0,none⟩),.string (str key),.agg (List.toArray cs)] W (Ret fun u w => u = .int .i64 (Zp9 n t name key v).1 ∧ ∃ X',(∀ x ∈ X,x ∈ X') ∧ St W F [chR c f b T (Nt (Zp9 n t name key v).2) X'] w) := by
 have hN := fun W => Zye key W
 have hc := htb
 obtain ⟨a1,c1,a2,c2,rows,rfl,_⟩ := hv.lit
 unfold Zp9
 by_cases hk : nameOk key
 case neg =>
  rw [if_pos hk]
  simp only [decide_eq_false hk] at hN
  refine Zab Tryz.func11 rfl Tryz.ntmps11 rfl ?_
  repeat (first|refine Yd7 ?_|(refine X_id ?_;first|(refine Zae 43 rfl rfl rfl rfl rfl hS (hN _) ?_;rintro _ _ rfl hS)|refine Yaf ?_|refine Yag ?_|refine Ybr ?_|refine Ybq ?_|refine Yap ?_|refine Ya9 (fun _ _ hS _ => ?_))|refine Yer ?_|refine Yes ?_)
  exact ⟨rfl,X,fun _ h => h,hS.took⟩
 rw [if_neg (by simpa using hk)]
 simp only [decide_eq_true hk] at hN
 clear hk
 refine Zab Tryz.func11 rfl Tryz.ntmps11 rfl ?_
 repeat (first|refine Yd7 ?_|(refine X_id ?_;first|(refine Zae 43 rfl rfl rfl rfl rfl hS (hN _) ?_;rintro _ _ rfl hS)|refine Yaf ?_|refine Yag ?_|refine Ybc ?_|refine Ybq ?_|refine Yap ?_|refine Ybg ?_|refine Ya9 (fun _ _ hS _ => ?_))|refine Yez ?_|refine Yef ?_)
 refine Zaa _ rfl rfl rfl rfl rfl (Zss v _ _ (hv.mono fun _ _ h => (h.rd hS).ro) hwv hfit hlv (hG.at_ hS)) ?_
 rintro _ w (⟨he,rfl,hS'⟩ | ⟨he,eb,eq,rfl,heq,hS'⟩)
 case inl =>
  replace hS := hS.plus hS'
  clear hS'
  rw [if_pos he]
  generalize chkM 8 v = e at he ⊢
  repeat (first|refine Yd7 ?_|(refine X_id ?_;first|refine Yaf ?_|refine Yag ?_|refine Yay ?_|refine Ybl ?_|refine Yap ?_|refine Yao (fun _ hS _ => ?_)|refine Yar (fun _ _ hS _ => ?_))|refine Yeo ?_|refine Yep ?_)
  exact ⟨rfl,X,fun _ h => h,hS.took⟩
 replace hS := hS.plus hS'
 clear hS'
 rw [if_neg (by simpa using he)]
 generalize encM v = bs at hS heq hlv ⊢
 by_cases h5 : 512 < bs.length
 ·rw [if_pos h5]
  repeat (first|refine Yd7 ?_|(refine X_id ?_;first|refine Yaf ?_|refine Yag ?_|refine Yay ?_|refine Yas ?_|refine Yba ?_|refine Ybx ?_|refine Yap ?_|refine Yao (fun _ hS _ => ?_)|refine Yar (fun _ _ hS _ => ?_))|refine Yfc ?_|refine Yep ?_)
  exact ⟨rfl,X,fun _ h => h,hS.took⟩
 rw [if_neg h5]
 repeat (first|refine Yd7 ?_|(refine X_id ?_;first|refine Yaf ?_|refine Yag ?_|refine Yay ?_|refine Yas ?_|refine Yba ?_|refine Ybt ?_|refine Yap ?_|refine Yao (fun _ hS _ => ?_)|refine Yar (fun _ _ hS _ => ?_))|refine Yei ?_|refine Yab ?_)
 rename_i b3 _ _ _ b5 _ _ _ _ _ be _ _ _ _ _
 obtain ⟨_,hcc,_,hw,hbk⟩ := hS.call [false,false,false,false,true]
 refine Zaa _ rfl rfl rfl rfl rfl (Z4w ht tb name _ _ (hT.mono hw) (hG.mono hw) (hw _ htb) hcc) ?_
 rintro u w ⟨X1,hX1,hw1⟩
 cases hms : Zdv t (wayL name) with
 | none =>
  rw [hms] at hw1
  obtain ⟨rfl,hS⟩ := hw1
  replace hS := hbk hS
  clear hbk hw hcc
  repeat (first|refine Yd7 ?_|(refine X_id ?_;first|refine Yaf ?_|refine Yag ?_|refine Yay ?_|refine Ybl ?_|refine Yap ?_|refine Yao (fun _ hS _ => ?_))|refine Yeo ?_|refine Yep ?_)
  exact ⟨rfl,X1,hX1,hS.took⟩
 | some ms =>
  rw [hms] at hw1
  obtain ⟨ma,mq,mvs,Y,rfl,hma,hmP,hS⟩ := hw1
  replace hS := hbk hS
  clear hbk hw hcc
  obtain ⟨hmsub,hmlen⟩ := Zjt hms
  simp only
  repeat (first|refine Yd7 ?_|(refine X_id ?_;first|refine Yaf ?_|refine Yag ?_|refine Yay ?_|refine Yba ?_|refine Yap ?_|refine Yao (fun _ hS _ => ?_))|refine Yei ?_|refine Yab ?_)
  refine Zao (.s 0 (.s 1 (.s 2 (.s 3 (.s 4 (.s 5 (.s 6 (.s 7 (.s 8 (.h 9 (.h 10 .nil .no) .no)))))))))) mixed (by kernel_rfl) rfl ?_
  have hS := hS.drew
  have htbp := (htb.rd hS).pts
  repeat (first|refine Ybf (fun _ _ hS _ => ?_)|(refine Zad ?_;first|refine Ya2 ?_|refine Ybp ?_|refine Ybe ?_|refine Ybm ?_|refine Yc0 ?_|refine Yau ?_)|(refine Zac ?_;first|refine Ycu ?_))
  obtain ⟨_,hcc,hr1,hw,hbk⟩ := hS.call [false,false,true]
  refine Zaa _ rfl rfl rfl rfl rfl (Zoe ht _ [dbN,name,key] _ _ _ (hT.mono hw) (hG.mono hw) (hr1 _ (List.mem_cons_self ..)).own_row (by simp) hcc) ?_
  rintro _ w ⟨rfl,X2,hX2,hS⟩
  replace hS := hbk hS
  clear hbk hw hcc hr1 htbp
  have hX12 : ∀ x ∈ X,x ∈ X2 := fun x hx => hX2 x (hX1 x hx)
  generalize Zb7 t [dbN,name,key] = kk
  by_cases hk0 : kk = 0
  ·rw [if_pos hk0]
   repeat (first|refine Yd7 ?_|refine Yag ?_|refine Ybh ?_|refine Yfg ?_|refine Yab ?_|(refine Zad ?_;first|refine Yaz ?_)|(refine Zac ?_;first|refine Ycu ?_))
   refine Zao (.s 0 (.s 1 (.s 2 (.s 3 (.s 4 (.s 5 (.s 6 (.s 7 (.s 8 (.s 9 (.h 10 (.h 11 (.s 12 .nil) .no) .no))))))))))) mixed (by kernel_rfl) rfl ?_
   have hS := hS.drew
   have htbp := (htb.rd hS).pts
   repeat (first|refine Ybf (fun _ _ hS _ => ?_)|(refine Zad ?_;first|refine Ya2 ?_|refine Ybp ?_|refine Ybe ?_|refine Ybm ?_|refine Yc0 ?_|refine Yau ?_)|(refine Zac ?_;first|refine Ycu ?_))
   obtain ⟨_,hcc,hr1,hw,hbk⟩ := hS.call [false,true]
   refine Zaa _ rfl rfl rfl rfl rfl (Z5r ht bs eb eq _ [dbN,name,key] _ _ _ (hT.mono hw) (hG.mono hw) (hr1 (own 5 1 eb eq (bv bs)) (by simp)).own_row (hr1 _ (List.mem_cons_self ..)).own_row (by simp) hcc) ?_
   rintro _ w ⟨X3,hX3,rfl,hS⟩
   replace hS := hbk hS
   clear hbk hw hcc hr1 htbp
   repeat (first|refine Yah ?_|refine Yes ?_|(refine Zad ?_;first|refine Ye6 ?_)|(refine Zac ?_;first|refine Ycu ?_))
   exact ⟨rfl,X3,fun x hx => hX3 x (hX12 x hx),hS.took⟩
  rw [if_neg hk0]
  by_cases hk12 : kk = 1 ∨ kk = 2
  ·rw [if_pos hk12]
   by_cases hk1 : kk = 1
   case' neg => have hk2 : kk = 2 := hk12.resolve_left hk1
   all_goals
    repeat (first|refine Yd7 ?_|refine Yag ?_|refine Ybh ?_|refine Ybi ?_|refine Ye9 ?_|refine Yes ?_|(refine Zad ?_;first|refine Yaz ?_)|(refine Zac ?_;first|refine Ycu ?_))
    exact ⟨rfl,X2,hX12,hS.took⟩
  rw [if_neg hk12]
  have hk1 : ¬ kk = 1 := fun h => hk12 (.inl h)
  have hk2 : ¬ kk = 2 := fun h => hk12 (.inr h)
  repeat (first|refine Yd7 ?_|(refine X_id ?_;first|refine Yaf ?_|refine Yag ?_|refine Yas ?_|refine Yce ?_|refine Ybi ?_|refine Yar (fun _ _ hS _ => ?_))|refine Yez ?_|refine Yef ?_|(refine Zad ?_;first|refine Yaz ?_)|(refine Zac ?_;first|refine Ycu ?_))
  rename_i bd _ _
  replace hS := hS.own_none 40 1 none
  have hml : ms.length ≤ 2 := hmlen
  have hS : St W F [chR c f b T (Nt t) X2,own 40 1 none 0 [],pts bd (.cells (List.toArray [.slice none 0 0]) 121 (0,0)),pts be (.cells (List.toArray [.int .i64 0]) 31 (0,0)),bag Y,own 5 1 eb eq (bv bs),pts b3 (.cells (List.toArray [.pointer (some ⟨tb,0,none⟩)]) 30 (0,0))] _ := hS.took
  have hpl2 : ∀ p ∈ wayL name,p.length ≤ 1048576 := by simp [wayL]
  refine Zal (α := Nat) (fun i => [(1,.string (str key)),(3,.pointer (some ⟨b3,0,none⟩)),(7,.slice eb bs.length eq),(8,.pointer (some ⟨be,0,none⟩)),(10,.pointer (some ⟨bd,0,none⟩)),(11,.func (.func 51) #[] #[.pointer (some ⟨be,0,none⟩),.pointer (some ⟨b3,0,none⟩),.pointer (some ⟨bd,0,none⟩)]),(69,.slice ma ms.length mq),(70,.int .i64 (ms.length : Nat)),(71,.int .i64 (i : Nat))])
   (fun i w => i ≤ ms.length ∧ ∃ X' da dc dvs,(∀ x ∈ X,x ∈ X') ∧ PathsRd Y (Zcb n t (ms.take i)).2.2 dvs ∧ (Zcb n t (ms.take i)).2.2.length ≤ dc ∧
    St W F [chR c f b T (Nt (Zcb n t (ms.take i)).2.1) X',own 40 1 da dc dvs,pts bd (.cells (List.toArray [.slice da (Zcb n t (ms.take i)).2.2.length dc]) 121 (0,0)),pts be (.cells (List.toArray [.int .i64 (Zcb n t (ms.take i)).1]) 31 (0,0)),bag Y,own 5 1 eb eq (bv bs),pts b3 (.cells (List.toArray [.pointer (some ⟨tb,0,none⟩)]) 30 (0,0))] w)
   (fun i => ms.length - i) 0 ⟨rfl,rfl,rfl,rfl,rfl,rfl,rfl,rfl,rfl,trivial⟩ ⟨Nat.zero_le _,X2,none,0,[],hX12,.nil,Nat.le_refl _,hS⟩ ?_
  clear hS
  rintro i w ⟨hi,X3,da,dc,dvs,hX3,hdP,hdc,hS⟩
  obtain ⟨hzt,hzl,hzm⟩ := Zks ht _ (ms.take i) rfl
  rw [List.length_take] at hzl
  by_cases hlt : i < ms.length
  ·have hp0 : ms[i]? = some ms[i] := List.getElem?_eq_getElem hlt
   have htk : ms.take (i + 1) = ms.take i ++ [ms[i]] := List.take_succ_eq_append_getElem hlt
   generalize ms[i] = p at hp0 htk
   have hpl := hpl2 p (hmsub p (List.mem_of_getElem? hp0))
   obtain ⟨pa,pc,hx,hpc,hpr⟩ := hmP.2 i p hp0
   have hr := hma.rd (hS.rd (r := bag Y) (by simp))
   obtain ⟨xb,xo,hmb⟩ := hr.base (by intro e; rw [e] at hx; simp at hx)
   subst hmb
   repeat (first|refine Yd7 ?_|(refine X_id ?_;first|refine Yaf ?_|refine Yag ?_|refine Ya1 ?_|refine Ybn ?_|refine Ybb ?_|refine Ybw ?_)|refine Yeb ?_|refine Yab ?_)
   clear hr
   obtain ⟨_,hcc,hr1,hw,hbk⟩ := hS.call [true,true,true,true]
   refine Zby (first := []) (captured := [.pointer (some ⟨be,0,none⟩),.pointer (some ⟨b3,0,none⟩),.pointer (some ⟨bd,0,none⟩)]) rfl rfl rfl rfl rfl (Z20 hzt tb be b3 bd name _ Zph none 0 pa p pc da dc _ dvs _ _ (hT.mono hw) (hG.mono hw) (hw _ htb) (hr1 (pts b3 (.cells (List.toArray [.pointer (some ⟨tb,0,none⟩)]) 30 (0,0))) (by simp)) (hr1 (bag Y) (by simp)) hpr hpc hpl (Zh6 _ _ _) hdP hdc (by omega) hcc) ?_
   rintro _ w ⟨rfl,X4,da',dc',vs',hX4,hP',hdc',hS⟩
   replace hS := hbk hS
   clear hbk hw hcc hr1
   repeat (first|refine Yd7 ?_|refine Yec ?_|refine Yad ?_|refine Yef ?_)
   refine Zag (i + 1) ⟨rfl,rfl,rfl,rfl,rfl,rfl,rfl,rfl,rfl,trivial⟩ ⟨hlt,X4,da',dc',vs',fun x hx => hX4 x (hX3 x hx),?_⟩ (by omega)
   rw [htk,Zkr]
   exact ⟨hP',hdc',hS.took⟩
  ·obtain rfl : i = ms.length := by omega
   rw [List.take_length] at hdP hdc hS hzt hzl hzm
   generalize Zcb n t ms = z at hdP hdc hS hzt hzl hzm ⊢
   obtain ⟨ze,zt,zd⟩ := z
   simp only at hdP hdc hS hzt hzl hzm
   repeat (first|refine Yd7 ?_|(refine X_id ?_;first|refine Yaf ?_|refine Yat ?_|refine Yan ?_|refine Ya3 ?_|refine Ybn ?_|refine Yap ?_|refine Ybf (fun _ _ hS _ => ?_)|refine Yb6 ?_)|refine Yej ?_|refine Yed ?_)
   rename_i pb _ _
   have hS := hS.pick [0,4,0,0,0,0,0,0]
   have hS := hS.bagAdd (a := some ⟨pb,0,none⟩) (cs := strV [dbN,name,key]) fun _ h => h.row
   obtain ⟨_,hcc,hr1,hw,hbk⟩ := hS.call [false,true,true,true,true]
   refine Zby (first := []) (captured := [.pointer (some ⟨be,0,none⟩),.pointer (some ⟨b3,0,none⟩),.pointer (some ⟨bd,0,none⟩)]) rfl rfl rfl rfl rfl (Z20 (Y := (some ⟨pb,0,none⟩,strV [dbN,name,key]) :: Y) hzt tb be b3 bd name ze (Zcy bs) eb eq (some ⟨pb,0,none⟩) [dbN,name,key] 3 da dc zd dvs _ _ (hT.mono hw) (hG.mono hw) (hw _ htb) (hr1 (pts b3 (.cells (List.toArray [.pointer (some ⟨tb,0,none⟩)]) 30 (0,0))) (by simp)) (hr1 _ (List.mem_cons_self ..)) (.mem (List.mem_cons_self ..)) (Nat.le_refl 3) (by simp) (hr1 (own 5 1 eb eq (bv bs)) (by simp)).own_row (hdP.sub fun x hx => List.mem_cons_of_mem _ hx) hdc (by omega) hcc) ?_
   rintro _ w ⟨rfl,X4,da',dc',vs',hX4,hP',hdc',hS⟩
   replace hS := hbk hS
   clear hbk hw hcc hr1
   have hzt' := Zkq (n := n) (z := (ze,zt,zd)) hzt (Zcy bs) [dbN,name,key]
   have hdn : (Zb5 n (ze,zt,zd) (Zcy bs) [dbN,name,key]).2.2.length ≤ 3 ∧ ∀ p ∈ (Zb5 n (ze,zt,zd) (Zcy bs) [dbN,name,key]).2.2,p.length ≤ 1048576 := by
    have hz1 : ∀ p ∈ zd,p.length ≤ 1048576 := fun p hp => hpl2 p (hmsub p (hzm p hp))
    rcases Zg3 (n := n) (z := (ze,zt,zd)) (nd := Zcy bs) (p := [dbN,name,key]) with h | h
    ·rw [h]; exact ⟨by simp only; omega,hz1⟩
    ·rw [h]
     refine ⟨by rw [List.length_append]; simp only [List.length_singleton]; omega,fun p hp => ?_⟩
     rcases List.mem_append.1 hp with hp | hp
     ·exact hz1 p hp
     ·obtain rfl := List.mem_singleton.1 hp
      simp
   generalize Zb5 n (ze,zt,zd) (Zcy bs) [dbN,name,key] = z' at hS hP' hdc' hzt' hdn ⊢
   obtain ⟨e',t',d'⟩ := z'
   simp only at hS hP' hdc' hzt' hdn ⊢
   by_cases h0 : e' = 0
   ·subst h0
    rw [if_pos rfl]
    repeat (first|refine Yd7 ?_|refine Yag ?_|refine Yba ?_|refine Yap ?_|refine Yew ?_|refine Yd9 ?_)
    exact ⟨rfl,X4,fun x hx => hX4 x (hX3 x hx),hS.took⟩
   ·rw [if_neg h0]
    repeat (first|refine Yd7 ?_|refine Ybl ?_|refine Yap ?_|refine Yeh ?_|refine Yab ?_)
    obtain ⟨_,hcc,hr1,hw,hbk⟩ := hS.call [true]
    refine Zaa _ rfl rfl rfl rfl rfl (Z4y hzt' tb name da' d' dc' vs' _ _ (hT.mono hw) (hG.mono hw) (hw _ htb) (hr1 (bag ((some ⟨pb,0,none⟩,strV [dbN,name,key]) :: Y)) (by simp)) hP' (hr1 _ (List.mem_cons_self ..)).own_row (by omega) hdn.2 hcc) ?_
    rintro _ w ⟨rfl,X5,hX5,hS⟩
    replace hS := hbk hS
    clear hbk hw hcc hr1
    repeat (first|refine Yd7 ?_|refine Yag ?_|refine Yap ?_|refine Yek ?_|refine Yd9 ?_)
    exact ⟨rfl,X5,fun x hx => hX5 x (hX4 x (hX3 x hx)),hS.took⟩
end
end Cr
namespace Cr
open Go Go.Proofs
set_option maxRecDepth 100000
set_option maxHeartbeats 8000000
attribute [local irreducible] Calls

theorem Z2v (a b : Option Addr) (c c' : Nat) (s t : List UInt8) (W : World) (ha : Rd W (bytes a s)) (hb : Rd W (bytes b t)) (hs : s.length ≤ 1099511627776) :
  Calls Tryz.prog 35 #[.slice a s.length c,.slice b t.length c'] W (Ret fun v w => v = .bool (decide (s = t)) ∧ St W noF [] w) := by
 have hS := St.start W
 by_cases hl : s.length = t.length
 ·refine Zab Tryz.func35 rfl Tryz.ntmps35 rfl ?_
  repeat (first|refine Yd7 ?_|refine Yaf ?_|refine Yag ?_|refine Yas ?_|refine Yba ?_|refine Yez ?_|refine Yab ?_)
  refine Zal (α := Nat) (fun i => [(0,.slice a s.length c),(1,.slice b t.length c'),(5,.int .i64 (i : Nat))])
   (fun i w => i ≤ s.length ∧ s.take i = t.take i ∧ St W noF [] w) (fun i => s.length - i) 0 ⟨rfl,rfl,rfl,trivial⟩ ⟨Nat.zero_le _,rfl,hS⟩ ?_
  clear hS
  rintro i w ⟨hi,htk,hS⟩
  by_cases hlt : i < s.length
  ·obtain ⟨ab,ao,rfl⟩ := ha.base (by intro e; have := Zaf s; rw [e] at this; simp at this; omega)
   obtain ⟨bb,bo,rfl⟩ := hb.base (by intro e; have := Zaf t; rw [e] at this; simp at this; omega)
   have h1 := ha.ro
   have h2 := hb.ro
   clear ha hb
   have hb := h1
   have hb2 := h2
   have hlt2 : i < t.length := by omega
   have ei : (i : Int).toNat * 1 = i := by omega
   by_cases he : s.getD i 0 = t.getD i 0
   ·have hq : ((s.getD ((i : Int).toNat * 1) 0).toNat : Int) = ((t.getD ((i : Int).toNat * 1) 0).toNat : Int) := by rw [ei,he]
    repeat (first|refine Yd7 ?_|refine Yaf ?_|refine Yas ?_|refine Ya1 ?_|refine Yeb ?_|refine Yab ?_)
    refine Zao (.s 0 (.s 1 (.s 2 (.s 3 (.s 4 (.s 5 (.s 6 (.s 7 (.s 8 .nil))))))))) mixed (by kernel_rfl) rfl ?_
    have hS := hS.drew
    repeat (first|refine Yd7 ?_|refine Yem ?_|refine Yey ?_|refine Yef ?_|(refine Zad ?_;first|refine Yaz ?_|refine Ya2 ?_|refine Zak rfl rfl (fun _ => Zgi rfl rfl rfl (by omega)) rfl rfl ?_|refine Yb3 ?_|refine Ydg ?_|refine Yd5 ?_))
    refine Zag (i + 1) ⟨rfl,rfl,rfl,trivial⟩ ⟨by omega,?_,hS⟩ (by omega)
    rw [List.take_succ_eq_append_getElem hlt,List.take_succ_eq_append_getElem hlt2,htk]
    rw [List.getD_eq_getElem?_getD,List.getD_eq_getElem?_getD,List.getElem?_eq_getElem hlt,List.getElem?_eq_getElem hlt2] at he
    simp only [Option.getD_some] at he
    rw [he]
   ·have hq : ¬ ((s.getD ((i : Int).toNat * 1) 0).toNat : Int) = ((t.getD ((i : Int).toNat * 1) 0).toNat : Int) := by
     rw [ei]; intro h; exact he (UInt8.toNat_inj.1 (by omega))
    repeat (first|refine Yd7 ?_|refine Yaf ?_|refine Yas ?_|refine Ya1 ?_|refine Yeb ?_|refine Yab ?_)
    refine Zao (.s 0 (.s 1 (.s 2 (.s 3 (.s 4 (.s 5 (.s 6 (.s 7 (.s 8 .nil))))))))) mixed (by kernel_rfl) rfl ?_
    have hS := hS.drew
    repeat (first|refine Yd7 ?_|refine Yag ?_|refine Yeo ?_|refine Yes ?_|(refine Zad ?_;first|refine Yaz ?_|refine Ya2 ?_|refine Zak rfl rfl (fun _ => Zh1 rfl rfl rfl (by omega)) rfl rfl ?_|refine Yb3 ?_|refine Ydg ?_|refine Yd5 ?_))
    refine ⟨?_,hS⟩
    rw [decide_eq_false (fun h => he (by rw [h]))]
  ·obtain rfl : i = s.length := by omega
   repeat (first|refine Yd7 ?_|refine Yaf ?_|refine Yag ?_|refine Yas ?_|refine Ya3 ?_|refine Yeg ?_|refine Ye2 ?_)
   refine ⟨?_,hS⟩
   rw [List.take_length,hl,List.take_length] at htk
   simp [htk]
 ·refine Zab Tryz.func35 rfl Tryz.ntmps35 rfl ?_
  repeat (first|refine Yd7 ?_|refine Yaf ?_|refine Yag ?_|refine Yas ?_|refine Ybl ?_|refine Yeo ?_|refine Yep ?_)
  exact ⟨by rw [decide_eq_false (fun h => hl (by rw [h]))],hS⟩
end Cr
namespace Cr
open Go Go.Proofs
set_option maxRecDepth 100000
set_option maxHeartbeats 16000000
attribute [local irreducible] Calls

end Cr
namespace Cr
open Go Go.Proofs
set_option maxRecDepth 100000
set_option maxHeartbeats 16000000
attribute [local irreducible] Calls

theorem Zv3 : Zc1 [] = zero64 := by simp [Zc1,zero64]
theorem Zg9 : zero64.length = 64 := by simp [zero64]
theorem Z1s (rd fs : List Int) {dat : List (List UInt8)} {n nb : Nat} (hd : dat.length = 1 + n + nb) (hz : ∀ i,i < n → dat.getD (1 + i) [] = zero64) : Enc rd fs (Zb4 dat [(0,Zck rd fs n)]) n nb [] := by
 have hg : ∀ k,k < dat.length → (Zb4 dat [(0,Zck rd fs n)]).getD k [] = if k = 0 then Zck rd fs n else dat.getD k [] := fun k hk => by
  rw [Zde _ _ _ hk (fun v hv => by rw [List.mem_singleton] at hv; rw [hv]; exact Int.le_refl _),Zd5]
  by_cases h : k = 0
  ·subst h; simp [Zcp]
  ·rw [if_neg h,if_neg (by simp only; omega)]; simp [Zcp]
 refine ⟨by rw [Zax]; exact hd,by rw [hg 0 (by omega),if_pos rfl],fun k hk => by simp [Zaw] at hk,by simp [Zaw],fun i hi => ?_,fun x hx => by simp at hx,fun x hx => by simp at hx,by simp [Zaz]⟩
 rw [hg _ (by omega),if_neg (by omega),hz i hi]
 rfl
theorem Z0r (n : Nat) : tabOf [] n = List.replicate n none := by
 apply List.ext_getElem
 ·simp [tabOf]
 ·intro i h1 h2
  simp [tabOf,getA]
theorem Z1r (lp p j m n nb : Nat) (dat : List (List UInt8)) (rd fs : List Int) (W : World) (F : Nat → Prop) (hG : Gl W F rd fs) (hd : dat.length = 1 + n + nb) (h1 : 1 ≤ n) (h4 : n ≤ 400) (hnb : 1 ≤ nb) (hj : 2 ≤ j) (hm : (m : Int) < last)
  (h0 : dat.getD 0 [] = zero64) (hz : ∀ i,i < n → dat.getD (1 + i) [] = zero64) (hS : St W F [qlog lp p j m dat] W) :
  Calls Tryz.prog 39 #[.pointer (some ⟨lp,0,none⟩),.int .i64 (n : Nat)] W (Ret fun v w => ∃ tp,v = .tuple #[.pointer (some ⟨tp,0,none⟩),.int .i64 0] ∧ St W F [itab rd fs tp lp p j (m + 1) n nb (List.replicate n none)] w) := by
 have hqr : ∀ w rs,St W F (qlog lp p j m dat :: rs) w → Rd w (qlog lp p j m dat) := fun w rs h => h.rd (List.mem_cons_self ..)
 have hrd := fun w rs (h : St W F (qlog lp p j m dat :: rs) w) => Z2z lp p j m dat 0 w (hqr _ _ h) (by omega)
 rw [h0] at hrd
 have heq := fun w a c p h1 h2 => Zsq a (some ⟨p,0,none⟩) 64 64 c 64 zero64 zero64 w h1 h2 Zg9 Zg9
 rw [decide_eq_true rfl] at heq
 refine Zab Tryz.func39 rfl Tryz.ntmps39 rfl ?_
 repeat (first|refine Yd7 ?_|refine Yaf ?_|refine Yag ?_|refine Ybq ?_|refine Yet ?_|refine Yab ?_)
 refine Zae _ rfl rfl rfl rfl rfl hS (may_ lp p j m n dat _ (hqr _ _ hS) h1 h4 (by omega)) ?_
 rintro _ w rfl hS
 repeat (first|refine Yd7 ?_|refine Yaf ?_|refine Yag ?_|refine Ybc ?_|refine Yei ?_|refine Yef ?_)
 refine Zaa _ rfl rfl rfl rfl rfl (hrd _ _ hS) ?_
 rintro _ w ⟨a,c,rfl,hc,hS'⟩
 replace hS := hS.plus hS'
 clear hS'
 repeat (first|refine Yd7 ?_|refine Yfb ?_|refine Yei ?_|refine Yab ?_)
 refine Zaa _ rfl rfl rfl rfl rfl (Znf none 0 [] _ (Zmi _ _)) ?_
 rintro _ w ⟨q,rfl,hS'⟩
 replace hS := hS.plus hS'
 clear hS'
 rw [Zv3] at hS
 repeat (first|refine Yd7 ?_|(refine X_id ?_;first|(refine Zaa 58 rfl rfl rfl rfl rfl (heq _ a c q (hS.rd (by simp)) (hS.rd (by simp))) ?_;rintro _ _ ⟨rfl,rfl⟩)|refine Yaf ?_|refine Ybc ?_)|refine Yei ?_|refine Yab ?_)
 refine Zaa _ rfl rfl rfl rfl rfl (Z0o n rd fs _ (hG.mono fun r hr => (hr.rd hS).ro)) ?_
 rintro _ w ⟨q2,rfl,hS'⟩
 replace hS := hS.plus hS'
 clear hS'
 repeat (first|refine Yaa ?_|refine Ybn ?_|refine Ybf (fun _ _ hS _ => ?_))
 rename_i bw _ _
 obtain ⟨_,hc4,hr4,hw4,hbk4⟩ := hS.call [false,false,false,false,true]
 have hck : Zca [((0 : Int),Zck rd fs n)] = 0 := by
  have : (Zck rd fs n).length = 64 := Zbu _
  simp [Zca,badW,Zbh,this]
 refine Zaa _ rfl rfl rfl rfl rfl (Zr0 lp p j m dat (some ⟨bw,0,none⟩) 1 [⟨0,⟨some ⟨q2,0,none⟩,64,Zck rd fs n⟩⟩] rd fs _ _ (hG.mono hw4) ⟨?_,fun v hv => ?_⟩ (by simp) hm hck ?_ hc4) ?_
 ·have h := (hr4 (own 181 2 (some ⟨bw,0,none⟩) 1 [.int .i64 0,.slice (some ⟨q2,0,none⟩) 64 64]) (by simp)).own_row
  have e : (List.flatMap Wr.cells [⟨0,⟨some ⟨q2,0,none⟩,64,Zck rd fs n⟩⟩]) = [.int .i64 0,.slice (some ⟨q2,0,none⟩) 64 64] := by
   have : (Zck rd fs n).length = 64 := Zbu _
   simp [Wr.cells,this]
  rw [e]; exact h
 ·rw [List.mem_singleton] at hv
  rw [hv]
  exact hr4 (bytes (some ⟨q2,0,none⟩) (Zck rd fs n)) (by simp)
 ·simp [hasM,Wr.data]; omega
 rintro _ w (⟨hfull,_,_⟩ | ⟨_,rfl,hS⟩)
 ·simp only [List.length_cons,List.length_nil] at hfull; omega
 replace hS := hbk4 hS
 clear hc4 hr4 hw4 hbk4
 repeat (first|refine Yd7 ?_|refine Yaf ?_|refine Yag ?_|refine Yba ?_|refine Yei ?_|refine Yab ?_)
 refine Ze6 (Value.int .i64) rfl rfl rfl hS (fun r w hS => ?_)
 repeat (first|refine Yd7 ?_|refine Yag ?_|refine Ybn ?_|refine Ya9 (fun _ _ hS _ => ?_)|refine Yah ?_|refine Yev ?_)
 rename_i tp _ _
 refine ⟨tp,rfl,?_⟩
 have h := (hS.bagNil).took (out := [Zh9 tp lp n r,mapq (Value.int .i64) r [],bag [],qlog lp p j (m + 1) (Zb4 dat (List.map Wr.data [⟨0,⟨some ⟨q2,0,none⟩,64,Zck rd fs n⟩⟩]))])
 exact St.shutItab (A := []) (dat := Zb4 dat [(0,Zck rd fs n)]) ⟨Z0r n,Z1s rd fs hd hz,h1,h4,hnb⟩ h
end Cr
namespace Cr
open Go Go.Proofs
set_option maxRecDepth 100000
set_option maxHeartbeats 16000000
attribute [local irreducible] Calls

end Cr
namespace Cr
open Go Go.Proofs
set_option maxRecDepth 100000
set_option maxHeartbeats 16000000
attribute [local irreducible] Calls

end Cr
namespace Cr
open Go Go.Proofs
set_option maxRecDepth 100000
set_option maxHeartbeats 16000000
attribute [local irreducible] Calls

theorem St.sorted {W : World} {F : Nat → Prop} {rs : List Res} {w : World} {T : TypeId} {b c : Nat} {P : List Int} (Q : List Int) (hQ : Q.length = P.length) (hpos : 0 < P.length) (n : Nat) (os : Array Obj) (hS : St W F (own T 1 (some ⟨b,0,none⟩) c (ints .i64 P) :: rs) w) :
  St W F (own T 1 (some ⟨b,0,none⟩) c (ints .i64 Q) :: rs) (Sort.grow (Sort.putRow (Value.int .i64) (Sort.ahead w n) b 0 Q.toArray) os) := by
 obtain ⟨g,⟨g1,g2,hown,hrest,hdj,hun⟩,s⟩ := hS
 obtain ⟨hle,hcm,⟨rfl,_⟩ | ⟨b',cells,hbe,rfl,hcz,ht⟩⟩ := hown
 ·rw [Nat.zero_mul,ints_length] at hle; omega
 ·obtain rfl : b = b' := by simpa using hbe
  have hb : w.heap[b]? = some (.cells cells T (0,0)) := s.agrees b _ (by rw [hun,Zam]; rfl)
  have hS2 : St W F (pts b (.cells cells T (0,0)) :: rs) w := ⟨g,⟨_,g2,rfl,hrest,hdj,hun⟩,s⟩
  have u : SetBlock w (Sort.putRow (Value.int .i64) (Sort.ahead w n) b 0 Q.toArray) b (.cells (Sort.putCells (Value.int .i64) 0 Q.toArray cells) T (0,0)) := by
   refine ⟨by simp,?_,fun k hk => ?_,rfl,rfl,rfl⟩
   ·simp only [Sort.putRow,Sort.mapBlock,Sort.heap_ahead]
    rw [Array.getElem?_modify,if_pos rfl,hb]; rfl
   ·simp only [Sort.putRow,Sort.mapBlock,Sort.heap_ahead]
    rw [Array.getElem?_modify,if_neg (Ne.symm hk)]
  have hS3 := hS2.set u
  have hbel : RowKit.Below (Sort.putRow (Value.int .i64) (Sort.ahead w n) b 0 Q.toArray).heap.size (Sort.putRow (Value.int .i64) (Sort.ahead w n) b 0 Q.toArray) (Sort.grow (Sort.putRow (Value.int .i64) (Sort.ahead w n) b 0 Q.toArray) os) :=
   ⟨rfl,rfl,rfl,by simp [Sort.grow],fun k hk => by
    simp only [Sort.grow]
    rw [Array.getElem?_append_left hk]⟩
  refine (hS3.below hbel).head fun h hh => ?_
  have hPl : P.length ≤ cells.size := by rw [ints_length] at hle; omega
  have key := Za4 (T := T) (e := 1) (c := c) (b := b) (l := (Sort.putCells (Value.int .i64) 0 Q.toArray cells).toList) (cs := ints .i64 Q) (by simp [Sort.putCells,hcz]) hcm (by
   apply List.ext_getElem?
   intro k
   rw [List.getElem?_take,ints_length]
   by_cases hk : k < Q.length
   ·rw [if_pos hk]
    simp only [Sort.putCells,Array.toList_mapIdx,List.getElem?_mapIdx]
    have hkc : k < cells.toList.length := by simp; omega
    rw [List.getElem?_eq_getElem hkc]
    simp [ints,hk]
   ·rw [if_neg hk,List.getElem?_eq_none (by rw [ints_length]; omega)])
  exact key h (by simpa using hh)
theorem St.ownHolds {W : World} {F : Nat → Prop} {rs : List Res} {w : World} {T b c : Nat} {P : List Int} (hS : St W F (own T 1 (some ⟨b,0,none⟩) c (ints .i64 P) :: rs) w) (hpos : 0 < P.length) : Sort.Holds (Value.int .i64) w b 0 P.toArray ∧ b < w.heap.size := by
 obtain ⟨g,⟨g1,g2,hown,hrest,hdj,hun⟩,s⟩ := hS
 obtain ⟨hle,hcm,⟨rfl,_⟩ | ⟨b',cells,hbe,rfl,hcz,ht⟩⟩ := hown
 ·rw [Nat.zero_mul,ints_length] at hle; omega
 ·obtain rfl : b = b' := by simpa using hbe
  have hb : w.heap[b]? = some (.cells cells T (0,0)) := s.agrees b _ (by rw [hun,Zam]; rfl)
  refine ⟨fun j hj => ?_,Zb3 hb⟩
  have hj : j < P.length := by simpa using hj
  rw [Nat.zero_add]
  refine ⟨?_,frozen_of_row w b j cells T hb⟩
  rw [cell_of_row w b j cells T (0,0) hb]
  have h1 := congrArg (fun l => l[j]?) ht
  simp only [List.getElem?_take,ints_length,hj,if_true] at h1
  rw [ints_get hj] at h1
  have e : P.toArray[j]! = P.getD j 0 := by
   rw [getElem!_pos _ j (by simpa using hj)]
   simp [List.getD_eq_getElem?_getD,hj]
  rw [e]
  simpa using h1
theorem Z3i (l bx r : Nat) (A : AV) (T : TypeId) (w : World) (W : World) (F : Nat → Prop) (S : List Int → List Res) (hm : Ro W F (mapq (Value.int .i64) r A.vals)) (hbx : Ro W F (pts bx (.cells #[.map (some r)] T)))
  (hstep : ∀ (P : List Int) (k : Int) (it : Nat) (o : Obj) (w : World),P.length < A.length → St W F (pts it o :: S P) w → ∃ rc : Loop,rc.params.size = 1 ∧ w.heap[l]? = some (.loop rc) ∧
   RoundIn Fence.wide 0 Tryz.prog l rc.fn ((rc.params.zip #[.int .i64 k]).foldl (fun tmps (t,a) => tmps.setIfInBounds t a) rc.tmps) rc.assign rc.body w (Ret fun v w' => v = .bool true ∧ St W F (pts it o :: S (P ++ [k])) w'))
  (hS : St W F (S []) w) :
  CallsIn Fence.wide 0 Tryz.prog 235 #[.func (.yield l) #[] #[],.pointer (some ⟨bx,0,none⟩)] w (Ret fun _ w' => ∃ P it o,P.Perm (Zaw A) ∧ St W F (pts it o :: S P) w') := by
 refine callsIn_wide.2 ?_
 obtain ⟨es,clock,hes,hst,hmp⟩ := hm.openMap
 refine Zab Tryz.func235 rfl Tryz.ntmps235 rfl ?_
 repeat (first|refine Yaa ?_|refine Yd8 ?_)
 refine X_yl (Zat rfl rfl ((cell_of_row _ bx 0 #[.map (some r)] T (0,0) (hbx.rd hS).pts).trans rfl)) rfl rfl ?_
 repeat (first|refine Yaa ?_)
 refine Zmh rfl rfl (hmp.rd hS) rfl rfl hS (fun it w hS _ => ?_)
 repeat (first|refine Yac ?_|refine Yak ?_|refine Yab ?_)
 refine Zal (α := Array Nat × List Int) (fun _ => [(0,.func (.yield l) #[] #[]),(5,.pointer (some ⟨it,0,none⟩))])
  (fun z w => (z.2.map (Value.int .i64) ++ (Zdd es z.1).map (·.key)).Perm (es.toList.map (·.key)) ∧ St W F (pts it (.mapIter (some r) clock z.1 clock) :: S z.2) w) (fun z => (Zdd es z.1).length) (#[],[]) ⟨rfl,rfl,trivial⟩ ⟨by rw [Zj8]; exact List.Perm.refl _,hS⟩ ?_
 clear hS
 rintro ⟨seen,P⟩ w ⟨hp,hS⟩
 simp only at hp hS ⊢
 have hek : es.toList.map (·.key) = (Zaw A).map (Value.int .i64) := by
  have e1 : es.toList.map (·.key) = (kvs es).map (·.1) := by simp [kvs,Function.comp_def]
  rw [e1,hes]
  simp [AV.vals,Zaw,Function.comp_def]
 repeat (first|refine Yaa ?_|refine Yd8 ?_)
 refine Zp2 rfl rfl hst (hmp.rd hS) rfl rfl hS (fun h0 => ?_) (fun e he w hS => ?_)
 ·repeat (first|refine Yd7 ?_|refine Yay ?_|refine Yae ?_|refine Ya5 ?_|refine Yai ?_|refine Yab ?_|refine Ya6 ?_|refine Ya7 ?_|refine Ybu ?_)
  rw [h0,List.map_nil,List.append_nil,hek] at hp
  have hp2 := hp.map (fun v => match v with | Value.int _ i => i | _ => 0)
  simp only [List.map_map,Function.comp_def,List.map_id'] at hp2
  exact ⟨P,it,_,hp2,hS⟩
 ·have hel : e ∈ es.toList := (List.mem_filter.1 he).1
  have hstep2 := Zlw hst he
  obtain ⟨x,hxA,hk,hv⟩ := Zsr hes hel
  have hlt : (Zdd es (seen.push e.born)).length < (Zdd es seen).length := by rw [hstep2.length_eq]; simp
  have hp3 : ((P ++ [x.1]).map (Value.int .i64) ++ (Zdd es (seen.push e.born)).map (·.key)).Perm (es.toList.map (·.key)) := by
   refine List.Perm.trans ?_ hp
   rw [List.map_append,List.append_assoc]
   refine List.Perm.append_left _ ?_
   have := (hstep2.map (·.key)).symm
   rw [List.map_cons,hk] at this
   exact this
  repeat (first|refine Yd7 ?_|refine Yay ?_|refine Yeb ?_|refine Yab ?_)
  refine X_yl (Zs9 rfl rfl hst hel hS.has (hmp.rd hS).pts) rfl rfl ?_
  rw [hk]
  iterate 12 (first | (refine G_id ?_; first | refine Zir ?_ | refine Zcv rfl rfl ?_) | (refine X_id ?_; first | refine X_yl (Zbm rfl rfl) rfl rfl ?_ | refine X_yl (Za3 rfl rfl) rfl rfl ?_ | refine X_yl (Zc8 rfl rfl) rfl rfl ?_) | (refine C_id ?_; first | refine Zco ?_ | refine Zav ?_) | (refine E_id ?_; first | refine Zci ?_))
  have hPl : P.length < A.length := by
   have h1 := hp3.length_eq
   rw [hek] at h1
   simp [Zaw] at h1
   omega
  obtain ⟨rc,hps,hl,hr⟩ := hstep P x.1 it _ w hPl hS
  refine Zrh rfl rfl rfl rfl rfl rfl hl (by rw [hps]; rfl) hr ?_
  rintro v w' ⟨rfl,hS⟩
  repeat (first|refine Yd7 ?_|refine Ybc ?_|refine Yal ?_|refine Yai ?_|refine Yef ?_)
  exact Zag (z := (seen,P)) (seen.push e.born,P ++ [x.1]) ⟨rfl,rfl,trivial⟩ ⟨hp3,hS⟩ hlt
theorem Fr.round1 {σ : Env} {N : Nat} {tm : Array Value} (hsz : tm.size = N) (h : ∀ n v,look σ n = some v → tm[n]? = some v) (l : Nat) {a : Nat} (x : Value) (ha : a < N) :
  Fr ((a,x) :: σ) N ⟨[],some l⟩ { tmps := (#[a].zip #[x]).foldl (fun tmps (t,v) => tmps.setIfInBounds t v) tm,defers := [] } := by
 have := (Fr.round (σ := σ) (N := N) hsz h l).put ha x
 simpa [Act.put] using this
def seqR (b : Nat) (P : List Int) : Res := fun h => ∃ a c,P.length ≤ c ∧ Sep [pts b (.cells #[.slice a P.length c] 270),own 3 1 a c (ints .i64 P)] h
theorem St.openSeq {W : World} {F : Nat → Prop} {b : Nat} {P : List Int} {rs : List Res} {w : World} (hS : St W F (seqR b P :: rs) w) : ∃ a c,P.length ≤ c ∧ St W F (pts b (.cells #[.slice a P.length c] 270) :: own 3 1 a c (ints .i64 P) :: rs) w := by
 obtain ⟨h,⟨h1,h2,⟨a,c,hc,hs⟩,hr,hd,hu⟩,s⟩ := hS
 exact ⟨a,c,hc,h,Sep.append_mk hs hr hd hu,s⟩
theorem St.shutSeq {W : World} {F : Nat → Prop} {b c : Nat} {a : Option Addr} {P : List Int} {rs : List Res} {w : World} (hc : P.length ≤ c) (hS : St W F (pts b (.cells #[.slice a P.length c] 270) :: own 3 1 a c (ints .i64 P) :: rs) w) : St W F (seqR b P :: rs) w :=
 St.shutR (rs' := [pts b (.cells #[.slice a P.length c] 270),own 3 1 a c (ints .i64 P)]) hS fun _ hh => ⟨a,c,hc,hh⟩
theorem Zul (bx r : Nat) (A : AV) (T : TypeId) (W : World) (hm : Rd W (mapq (Value.int .i64) r A.vals)) (hbx : Rd W (pts bx (.cells #[.map (some r)] T))) (hAl : A.length ≤ 1000) :
  Calls Tryz.prog 257 #[.slice none 0 0,.func (.func 235) #[] #[.pointer (some ⟨bx,0,none⟩)]] W (Ret fun v w => ∃ P a c,v = .slice a P.length c ∧ P.length ≤ c ∧ P.Perm (Zaw A) ∧ St W noF [own 3 1 a c (ints .i64 P)] w) := by
 have hmo := hm.ro
 have hbo := hbx.ro
 have hS := St.start W
 refine Zab Tryz.func257 rfl Tryz.ntmps257 rfl ?_
 repeat (first|refine Yd7 ?_|refine Yel ?_|refine Ya9 (fun _ _ hS _ => ?_)|refine Yea ?_|refine Yab ?_)
 rename_i b2 _ _
 have hS := hS.own_none 3 1 none
 have hS : St W noF [seqR b2 []] _ := (hS.pick [1,0]).shutSeq (Nat.le_refl _)
 refine Zg7 (first := []) (captured := [.pointer (some ⟨bx,0,none⟩)])
  (fun l rr j w => j = none ∧ ∃ P it o lo,P.Perm (Zaw A) ∧ St W noF [pts l lo,pts rr (.deferred (some [])),pts it o,seqR b2 P] w) rfl rfl hS ?_ ?_ ?_
 ·intro Aa B hA hB fn tm l rr w1 htm hlook hS
  refine Zf0 (Z3i l bx r A T w1 W noF (fun P => [pts l (.loop (recd fn tm #[7] Aa B rr .ready none)),pts rr (.deferred (some [])),seqR b2 P]) hmo hbo ?_ hS) ?_
  ·intro P k it o w hPl hS
   refine ⟨_,rfl,hS.has (b := l),?_⟩
   show RoundIn Fence.wide 0 Tryz.prog l fn ((#[7].zip _).foldl _ tm) Aa B w _
   refine Zqk (Fr.round1 (a := 7) htm hlook l (.int .i64 k) (by decide)) ?_
   refine C_eq hA ?_
   repeat (first|refine Yd7 ?_|refine Yag ?_|refine Yad ?_)
   refine Zn1 (hS.has (b := l)) (fun w hset => ?_)
   replace hS := hS.upd hset
   refine C_eq hB ?_
   obtain ⟨a,c,hc,hS⟩ := (hS.pick [3,0,0,0]).openSeq
   repeat (first|refine Yaa ?_|refine Yaf ?_|refine Yap ?_|refine Ybf (fun _ _ hS _ => ?_)|refine Yad ?_|refine Yak ?_)
   refine Zas (m := 1) rfl rfl rfl rfl rfl hS (by rw [ints_length,Nat.mul_one]) hc ((hS.rd (List.mem_cons_self ..)).own_row) (by simp) (by simp [Value.oneCell']) (by omega) (by simp only [maxLen]; omega) (fun a' c' w hS hc' _ => ?_)
   repeat (first|refine Yd7 ?_|refine Yao (fun _ hS _ => ?_)|refine Yav ?_)
   refine Zkz (hS.has (b := l)) (fun w hset => ⟨_,rfl,rfl,?_⟩)
   replace hS := hS.upd hset
   have h := hS.took (out := [pts b2 (.cells #[.slice a' (P.length + 1) c'] 270),own 3 1 a' c' (ints .i64 P ++ [.int .i64 k]),pts it o,pts l (.loop (recd fn tm #[7] Aa B rr .ready none)),pts rr (.deferred (some []))])
   have h2 : St W noF [seqR b2 (P ++ [k]),pts it o,pts l (.loop (recd fn tm #[7] Aa B rr .ready none)),pts rr (.deferred (some []))] w := St.shutSeq (b := b2) (P := P ++ [k]) (a := a') (c := c') (by simpa using hc') (by rw [Zka,List.length_append]; exact h)
   exact h2.pick [1,1,1,0]
  ·rintro _ w3 ⟨P,it,o,hp,hS⟩
   exact ⟨_,_,by simp,hS.has (b := l),fun w4 hset => ⟨rfl,P,it,o,_,hp,(hS.upd hset).pick [1,1,0,0]⟩⟩
 ·rintro l rr w4 ⟨_,P,it,o,lo,hp,hS⟩
  obtain ⟨a,c,hc,hS⟩ := (hS.pick [3,0,0,0]).openSeq
  repeat (first|refine Yd7 ?_|refine Yag ?_|refine Yap ?_|refine Yek ?_|refine Yab ?_|refine Znz rfl ?_|refine Yav ?_)
  refine Ztd (.inl rfl) hS.has (fun w hset => ?_)
  replace hS := hS.upd hset
  repeat (first|refine Yam ?_)
  exact ⟨P,a,c,rfl,hc,hp,hS.took⟩
 ·rintro l rr c w4 hJ
  cases hJ.1
theorem Zy6 (bx r : Nat) (A : AV) (T : TypeId) (W : World) (hm : Rd W (mapq (Value.int .i64) r A.vals)) (hbx : Rd W (pts bx (.cells #[.map (some r)] T))) (hAl : A.length ≤ 1000) :
  Calls Tryz.prog 233 #[.func (.func 235) #[] #[.pointer (some ⟨bx,0,none⟩)]] W (Ret fun v w => ∃ P a c,v = .slice a P.length c ∧ P.length ≤ c ∧ P.Perm (Zaw A) ∧ St W noF [own 3 1 a c (ints .i64 P)] w) := by
 have hmo := hm.ro
 have hbo := hbx.ro
 have hS := St.start W
 refine Zab Tryz.func233 rfl Tryz.ntmps233 rfl ?_
 repeat (first|refine Yd7 ?_|refine Yel ?_|refine Yd8 ?_|refine Yab ?_)
 refine Zaa _ rfl rfl rfl rfl rfl (Zul bx r A T _ (hmo.rd hS) (hbo.rd hS) hAl) ?_
 rintro _ w ⟨P,a,c,rfl,hc,hp,hS'⟩
 replace hS := hS.plus hS'
 clear hS'
 repeat (first|refine Yd7 ?_|refine Yag ?_|refine Yah ?_|refine Yd9 ?_)
 exact ⟨P,a,c,rfl,hc,hp,hS.took⟩
theorem Z2q (a : Option Addr) (c : Nat) (w : World) : Calls Tryz.prog 234 #[.slice a 0 c] w (Ret fun _ w' => w' = w) :=
 (Tryz.slices_Sort_int_none a c w).mono fun _ _ h => ⟨_,h.1,h.2⟩
theorem Z2p (b c : Nat) (P : List Int) (w : World) (hH : Sort.Holds (Value.int .i64) w b 0 P.toArray) (hlt : b < w.heap.size) (hl : P.length < 4611686018427387904) :
  Calls Tryz.prog 234 #[.slice (some ⟨b,0,none⟩) P.length c] w (Ret fun _ w' => ∃ n os,w' = Sort.grow (Sort.putRow (Value.int .i64) (Sort.ahead w n) b 0 (P.mergeSort fun x y => decide (x ≤ y)).toArray) os) :=
 (Tryz.slices_Sort_int b 0 c P w hH hlt hl).mono fun _ _ h => ⟨_,h.1,h.2⟩
theorem Z0v (bx r : Nat) (A : AV) (T : TypeId) (W : World) (hm : Rd W (mapq (Value.int .i64) r A.vals)) (hbx : Rd W (pts bx (.cells #[.map (some r)] T))) (hAl : A.length ≤ 1000) :
    Calls Tryz.prog 203 #[.func (.func 235) #[] #[.pointer (some ⟨bx,0,none⟩)]] W (Ret fun v w => ∃ P a c,v = .slice a P.length c ∧ P.length ≤ c ∧ P.Perm (Zaw A) ∧ P.Pairwise (· ≤ ·) ∧ St W noF [own 3 1 a c (ints .i64 P)] w) := by
  have hmo := hm.ro
  have hbo := hbx.ro
  have hS := St.start W
  refine Zab Tryz.func203 rfl Tryz.ntmps203 rfl ?_
  repeat (first|refine Yd7 ?_|refine Yel ?_|refine Yd8 ?_|refine Yab ?_)
  refine Zaa _ rfl rfl rfl rfl rfl (Zy6 bx r A T _ (hmo.rd hS) (hbo.rd hS) hAl) ?_
  rintro _ w ⟨P,a,c,rfl,hc,hp,hS'⟩
  replace hS := hS.plus hS'
  clear hS'
  repeat (first|refine Yd7 ?_|refine Yel ?_|refine Yd8 ?_|refine Yab ?_)
  by_cases h0 : P.length = 0
  · obtain rfl : P = [] := List.length_eq_zero_iff.1 h0
    refine Zaa _ rfl rfl rfl rfl rfl (Z2q a c _) ?_
    rintro v w' rfl
    repeat (first|refine Yd7 ?_|refine Yel ?_|refine Yek ?_|refine Yd9 ?_)
    exact ⟨[],a,c,rfl,hc,hp,List.Pairwise.nil,hS.took⟩
  · obtain ⟨b,rfl⟩ := hS.ownBase (by intro e; exact h0 (by simpa [ints] using congrArg List.length e))
    obtain ⟨hH,hlt⟩ := hS.ownHolds (by omega)
    have hlen := hp.length_eq
    rw [show (Zaw A).length = A.length by simp [Zaw]] at hlen
    refine Zaa _ rfl rfl rfl rfl rfl (Z2p b c P _ hH hlt (by omega)) ?_
    rintro v w' ⟨n,os,rfl⟩
    have hPm : (P.mergeSort fun x y => decide (x ≤ y)).length = P.length := List.length_mergeSort _
    replace hS := hS.sorted (P.mergeSort fun x y => decide (x ≤ y)) hPm (by omega) n os
    repeat (first|refine Yd7 ?_|refine Yel ?_|refine Yek ?_|refine Yd9 ?_)
    refine ⟨P.mergeSort fun x y => decide (x ≤ y),_,c,by rw [hPm],by rw [hPm]; exact hc,(List.mergeSort_perm _ _).trans hp,?_,hS.took⟩
    have := List.pairwise_mergeSort (le := fun x y => decide (x ≤ y)) (fun a b c h1 h2 => by simp only [decide_eq_true_eq] at h1 h2 ⊢; omega) (fun a b => by simp only [Bool.or_eq_true,decide_eq_true_eq]; omega) P
    exact this.imp (fun h => by simpa using h)
theorem Z3d (r : Nat) (W : World) : Calls Tryz.prog 204 #[.map (some r)] W (Ret fun v w => ∃ bx,v = .func (.func 235) #[] #[.pointer (some ⟨bx,0,none⟩)] ∧ St W noF [pts bx (.cells #[.map (some r)] 182)] w) := by
 have hS := St.start W
 refine Zab Tryz.func204 rfl Tryz.ntmps204 rfl ?_
 repeat (first|refine Yd7 ?_|refine Yag ?_|refine Yce ?_|refine Ya9 (fun _ _ hS _ => ?_)|refine Yek ?_|refine Yd9 ?_)
 exact ⟨_,rfl,hS.took⟩
def Zn8 (T : Tb) : List Int := ((List.range T.length).filter fun i => (T.getD i none).isSome).map fun i => ((i : Nat) : Int)
theorem Zn7 (T : Tb) : (Zn8 T).Pairwise (· < ·) := by
  unfold Zn8
  rw [List.pairwise_map]
  exact (List.pairwise_lt_range.sublist List.filter_sublist).imp (fun h => by omega)
theorem Zlk : ∀ {P Q : List Int},P.Pairwise (· < ·) → Q.Pairwise (· < ·) → (∀ x,x ∈ P ↔ x ∈ Q) → P = Q
  | [],[],_,_,_ => rfl
  | [],y :: Q,_,_,h => absurd ((h y).2 (List.mem_cons_self ..)) (List.not_mem_nil)
  | x :: P,[],_,_,h => absurd ((h x).1 (List.mem_cons_self ..)) (List.not_mem_nil)
  | x :: P,y :: Q,hP,hQ,h => by
    have hP' := List.pairwise_cons.1 hP
    have hQ' := List.pairwise_cons.1 hQ
    have e : x = y := by
      rcases List.mem_cons.1 ((h x).1 (List.mem_cons_self ..)) with e | hx
      · exact e
      · rcases List.mem_cons.1 ((h y).2 (List.mem_cons_self ..)) with e | hy
        · exact e.symm
        · have h1 := hQ'.1 x hx
          have h2 := hP'.1 y hy
          omega
    subst e
    congr 1
    refine Zlk hP'.2 hQ'.2 fun z => ⟨fun hz => ?_,fun hz => ?_⟩
    · rcases List.mem_cons.1 ((h z).1 (List.mem_cons_of_mem _ hz)) with e | hz'
      · subst e; exact absurd (hP'.1 z hz) (by omega)
      · exact hz'
    · rcases List.mem_cons.1 ((h z).2 (List.mem_cons_of_mem _ hz)) with e | hz'
      · subst e; exact absurd (hQ'.1 z hz) (by omega)
      · exact hz'
section
variable {rd fs : List Int} {tp lp p j m n nb : Nat} {T : Tb}
theorem Ztg {A : AV} {dat : List (List UInt8)} (h : TabOk rd fs n nb T A dat) {P : List Int} (hp : P.Perm (Zaw A)) (hs : P.Pairwise (· ≤ ·)) : P = Zn8 T := by
  have hn : P.Nodup := hp.nodup_iff.2 (by rw [← Zo0]; exact h.enc.nodup)
  refine Zlk ?_ (Zn7 T) fun x => ?_
  · have := hs.and hn
    exact this.imp (fun h => by omega)
  · rw [hp.mem_iff]
    have hat := h.at_ x
    have hk : x ∈ Zaw A ↔ (atT T x).isSome = true := by
      rw [← hat,Option.isSome_map]
      have := getA_none (k := x) (l := A)
      cases hg : getA x A with
      | none => simp [this.1 hg]
      | some v =>
        simp only [Option.isSome_some,iff_true]
        exact Decidable.byContradiction fun q => by rw [this.2 q] at hg; cases hg
    rw [hk]
    unfold Zn8 atT
    constructor
    · intro hx
      split at hx
      · rename_i h0
        have hlt : x.toNat < T.length := by
          rcases Nat.lt_or_ge x.toNat T.length with h | h
          · exact h
          · rw [List.getD_eq_getElem?_getD,List.getElem?_eq_none h] at hx; cases hx
        exact List.mem_map.2 ⟨x.toNat,List.mem_filter.2 ⟨List.mem_range.2 hlt,hx⟩,by omega⟩
      · cases hx
    · intro hx
      obtain ⟨i,hi,rfl⟩ := List.mem_map.1 hx
      rw [if_pos (by omega),Int.toNat_natCast]
      exact (List.mem_filter.1 hi).2
theorem Z4x {r : Nat} {A : AV} {dat : List (List UInt8)} (W : World) (hI : ItabRd W rd fs tp lp p j m n nb T r A dat) : Calls Tryz.prog 151 #[.pointer (some ⟨tp,0,none⟩)] W (Ret fun v w => ∃ a c,v = .slice a (Zn8 T).length c ∧ (Zn8 T).length ≤ c ∧ St W noF [own 3 1 a c (ints .i64 (Zn8 T))] w) := by
 have hc := hI.t.ro
 have hmo := hI.mp.ro
 have hAl : A.length ≤ 1000 := by
  have h1 := hI.ok.enc.nodup
  have h2 := hI.ok.enc.keys
  have h4 := hI.ok.n4
  have h3 : (Zaw A.ents).length ≤ ((List.range n).map fun i => ((i : Nat) : Int)).length := h1.length_le_of_subset fun k hk => by
   have := h2 k hk
   exact List.mem_map.2 ⟨k.toNat,List.mem_range.2 (by omega),by omega⟩
  simp [Zaw,AV.ents] at h3
  omega
 have hS := St.start W
 refine Zab Tryz.func151 rfl Tryz.ntmps151 rfl ?_
 repeat (first|refine Yd7 ?_|(refine X_id ?_;first|refine Yaf ?_|refine Yag ?_|refine Yat ?_|refine Yan ?_|refine Ybq ?_|refine Yb6 ?_)|refine Yei ?_|refine Yab ?_)
 refine Zaa _ rfl rfl rfl rfl rfl (Z3d r _) ?_
 rintro _ w ⟨bx,rfl,hS'⟩
 replace hS := hS.plus hS'
 clear hS'
 repeat (first|refine Yaa ?_)
 refine Zaa _ rfl rfl rfl rfl rfl (Z0v bx r A _ _ (hmo.rd hS) (hS.rd (List.mem_cons_self ..)) hAl) ?_
 rintro _ w ⟨P,a,c,rfl,hc2,hp,hs,hS'⟩
 replace hS := hS.plus hS'
 clear hS'
 obtain rfl := Ztg hI.ok hp hs
 repeat (first|refine Yd7 ?_|refine Yag ?_|refine Yah ?_|refine Yd9 ?_)
 exact ⟨a,c,rfl,hc2,hS.took⟩
end
end Cr
namespace Cr
open Go Go.Proofs
set_option maxRecDepth 100000
set_option maxHeartbeats 8000000
attribute [local irreducible] Calls

section
open Go.MapKept
variable {α : Type} [DecidableEq α]
variable {P : Program} {o : Oper} {σ : Env} {w : World} {x y : Operand} {t kt et : TypeId} {N : Nat} {ds : Md} {K : Env → World → Prop} {mk : α → Value} {dd : TypeDesc}
theorem Zw7 {r : Nat} {L : List (α × Value)} {k : α} {v : Value} {W : World} {F : Nat → Prop} {rs : List Res} {z : Operand} (ho : o.op = .insert t x y z) (hx : ev σ x = some (.map (some r))) (hy : ev σ y = some (mk k)) (hz : ev σ z = some v) [hu : Und P t (.map kt et)] [hkt : Und P kt dd] [hK : Key dd mk]
  (hd : o.dst = none) (hS : St W F (mapq mk r L :: rs) w) (hk : ∀ w',St W F (mapq mk r (setM k v L) :: rs) w' → K σ w') : X P o N ds σ w K := ⟨fun f ha K' Q' hKK => by
 obtain ⟨es,clock,hes,hst,hS2⟩ := hS.openMap
 have hb : w.heap[r]? = some (.map es clock) := hS2.get
 obtain ⟨q,g1,g2,_⟩ := Zc2 (hk := hK) k L es.toList 0 hes
 have hc := run_checkKey (P := P) (w := w) hkt.und (hK.isKey k) false 9999
 have hf := run_findKey (P := P) (w := w) hkt.und g1
 have hg : (getObj r).run P w = .ok (.map es clock) w := by simp [getObj,Sem.run,hb]
 have hset : ∀ o',(setObj r o').run P w = .ok () { w with heap := w.heap.setIfInBounds r o' } := fun o' => run_setObj_map o' hb
 unfold Oper.wp
 have key : ∃ es' clock',(execOp f.eval o).run P w = .ok .skip { w with heap := w.heap.setIfInBounds r (.map es' clock') } ∧ kvs es' = (setM k v L).map (fun x => (mk x.1,x.2)) ∧ StampOk es' clock' := by
  cases hq : q with
  | none =>
   subst hq
   refine ⟨es.push { key := mk k,val := v,born := clock },clock + 1,?_,?_,Zli hst _ _⟩
   ·simp only [execOp,ho,ha.eval hx,ha.eval hy,ha.eval hz,Instr.mapUpdate,Sem.run_bind,run_underlying hu.und,hg,hc,hf,hset,Result.andThen_ok,Sem.run_pure]
   ·rw [Zhf (by rw [← g2]; rfl)]
    have hes' : es.toList.map (fun e => (e.key,e.val)) = L.map (fun x => (mk x.1,x.2)) := hes
    simp [kvs,hes']
  | some p =>
   obtain ⟨j,u⟩ := p
   subst hq
   obtain ⟨g4,g5,g6⟩ := Zhe (v := v) L es.toList 0 hes j u g1
   simp only [Nat.sub_zero] at g4 g6
   have hek : ((es[j]?).map (·.key)).getD (mk k) = mk k := by
    rw [← Array.getElem?_toList,g6]; rfl
   refine ⟨es.modify j fun e => { e with key := mk k,val := v },clock,?_,?_,Ziw hst _ _ (fun _ => rfl)⟩
   ·simp only [execOp,ho,ha.eval hx,ha.eval hy,ha.eval hz,Instr.mapUpdate,Sem.run_bind,run_underlying hu.und,hg,hc,hf,hset,Result.andThen_ok,Sem.run_pure,hek,Instr.keyThatStays,hK.bits,if_true]
   ·simpa [kvs,Array.toList_modify] using g4
 obtain ⟨es',clock',hexec,hes',hst'⟩ := key
 rw [hexec]
 have u := Za7 (o' := .map es' clock') hb
 refine hKK _ _ _ (?_ : Fr σ N ds _) (hk _ ((hS2.set u).head fun h hh => ⟨es',clock',hes',hst',hh⟩))
 rw [hd]; exact ha⟩
end
section
open Go.MapKept
variable {α : Type}
variable {P : Program} {o : Oper} {σ : Env} {w : World} {x : Operand} {t kt et : TypeId} {mk : α → Value}
theorem Zwx {r : Nat} {L : List (α × Value)} (ho : o.op = .call { callee := .builtin .len,args := #[x],argTypes := #[t] }) (hx : ev σ x = some (.map (some r))) [h : Und P t (.map kt et)] (hr : Rd w (mapr mk r L)) : Yl P o σ w (.int .i64 L.length) := ⟨fun N ds f ha => by
 obtain ⟨g,⟨es,clock,hes,rfl⟩,hag⟩ := hr
 have hb : w.heap[r]? = some (.map es clock) := hag r _ (Zam _ _)
 have hg : (getObj r).run P w = .ok (.map es clock) w := by simp [getObj,Sem.run,hb]
 have hl : es.size = L.length := by
  have := congrArg List.length hes
  simpa using this
 simp [execOp,ho,resolve,invoke,builtin,Builtin.len_,ha.eval hx,run_underlying h.und,goInt,hg,hl]⟩
end
theorem Zh8 {rd fs : List Int} {tp lp p j m n nb : Nat} {T : Tb} {W : World} {F : Nat → Prop} (h : Ro W F (itab rd fs tp lp p j m n nb T)) : TabOf W F tp n (atT T) := by
 refine ⟨fun w hw => ?_,fun w no hw => ?_⟩
 ·obtain ⟨r,A,dat,hI⟩ := (hw _ h).itab
  exact Z29 w hI
 ·obtain ⟨r,A,dat,hI⟩ := (hw _ h).itab
  cases hT : atT T no with
  | none => exact Zyw no hT w hI
  | some x => exact Zyv no x hT w hI
def rootNd : Nd := ⟨⟨1,493,0,0⟩,wrD []⟩
theorem Zto (W : World) (a : Option Addr) (c : Nat) : Calls Tryz.prog 150 #[.slice a 0 c] W (Ret fun v w => v = .bool true ∧ St W noF [] w) := by
 have hS := St.start W
 refine Zab Tryz.func150 rfl Tryz.ntmps150 rfl ?_
 repeat (first|refine Yd7 ?_|refine Ye7 ?_|refine Yea ?_|refine Yab ?_)
 refine Zal (α := Unit) (fun _ => [(6,.int .i64 0),(7,.int .i64 0)]) (fun _ w => St W noF [] w) (fun _ => 0) () ⟨rfl,rfl,trivial⟩ hS ?_
 clear hS
 rintro _ w hS
 repeat (first|refine Yd7 ?_|refine Yag ?_|refine Ya3 ?_|refine Yeg ?_|refine Ye2 ?_)
 exact ⟨rfl,hS⟩
theorem Ztm {rd fs : List Int} {tp lp p j m n nb : Nat} {T : Tb} (W : World) (hIt : Ro W noF (itab rd fs tp lp p j m n nb T)) (hG : Lg W noF) (h0 : atT T 0 = some rootNd) (hu : (Zn8 T).length = 1) :
  Calls Tryz.prog 89 #[.pointer (some ⟨tp,0,none⟩)] W (Ret fun v w => v = .bool true ∧ St W noF [] w) := by
 have hS := St.start W
 have htab := Zh8 hIt
 have hrl : rootNd.data.length = 2 := by show (wrD []).length = 2; rw [Zp5]; rfl
 have hrd : rdD rootNd.data = [] := Zvf (l := []) fun x hx => by cases hx
 refine Zab Tryz.func89 rfl Tryz.ntmps89 rfl ?_
 repeat (first|refine Yd7 ?_|refine Yag ?_|refine Yd8 ?_|refine Yab ?_)
 refine Ze6 (Value.int .i64) rfl rfl rfl hS (fun mr w hS => ?_)
 repeat (first|refine Yaa ?_)
 refine Zw7 (mk := Value.int .i64) (k := 0) rfl rfl rfl rfl rfl hS (fun w hS => ?_)
 repeat (first|refine Yd7 ?_|refine Yel ?_|refine Ybf (fun _ _ hS _ => ?_)|refine Yea ?_|refine Yab ?_)
 have hS1 : St W noF [mapq (Value.int .i64) mr [((0 : Int),Value.bool true)]] _ := hS.drop
 rename_i lb _ _
 have hS0 : St W noF [own 3 1 (some ⟨lb,0,none⟩) 1 [.int .i64 0],mapq (Value.int .i64) mr [((0 : Int),Value.bool true)]] _ := hS
 clear hS hS1
 refine Zal (α := Nat × Option Addr × Nat × Nat) (fun z => [(0,.pointer (some ⟨tp,0,none⟩)),(3,.map (some mr)),(4,.slice z.2.1 z.2.2.1 z.2.2.2),(5,.int .i64 (z.1 : Nat))])
  (fun z w => (z = (0,some ⟨lb,0,none⟩,1,1) ∧ St W noF [own 3 1 (some ⟨lb,0,none⟩) 1 [.int .i64 0],mapq (Value.int .i64) mr [((0 : Int),Value.bool true)]] w) ∨ (z = (1,none,0,0) ∧ St W noF [mapq (Value.int .i64) mr [((0 : Int),Value.bool true)]] w)) (fun z => z.2.2.1) (0,some ⟨lb,0,none⟩,1,1) ⟨rfl,rfl,rfl,rfl,trivial⟩ (.inl ⟨rfl,hS0⟩) ?_
 clear hS0
 rintro z w (⟨rfl,hS⟩ | ⟨rfl,hS⟩)
 ·simp only
  repeat (first|refine Yd7 ?_|refine Yaf ?_|refine Yag ?_|refine Yas ?_|refine Ybx ?_|refine Yeb ?_|refine Yab ?_)
  refine Zal (α := Nat) (fun i => [(0,.pointer (some ⟨tp,0,none⟩)),(3,.map (some mr)),(5,.int .i64 (0 : Nat)),(6,.slice none 0 0),(22,.slice (some ⟨lb,0,none⟩) 1 1),(23,.int .i64 (1 : Nat)),(24,.int .i64 (i : Nat))]) (fun i w => i ≤ 1 ∧ St W noF [own 3 1 (some ⟨lb,0,none⟩) 1 [.int .i64 0],mapq (Value.int .i64) mr [((0 : Int),Value.bool true)]] w) (fun i => 1 - i) 0 ⟨rfl,rfl,rfl,rfl,rfl,rfl,rfl,trivial⟩ ⟨Nat.zero_le _,hS⟩ ?_
  clear hS
  rintro i w ⟨hi,hS⟩
  by_cases hi0 : i = 0
  ·subst hi0
   have hr := (hS.rd (List.mem_cons_self ..)).own_row
   have hx : ([Value.int .i64 0] : List Value)[0]? = some (.int .i64 0) := rfl
   repeat (first|refine Yd7 ?_|refine Ye8 ?_|refine Yeb ?_|refine Yab ?_)
   clear hr
   refine Zaa _ rfl rfl rfl rfl rfl (htab.get _ 0 fun r h => h.rd hS) ?_
   rintro v w hV
   rw [h0] at hV
   obtain ⟨a,q,rfl,hq,hS'⟩ := hV
   replace hS := hS.plus hS'
   clear hS'
   repeat (first|refine Yen ?_|(refine X_id ?_;first|refine Yaf ?_|refine Yag ?_|refine Yan ?_|refine Yay ?_|refine Ya4 ?_|refine Yba ?_|refine X_yl (Zmf rfl rfl rfl) rfl rfl ?_|refine X_yl (Zwy rfl rfl rfl) rfl rfl ?_|refine Yap ?_|refine Yao (fun _ hS _ => ?_)|refine Yar (fun _ _ hS _ => ?_))|refine Yei ?_|refine Yab ?_)
   refine Zaa _ rfl rfl rfl rfl rfl (Zzm a rootNd.data q _ ((hS.rd (r := own 5 1 a q (bv rootNd.data)) (by simp)).own_row.ro) hq (by rw [hrl]; decide) (hG.at_ hS)) ?_
   rintro _ w ⟨nb,nc,rfl,hS'⟩
   replace hS := hS.plus hS'
   clear hS'
   rw [hrd] at hS ⊢
   simp only [List.length_nil]
   repeat (first|refine Yd7 ?_|refine Yag ?_|refine Yae ?_|refine Yab ?_)
   refine Zao (.s 0 (.s 2 (.s 3 (.h 1 (.h 4 (.s 5 (.s 6 (.s 7 (.h 8 (.s 9 (.s 10 (.s 11 (.s 12 (.s 13 (.s 14 (.s 15 (.s 16 (.s 17 (.s 18 (.s 19 .nil))))))))))) .no)))) .no) .no)))) mixed (by kernel_rfl) rfl ?_
   have hS := hS.drew
   repeat (first|(refine Zad ?_;first|refine Ya2 ?_|refine Ybe ?_|refine Ybm ?_|refine Yau ?_))
   refine Zaa _ rfl rfl rfl rfl rfl (Zjw nb [] nc _ (Zh6 _ _ _) ⟨by decide,fun _ h => (by cases h)⟩ (hG.at_ hS)) ?_
   rintro _ w ⟨b3,q3,rfl,hq3,hS'⟩
   replace hS := hS.plus hS'
   clear hS'
   repeat (first|(refine Zad ?_;first|refine Yau ?_)|(refine Zac ?_;first|refine Ya0 ?_))
   refine Zaa _ rfl rfl rfl rfl rfl (Z14 b3 a (wrD []).length rootNd.data.length q3 q (wrD []) rootNd.data _ ((hS.rd (r := own 5 1 b3 q3 (bv (wrD []))) (by simp)).own_row) ((hS.rd (r := own 5 1 a q (bv rootNd.data)) (by simp)).own_row) rfl rfl) ?_
   rintro _ _ ⟨rfl,rfl⟩
   rw [decide_eq_true (show wrD [] = rootNd.data from rfl)]
   repeat (first|(refine Zad ?_;first|refine Ya2 ?_|refine Zak rfl rfl (fun _ => Zh0 rfl rfl) rfl rfl ?_|refine Yb5 ?_|refine Ycq ?_)|(refine Zac ?_;first|refine Ya0 ?_))
   refine Zaa _ rfl rfl rfl rfl rfl (Zto _ nb nc) ?_
   rintro _ w ⟨rfl,hS'⟩
   replace hS := hS.plus hS'
   clear hS'
   repeat (first|refine Yd7 ?_|refine Yaf ?_|refine Yas ?_|refine Yez ?_|refine Yab ?_|(refine Zad ?_;first|refine Yaz ?_|refine Ya2 ?_|refine Yb8 ?_|refine Yb5 ?_|refine Zbs rfl rfl rfl rfl (fun _ => Zf3 rfl rfl rfl) rfl rfl ?_|refine Ydu ?_|refine Ydb ?_|refine Zbs rfl rfl rfl rfl (fun _ => Znq rfl rfl rfl (by omega)) rfl rfl ?_|refine Ycg ?_)|(refine Zac ?_;first|refine Ya0 ?_))
   have hS : St W noF [own 3 1 (some ⟨lb,0,none⟩) 1 [.int .i64 0],mapq (Value.int .i64) mr [((0 : Int),Value.bool true)]] _ := hS.took
   refine Zal (α := Unit) (fun _ => [(0,.pointer (some ⟨tp,0,none⟩)),(3,.map (some mr)),(5,.int .i64 (0 : Nat)),(6,.slice none 0 0),(22,.slice (some ⟨lb,0,none⟩) 1 1),(23,.int .i64 (1 : Nat)),(24,.int .i64 (0 : Nat)),(70,.int .i64 0),(71,.int .i64 0)]) (fun _ w => St W noF [own 3 1 (some ⟨lb,0,none⟩) 1 [.int .i64 0],mapq (Value.int .i64) mr [((0 : Int),Value.bool true)]] w) (fun _ => 0) () ⟨rfl,rfl,rfl,rfl,rfl,rfl,rfl,rfl,rfl,trivial⟩ hS ?_
   clear hS
   rintro _ w hS
   repeat (first|refine Yd7 ?_|refine Yaf ?_|refine Ya3 ?_|refine Yax ?_|refine Yej ?_|refine Ye0 ?_)
   exact Zag (z := 0) 1 ⟨rfl,rfl,rfl,rfl,rfl,rfl,rfl,trivial⟩ ⟨Nat.le_refl _,hS⟩ (by omega)
  ·obtain rfl : i = 1 := by omega
   repeat (first|refine Yd7 ?_|refine Yaf ?_|refine Yag ?_|refine Ya3 ?_|refine Yax ?_|refine Yej ?_|refine Ye0 ?_)
   exact Zag (z := (0,some ⟨lb,0,none⟩,1,1)) (1,none,0,0) ⟨rfl,rfl,rfl,rfl,trivial⟩ (.inr ⟨rfl,hS.drop⟩) (by simp)
 ·simp only
  repeat (first|refine Yd7 ?_|refine Yaf ?_|refine Yas ?_|refine Ybt ?_|refine Yej ?_|refine Yed ?_)
  refine X_yl (Zwx (mk := Value.int .i64) (L := [((0 : Int),Value.bool true)]) rfl rfl ((hS.rd (List.mem_cons_self ..)).mapq_r)) rfl rfl ?_
  repeat (first|refine Yaa ?_|refine Yaf ?_)
  obtain ⟨r,A,dat,hI⟩ := (hIt.rd hS).itab
  refine Zaa _ rfl rfl rfl rfl rfl (Z4x _ hI) ?_
  rintro _ w ⟨ua,uc,rfl,_,hS'⟩
  replace hS := hS.plus hS'
  clear hS'
  rw [hu]
  repeat (first|refine Yd7 ?_|refine Yag ?_|refine Yas ?_|refine Yco ?_|refine Yah ?_|refine Yd9 ?_)
  exact ⟨rfl,hS.drops⟩
end Cr
namespace Cr
open Go Go.Proofs
set_option maxRecDepth 100000
set_option maxHeartbeats 8000000
attribute [local irreducible] Calls

def Zm1 : Chg := ⟨0,rootNd,false⟩
def Za5 (n : Nat) : Tb := some rootNd :: List.replicate (n - 1) none
theorem Zuk : Zi5 (List.replicate 10 none) 40 30 [Zm1] = (0,Za5 10) := by kernel_rfl
theorem Zu0 {rd fs : List Int} {tp lp p m : Nat} (W : World) (F : Nat → Prop) (hG : Gl W F rd fs) (hL : Lg W F) (hm : (m : Int) < last) (hS : St W F [itab rd fs tp lp p 60 m 10 40 (List.replicate 10 none)] W) :
  Calls Tryz.prog 40 #[.pointer (some ⟨tp,0,none⟩)] W (Ret fun v w => ∃ f,v = .tuple #[.pointer (some ⟨f,0,none⟩),.int .i64 0] ∧ St W F [pts f (.cells (List.toArray [.pointer (some ⟨tp,0,none⟩),.int .i64 0]) 107 (0,0)),itab rd fs tp lp p 60 (m + 1) 10 40 (Za5 10)] w) := by
 have h0 : atT (List.replicate 10 none) 0 = none := by kernel_rfl
 refine Zab Tryz.func40 rfl Tryz.ntmps40 rfl ?_
 repeat (first|refine Yd7 ?_|refine Yel ?_|refine Yd8 ?_|refine Yab ?_)
 obtain ⟨F2,hS2,hro,hw,hbk⟩ := hS.call []
 have hIt := hro (itab rd fs tp lp p 60 m 10 40 (List.replicate 10 none)) (by simp)
 have htab := Zh8 hIt
 refine Zaa _ rfl rfl rfl rfl rfl (htab.get _ 0 fun r h => h.rd hS2) ?_
 rintro v w hV
 rw [h0] at hV
 obtain ⟨rfl,hS'⟩ := hV
 replace hS := hS.plus hS'
 clear hS' hS2 hro hw hbk hIt htab
 repeat (first|refine Yd7 ?_|(refine X_id ?_;first|refine Yaf ?_|refine Yag ?_|refine Yay ?_|refine Ybh ?_|refine Ybn ?_|refine Yao (fun _ hS _ => ?_)|refine Yar (fun _ _ hS _ => ?_))|refine Yfg ?_|refine Yab ?_)
 refine Zaa _ rfl rfl rfl rfl rfl (Zjw none [] 0 _ (Zh6 _ _ _) ⟨by decide,fun _ h => (by cases h)⟩ (hL.at_ hS)) ?_
 rintro _ w ⟨a,q,rfl,hq,hS'⟩
 replace hS := hS.plus hS'
 clear hS'
 repeat (first|refine Yaa ?_|refine Ybn ?_|refine Ybf (fun _ _ hS _ => ?_))
 rename_i b2 _ _
 obtain ⟨_,hc,hr,hw,hbk⟩ := hS.call [false,false,false,true]
 have hro := hr (own 5 1 a q (bv (wrD []))) (by simp)
 have hrw := hr (own 189 7 (some ⟨b2,0,none⟩) 1 [.int .i64 0,.int .i64 1,.int .i64 493,.int .i64 0,.int .i64 0,.slice a (wrD []).length q,.bool false]) (by simp)
 have hC : Chgs _ _ (some ⟨b2,0,none⟩) [⟨Zm1,a,q⟩] := ⟨hrw.own_row,fun x hx => by obtain rfl := List.mem_singleton.1 hx; exact hro.own_row⟩
 refine Zaa _ rfl rfl rfl rfl rfl (Z4h (some ⟨b2,0,none⟩) 1 [⟨Zm1,a,q⟩] _ _ (hG.mono hw) hC (by simp) (by simp) hm hc) ?_
 rintro _ w ⟨rfl,hS⟩
 replace hS := hbk hS
 clear hc hr hw hbk hC hro hrw
 have hap : Zi5 (List.replicate 10 none) 40 (60 / 2) (([⟨Zm1,a,q⟩] : List ChgA).map ChgA.c) = (0,Za5 10) := Zuk
 rw [hap] at hS ⊢
 simp only at hS ⊢
 repeat (first|refine Yen ?_|refine Yaf ?_|refine Yag ?_|refine Ybh ?_|refine Yd8 ?_|refine Yef ?_)
 refine Zaa _ rfl rfl rfl rfl rfl (Ztm _ (hS.rd (r := itab rd fs tp lp p 60 (m + 1) 10 40 (Za5 10)) (by simp)).ro (hL.at_ hS) rfl rfl) ?_
 rintro _ w ⟨rfl,hS'⟩
 replace hS := hS.plus hS'
 clear hS'
 repeat (first|refine Yen ?_|(refine X_id ?_;first|refine Yaf ?_|refine Yag ?_|refine Ybd ?_|refine Ybc ?_|refine Yba ?_|refine Ybn ?_|refine Ya9 (fun _ _ hS _ => ?_))|refine Yew ?_|refine Yev ?_)
 exact ⟨_,rfl,hS.took⟩
end Cr
namespace Cr
open Go Go.Proofs
set_option maxRecDepth 100000
set_option maxHeartbeats 16000000
attribute [local irreducible] Calls

end Cr
namespace Cr
open Go Go.Proofs
set_option maxRecDepth 100000
set_option maxHeartbeats 16000000
attribute [local irreducible] Calls

theorem St.newLog {W : World} {F : Nat → Prop} {rs : List Res} {w : World} {lp p j k : Nat} (hj : j ≤ 1024) (hS : St W F (Zcg lp p 1 0 0 j 0 false :: disk p (Zbf (1 + j + k)) :: rs) w) : St W F (qlog lp p j 0 (List.replicate k zero64) :: rs) w :=
 hS.shutQlog ⟨⟨rfl,rfl,by simp [Zbf]⟩,rfl,Int.le_refl _,Int.le_refl _,hj,fun i hi => by
  rw [List.length_replicate] at hi
  simp only [Zbf,List.getD_eq_getElem?_getD,List.getElem?_replicate]
  rw [if_pos (by omega),if_pos hi]⟩
theorem Zn2 {k i : Nat} (h : i < k) : (List.replicate k zero64).getD i [] = zero64 := by
 rw [List.getD_eq_getElem?_getD,List.getElem?_replicate,if_pos h]; rfl
end Cr
namespace Cr
open Go Go.Proofs
set_option maxRecDepth 100000
set_option maxHeartbeats 8000000
attribute [local irreducible] Calls

theorem Zxp (b off : Nat) (x : Int) (l : List Value) (T : TypeId) (W : World) [hn : Nth l off (.int .i64 x)] (hc : W.heap[b]? = some (.cells l.toArray T)) :
  Calls Tryz.prog 42 #[.pointer (some ⟨b,off,none⟩)] W (Ret fun v w => v = .int .i64 x ∧ W = w) := by
 have hS := St.start W
 refine Zab Tryz.func42 rfl Tryz.ntmps42 rfl ?_
 repeat (first|refine Yd7 ?_|(refine X_id ?_;first|refine Yaf ?_|refine Yag ?_|refine Yat ?_|refine Ybz ?_|refine Zw9 rfl rfl rfl (Za9 (by assumption)) rfl rfl ?_)|refine Yek ?_|refine Yd9 ?_)
 exact ⟨rfl,rfl⟩
def t0 : Tn := .mk [] 0 ⟨1,493,0,0⟩ [] []
theorem Z43 : TreeOk 10 t0 := by
 have hs : subT t0 = [t0] := by kernel_rfl
 refine ⟨fun u hu => ?_,?_,⟨rfl,rfl⟩,of_decide_eq_true (by kernel_rfl),of_decide_eq_true (by kernel_rfl)⟩
 case refine_2 =>
  rw [show (Zcd t0).map (·.1) = [0] by kernel_rfl]
  simp
 rw [hs] at hu
 obtain rfl := List.mem_singleton.1 hu
 exact ⟨by kernel_rfl,by decide,fun _ => ⟨rfl,of_decide_eq_true (by kernel_rfl)⟩,List.Pairwise.nil,fun k hk => (by cases hk),fun h => absurd rfl h⟩
theorem Z5z (no : Int) : Nt t0 no = atT (Za5 10) no := by
 have he : Zcd t0 = [(0,rootNd)] := by kernel_rfl
 unfold Nt
 rw [he]
 by_cases h0 : no = 0
 ·subst h0
  rfl
 ·unfold atT
  have h1 : getA no [((0 : Int),rootNd)] = none := by
   show (if _ then _ else _) = _
   rw [if_neg fun e => h0 e]
   rfl
  rw [h1]
  split
  ·next h =>
   obtain ⟨k,hk⟩ : ∃ k,no.toNat = k + 1 := ⟨no.toNat - 1,by omega⟩
   rw [hk,Za5,List.getD_cons_succ,List.getD_eq_getElem?_getD,List.getElem?_replicate]
   split <;> rfl
  ·rfl
theorem Z0q {f tp : Nat} {b : Int} {T : Int → Option Nd} (W : World) (hb : Rd W (pts f (.cells (List.toArray [.pointer (some ⟨tp,0,none⟩),.int .i64 b]) 107 (0,0)))) :
  Calls Tryz.prog 7 #[.pointer (some ⟨f,0,none⟩)] W (Ret fun v w => ∃ c,v = .pointer (some ⟨c,0,none⟩) ∧ St W noF [chR c f b T T []] w) := by
 have hS := St.start W
 have hc := hb.ro
 refine Zab Tryz.func7 rfl Tryz.ntmps7 rfl ?_
 repeat (first|refine Yd7 ?_|(refine X_id ?_;first|refine Yaf ?_|refine Yag ?_|refine Yat ?_|refine Yan ?_|refine Ybq ?_)|refine Yei ?_|refine Yab ?_)
 refine Zaa _ rfl rfl rfl rfl rfl (Zxp f 1 b _ _ _ (Rd.pts hb)) ?_
 rintro _ _ ⟨rfl,rfl⟩
 repeat (first|refine Yaa ?_)
 refine Ze6 (Value.int .i64) rfl rfl rfl hS (fun pm w hS => ?_)
 repeat (first|refine Yaa ?_)
 refine Ze6 (Value.int .i64) rfl rfl rfl hS (fun dm w hS => ?_)
 repeat (first|refine Yd7 ?_|refine Yag ?_|refine Ybn ?_|refine Ya9 (fun _ _ hS _ => ?_)|refine Yah ?_|refine Yd9 ?_)
 rename_i c _ _
 have hS2 := hS.bagNil.pick [0,0,1,0]
 exact ⟨c,rfl,St.shutCh (P := []) (D := []) ⟨List.nodup_nil,List.nodup_nil,fun _ => rfl,fun x hx => (by cases hx)⟩ hS2⟩
end Cr
