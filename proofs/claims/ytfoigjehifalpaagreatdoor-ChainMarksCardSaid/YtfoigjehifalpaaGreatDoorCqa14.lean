/-
  Layer 9 (table): what was made is taken away again.
  Layer 9 (table): Put.
  Layer 7 (inode): the free blocks of nodes; does a block stand in two Zh4?
  Layer 7 (inode): what is wrong with changes.
  Layer 7 (inode): a map copied; a write noted.
  Layer 7 (inode): Apply.
  The laws' helper Same: are bytes the same?
-/
import Derived.Test.YtfoigjehifalpaaGreatDoorCqa13
import Derived.Test.YtfoigjehifalpaaGreatDoorCqa3
import Derived.Test.YtfoigjehifalpaaGreatDoorCqa9
import Derived.Shelf.SlMaps.Clone
import Derived.Test.YtfoigjehifalpaaGreatDoorCqa6
namespace Cr
open Go Go.Proofs
set_option maxRecDepth 100000
set_option maxHeartbeats 64000000
attribute [local irreducible] Calls

theorem Zmb (l bx n c : Nat) (a : Option Addr) (cs : List Value) (w : World) (T : TypeId) (hn : n ≤ 4611686018427387904) (hcs : cs.length = n) (Inv : Nat → World → Prop)
  (hbx : ∀ k w,Inv k w → w.heap[bx]? = some (.cells #[.slice a n c] T)) (hrow : ∀ k w,Inv k w → Rd w (row a cs)) (hl : ∀ k w,Inv k w → ∃ r : Loop,r.params.size = 2 ∧ w.heap[l]? = some (.loop r) ∧ (k ≠ 0 → ∀ v,cs[k - 1]? = some v →
   RoundIn Fence.wide 0 Tryz.prog l r.fn ((r.params.zip #[.int .i64 ((k - 1 : Nat) : Int),v]).foldl (fun tmps (t,a) => tmps.setIfInBounds t a) r.tmps) r.assign r.body w
    (Ret fun v w' => v = .bool true ∧ Inv (k - 1) w'))) (h0 : Inv n w) :
  CallsIn Fence.wide 0 Tryz.prog 165 #[.func (.yield l) #[] #[],.pointer (some ⟨bx,0,none⟩)] w (Ret fun _ w' => Inv 0 w') := by
 refine callsIn_wide.2 ?_
 have hb := hbx _ _ h0
 refine Zab Tryz.func165 rfl Tryz.ntmps165 rfl ?_
 repeat (first|refine Yeg ?_|refine Yag ?_|refine Yau ?_|refine Ybw ?_|refine Yb3 ?_|refine Yej ?_|refine Yab ?_)
 refine Zaj (α := Nat) (fun k => [(0,.func (.yield l) #[] #[]),(1,.pointer (some ⟨bx,0,none⟩)),(3,.int .i64 ((k : Int) - 1))]) (fun k w => k ≤ n ∧ Inv k w) (fun k => k) n ⟨rfl,rfl,rfl,trivial⟩ ⟨Nat.le_refl _,h0⟩ ?_
 clear hb h0
 rintro k w ⟨hk,hi⟩
 have hb := hbx _ _ hi
 by_cases h0 : k = 0
 ·subst h0
  repeat (first|refine Yeg ?_|refine Yaf ?_|refine Yb4 ?_|refine Yet ?_|refine Yab ?_|refine Ya5 ?_|refine Ya6 ?_|refine Ybt ?_)
  exact hi
 ·obtain ⟨r,hp,hlr,hr⟩ := hl _ _ hi
  have hv : cs[k - 1]? = some cs[k - 1] := List.getElem?_eq_getElem (by omega)
  generalize cs[k - 1] = v at hv
  have hr := hr h0 v hv
  have hcs0 : cs ≠ [] := by intro e; rw [e] at hcs; simp at hcs; omega
  obtain ⟨xb,xo,rfl⟩ := (hrow _ _ hi).base hcs0
  have hcell := (hrow _ _ hi).cells (k - 1) v hv
  have e1 : ((k : Int) - 1).toNat = k - 1 := by omega
  have e2 : ((k - 1 : Nat) : Int) = (k : Int) - 1 := by omega
  rw [e2] at hr
  repeat (first|refine Yeg ?_|refine Yaf ?_|refine Yb2 ?_|refine Yba ?_|refine Yb3 ?_|refine Yek ?_|refine Yab ?_)
  rw [e1,Nat.mul_one]
  refine X_yl (Zav rfl rfl hcell) rfl rfl ?_
  refine Zsu rfl rfl rfl rfl rfl rfl hlr (by rw [hp]; rfl) hr ?_
  rintro v w' ⟨rfl,hi'⟩
  repeat (first|refine Yeg ?_|refine Yaf ?_|refine Yag ?_|refine Ybc ?_|refine Ybw ?_|refine Ye8 ?_|refine Yeo ?_)
  refine Zaf (k - 1) ⟨rfl,rfl,?_,trivial⟩ ⟨by omega,hi'⟩ (by omega)
  rw [e2]; rfl
theorem Zy5 (a : Option Addr) (n c : Nat) (W : World) : Calls Tryz.prog 102 #[.slice a n c] W
  (Ret fun v w => ∃ bx,v = .func (.func 165) #[] #[.pointer (some ⟨bx,0,none⟩)] ∧ St W noF [pts bx (.cells #[.slice a n c] 121)] w) := by
 have hS := St.start W
 refine Zab Tryz.func102 rfl Tryz.ntmps102 rfl ?_
 repeat (first|refine Yeg ?_|refine Yag ?_|refine Ycg ?_|refine Ya7 (fun _ _ hS _ => ?_)|refine Yeu ?_|refine Yei ?_)
 exact ⟨_,rfl,hS⟩
section
variable {c f tp n : Nat} {b : Int} {T : Int → Option Nd} {t : Tn} {X Y : List RowD}
theorem Z9z (ht : TreeOk n t) (tb : Nat) (name : List UInt8) (a : Option Addr) (L : List (List (List UInt8))) (q : Nat) (vs : List Value) (W : World) (F : Nat → Prop) (hT : TreeRo W F f tp n b T) (hG : Lg W F)
  (htb : Ro W F (pts tb (.cells (List.toArray [.pointer (some ⟨c,0,none⟩),.string (str name)]) 114 (0,0)))) (hY : Ro W F (bag Y)) (hP : PathsRd Y L vs) (hr : Ro W F (row a vs)) (hll : L.length ≤ 1048576) (hlp : ∀ p ∈ L,p.length ≤ 1048576)
  (hS : St W F [chR c f b T (Nt t) X] W) :
  Calls Tryz.prog 53 #[.pointer (some ⟨tb,0,none⟩),.slice a L.length q] W (Ret fun v w => v = .tuple #[] ∧ ∃ X',(∀ x ∈ X,x ∈ X') ∧ St W F [chR c f b T (Nt (Zpj t L)) X'] w) := by
 have hro := hr
 clear hr
 refine Zab Tryz.func53 rfl Tryz.ntmps53 rfl ?_
 repeat (first|refine Yeg ?_|refine Yaf ?_|refine Ya7 (fun _ _ hS _ => ?_)|refine Yeh ?_|refine Yab ?_)
 obtain ⟨_,hcc,hr,hw,hbk⟩ := hS.call []
 refine Zaa _ rfl rfl rfl rfl rfl (Zy5 _ _ _ _) ?_
 rintro _ w ⟨bx,rfl,hS⟩
 replace hS := hbk hS.more
 clear hcc hr hw hbk
 repeat (first|refine Yac ?_|refine Yaj ?_|refine Yab ?_)
 rename_i b2 _ _ _ _
 refine Zht (first := []) (captured := [.pointer (some ⟨bx,0,none⟩)])
  (fun lp r j w => j = none ∧ ∃ X' lo,(∀ x ∈ X,x ∈ X') ∧ St W F [pts lp lo,pts r (.deferred (some [])),chR c f b T (Nt (Zpj t L)) X'] w) rfl rfl hS ?_ ?_ ?_
 ·intro A B hA hB fn tm lp r w1 htm hlook hS
  refine Zgl (Zmb lp bx L.length q a vs w1 121 (by omega) hP.1
   (fun k w => k ≤ L.length ∧ ∃ X',(∀ x ∈ X,x ∈ X') ∧ St W F [pts lp (.loop (recd fn tm #[8,9] A B r .ready none)),pts r (.deferred (some [])),pts bx (.cells #[.slice a L.length q] 121),pts b2 (.cells (List.toArray [.pointer (some ⟨tb,0,none⟩)]) 30 (0,0)),chR c f b T (Nt (Zpj t (L.drop k))) X'] w)
   (fun k w h => (h.2.choose_spec.2).has) (fun k w h => hro.rd h.2.choose_spec.2) ?_ ⟨Nat.le_refl _,X,fun _ h => h,by rw [List.drop_length]; exact hS⟩) ?_
  ·rintro k w ⟨hkl,X',hX',hS⟩
   refine ⟨_,rfl,hS.has,fun hk v hv => ?_⟩
   have hkl' : k - 1 < L.length := by omega
   have hp : L[k - 1]? = some L[k - 1] := List.getElem?_eq_getElem hkl'
   have hdr : L.drop (k - 1) = L[k - 1] :: L.drop k := by
    have := List.drop_eq_getElem_cons hkl'
    rwa [show k - 1 + 1 = k by omega] at this
   generalize L[k - 1] = p at hp hdr
   have hpl := hlp p (List.mem_of_getElem? hp)
   obtain ⟨pa,pc,hv2,hpc,hpr⟩ := hP.2 (k - 1) p hp
   rw [hv] at hv2
   cases hv2
   show RoundIn Fence.wide 0 Tryz.prog lp fn ((#[8,9].zip _).foldl _ tm) A B w _
   refine Zry (Fr.round2 htm hlook lp (.int .i64 ((k - 1 : Nat) : Int)) (.slice pa p.length pc) (by decide) (by decide)) ?_
   refine C_eq hA ?_
   repeat (first|refine Yeg ?_|refine Yag ?_|refine Yad ?_)
   refine Zo9 hS.has (fun w hset => ?_)
   replace hS := hS.upd hset
   refine C_eq hB ?_
   have hc := htb
   repeat (first|refine Yaa ?_|(refine X_id ?_;first|refine Yaf ?_|refine Yav ?_|refine Yan ?_|refine Yap ?_|refine Ycd ?_)|refine Yad ?_|refine Yaj ?_)
   obtain ⟨_,hcc,_,hw,hbk⟩ := hS.call [false,false,false,false,true]
   refine Zaa _ rfl rfl rfl rfl rfl (Qbl (Znw ht _) pa p pc _ _ (hT.mono hw) (hG.mono hw) (hw _ (hpr.ro hY)) hpc hpl hcc) ?_
   rintro _ w ⟨X2,hX2,rfl,hS⟩
   replace hS := hbk hS
   clear hbk hw hcc
   repeat (first|refine Yac ?_|refine Yat ?_)
   refine Zl5 hS.has (fun w hset => ⟨_,rfl,rfl,by omega,X2,fun x hx => hX2 x (hX' x hx),?_⟩)
   rw [hdr,Zpj]
   exact (hS.upd hset).took
  ·rintro _ w3 ⟨_,X',hX',hS⟩
   rw [List.drop_zero] at hS
   exact ⟨_,_,by simp,hS.has,fun w4 hset => ⟨rfl,X',_,hX',(hS.upd hset).pick [0,0,2]⟩⟩
 ·rintro lp r w4 ⟨_,X',lo,hX',hS⟩
  refine Zl7 ?_
  refine Zu0 (.inr rfl) hS.has (fun w hset => ?_)
  replace hS := hS.upd hset
  repeat (first|refine Ybt ?_)
  exact ⟨rfl,X',hX',hS.took⟩
 ·rintro lp r cc w4 ⟨h,_⟩
  cases h
end
def Zqq : Nd := ⟨⟨1,448,0,0⟩,[]⟩
def Zc5 (b : List UInt8) : Nd := ⟨⟨0,384,0,0⟩,b⟩
def Zck (n : Nat) (t : Tn) (l : List (List (List UInt8))) : Int × Tn × List (List (List UInt8)) := l.foldl (fun z p => Zcd n z Zqq p) (0,t,[])
def Zrn (n : Nat) (t : Tn) (name key : List UInt8) (v : Mv) : Int × Tn :=
 if ¬ nameOk key then (10,t) else if chkM 8 v ≠ 0 then (chkM 8 v,t) else if 512 < (encM v).length then (2,t) else
 match Zd9 t (wayL name) with
 | none => (17,t)
 | some ms => if Zch t [dbN,name,key] = 0 then Zvi t (encM v) [dbN,name,key] else if Zch t [dbN,name,key] = 1 ∨ Zch t [dbN,name,key] = 2 then (17,t) else
  if (Zcd n (Zck n t ms) (Zc5 (encM v)) [dbN,name,key]).1 = 0 then (0,(Zcd n (Zck n t ms) (Zc5 (encM v)) [dbN,name,key]).2.1) else ((Zcd n (Zck n t ms) (Zc5 (encM v)) [dbN,name,key]).1,Zpj (Zcd n (Zck n t ms) (Zc5 (encM v)) [dbN,name,key]).2.1 (Zcd n (Zck n t ms) (Zc5 (encM v)) [dbN,name,key]).2.2)
theorem Zhp {n : Nat} {z : Int × Tn × List (List (List UInt8))} {nd : Nd} {p : List (List UInt8)} : (Zcd n z nd p).2.2 = z.2.2 ∨ (Zcd n z nd p).2.2 = z.2.2 ++ [p] := by
 unfold Zcd
 split
 ·split
  ·exact .inr rfl
  ·exact .inl rfl
 ·exact .inl rfl
theorem Zlv (n : Nat) (t : Tn) (l : List (List (List UInt8))) (p : List (List UInt8)) : Zck n t (l ++ [p]) = Zcd n (Zck n t l) Zqq p := by
 unfold Zck; rw [List.foldl_append]; rfl
theorem Zlw {n : Nat} {t : Tn} (ht : TreeOk n t) : ∀ (k : Nat) (l : List (List (List UInt8))),l.length = k → TreeOk n (Zck n t l).2.1 ∧ (Zck n t l).2.2.length ≤ l.length ∧ ∀ p ∈ (Zck n t l).2.2,p ∈ l
 | 0,l,hl => by
  obtain rfl := List.eq_nil_of_length_eq_zero hl
  exact ⟨ht,Nat.le_refl _,fun p hp => (by cases hp)⟩
 | k + 1,l,hl => by
  rcases List.eq_nil_or_concat l with rfl | ⟨l,p,rfl⟩
  ·cases hl
  rw [List.concat_eq_append] at hl ⊢
  rw [List.length_append,List.length_singleton] at hl
  obtain ⟨h1,h2,h3⟩ := Zlw ht k l (by omega)
  rw [Zlv]
  refine ⟨Zlu h1 _ _,?_,?_⟩
  ·rcases Zhp (n := n) (z := Zck n t l) (nd := Zqq) (p := p) with h | h
   ·rw [h,List.length_append]; omega
   ·rw [h,List.length_append,List.length_append]; simp; omega
  ·intro q hq
   rcases Zhp (n := n) (z := Zck n t l) (nd := Zqq) (p := p) with h | h
   ·rw [h] at hq; exact List.mem_append_left _ (h3 q hq)
   ·rw [h] at hq
    rcases List.mem_append.1 hq with hq | hq
    ·exact List.mem_append_left _ (h3 q hq)
    ·exact List.mem_append_right _ hq
theorem Zkr {t : Tn} : ∀ {l ms : List (List (List UInt8))},Zd9 t l = some ms → (∀ p ∈ ms,p ∈ l) ∧ ms.length ≤ l.length
 | [],ms,h => by rw [Zd9] at h; injection h with h; subst h; exact ⟨fun p hp => (by cases hp),Nat.le_refl _⟩
 | p :: l,ms,h => by
  rw [Zd9] at h
  split at h
  ·obtain ⟨h1,h2⟩ := Zkr h
   exact ⟨fun q hq => List.mem_cons_of_mem _ (h1 q hq),by simp only [List.length_cons]; omega⟩
  ·split at h
   ·cases hw : Zd9 t l with
    | none => rw [hw] at h; cases h
    | some r =>
     rw [hw] at h
     simp only [Option.map_some,Option.some.injEq] at h
     subst h
     obtain ⟨h1,h2⟩ := Zkr hw
     refine ⟨fun q hq => ?_,by simp only [List.length_cons]; omega⟩
     rcases List.mem_cons.1 hq with rfl | hq
     ·exact List.mem_cons_self ..
     ·exact List.mem_cons_of_mem _ (h1 q hq)
   ·cases h
theorem Z0a {n : Nat} {t : Tn} (ht : TreeOk n t) (name key : List UInt8) (v : Mv) : TreeOk n (Zrn n t name key v).2 := by
 unfold Zrn
 split
 ·exact ht
 ·split
  ·exact ht
  ·split
   ·exact ht
   ·split
    ·exact ht
    ·rename_i ms _
     split
     ·exact Z01 ht _ _
     ·split
      ·exact ht
      ·have h1 := Zlu (n := n) (Zlw ht _ ms rfl).1 (Zc5 (encM v)) [dbN,name,key]
       split
       ·exact h1
       ·exact Znw h1 _
section
variable {c f tp n : Nat} {b : Int} {T : Int → Option Nd} {t : Tn} {X : List RowD}
theorem Z92 (ht : TreeOk n t) (tb : Nat) (name key : List UInt8) (v : Mv) (cs : List Value) (W : World) (F : Nat → Prop) (hT : TreeRo W F f tp n b T) (hG : Lg W F) (htb : Ro W F (pts tb (.cells (List.toArray [.pointer (some ⟨c,0,none⟩),.string (str name)]) 114 (0,0)))) (hv : Mrd (RoR W F) v cs) (hwv : wM v ≤ 1048576) (hfit : fitM v) (hlv : (encM v).length ≤ 131072) (hS : St W F [chR c f b T (Nt t) X] W) :
  Calls Tryz.prog 11 #[.pointer (some ⟨tb,0,none⟩),.string (str key),.agg (List.toArray cs)] W (Ret fun u w => u = .int .i64 (Zrn n t name key v).1 ∧ ∃ X',(∀ x ∈ X,x ∈ X') ∧ St W F [chR c f b T (Nt (Zrn n t name key v).2) X'] w) := by
 have hN := fun W => Z08 key W
 have hc := htb
 obtain ⟨a1,c1,a2,c2,rows,rfl,_⟩ := hv.lit
 unfold Zrn
 by_cases hk : nameOk key
 case neg =>
  rw [if_pos hk]
  simp only [decide_eq_false hk] at hN
  refine Zab Tryz.func11 rfl Tryz.ntmps11 rfl ?_
  repeat (first|refine Yeg ?_|(refine X_id ?_;first|(refine Zad 43 rfl rfl rfl rfl rfl hS (hN _) ?_;rintro _ _ rfl hS)|refine Yaf ?_|refine Yag ?_|refine Ybq ?_|refine Ybu ?_|refine Yap ?_|refine Ya7 (fun _ _ hS _ => ?_))|refine Ye1 ?_|refine Ye2 ?_)
  exact ⟨rfl,X,fun _ h => h,hS.took⟩
 rw [if_neg (by simpa using hk)]
 simp only [decide_eq_true hk] at hN
 clear hk
 refine Zab Tryz.func11 rfl Tryz.ntmps11 rfl ?_
 repeat (first|refine Yeg ?_|(refine X_id ?_;first|(refine Zad 43 rfl rfl rfl rfl rfl hS (hN _) ?_;rintro _ _ rfl hS)|refine Yaf ?_|refine Yag ?_|refine Ybc ?_|refine Ybu ?_|refine Yap ?_|refine Ybf ?_|refine Ya7 (fun _ _ hS _ => ?_))|refine Ye9 ?_|refine Yeo ?_)
 refine Zaa _ rfl rfl rfl rfl rfl (Zud v _ _ (hv.mono fun _ _ h => (h.rd hS).ro) hwv hfit hlv (hG.at_ hS)) ?_
 rintro _ w (⟨he,rfl,hS'⟩ | ⟨he,eb,eq,rfl,heq,hS'⟩)
 case inl =>
  replace hS := hS.plus hS'
  clear hS'
  rw [if_pos he]
  generalize chkM 8 v = e at he ⊢
  repeat (first|refine Yeg ?_|(refine X_id ?_;first|refine Yaf ?_|refine Yag ?_|refine Ya3 ?_|refine Ybl ?_|refine Yap ?_|refine Yao (fun _ hS _ => ?_)|refine Yar (fun _ _ hS _ => ?_))|refine Yey ?_|refine Yez ?_)
  exact ⟨rfl,X,fun _ h => h,hS.took⟩
 replace hS := hS.plus hS'
 clear hS'
 rw [if_neg (by simpa using he)]
 generalize encM v = bs at hS heq hlv ⊢
 by_cases h5 : 512 < bs.length
 ·rw [if_pos h5]
  repeat (first|refine Yeg ?_|(refine X_id ?_;first|refine Yaf ?_|refine Yag ?_|refine Ya3 ?_|refine Yau ?_|refine Ybb ?_|refine Ybz ?_|refine Yap ?_|refine Yao (fun _ hS _ => ?_)|refine Yar (fun _ _ hS _ => ?_))|refine Yfm ?_|refine Yez ?_)
  exact ⟨rfl,X,fun _ h => h,hS.took⟩
 rw [if_neg h5]
 repeat (first|refine Yeg ?_|(refine X_id ?_;first|refine Yaf ?_|refine Yag ?_|refine Ya3 ?_|refine Yau ?_|refine Ybb ?_|refine Ybs ?_|refine Yap ?_|refine Yao (fun _ hS _ => ?_)|refine Yar (fun _ _ hS _ => ?_))|refine Yes ?_|refine Yab ?_)
 rename_i b3 _ _ _ b5 _ _ _ _ _ be _ _ _ _ _
 obtain ⟨_,hcc,_,hw,hbk⟩ := hS.call [false,false,false,false,true]
 refine Zaa _ rfl rfl rfl rfl rfl (Z9w ht tb name _ _ (hT.mono hw) (hG.mono hw) (hw _ htb) hcc) ?_
 rintro u w ⟨X1,hX1,hw1⟩
 cases hms : Zd9 t (wayL name) with
 | none =>
  rw [hms] at hw1
  obtain ⟨rfl,hS⟩ := hw1
  replace hS := hbk hS
  clear hbk hw hcc
  repeat (first|refine Yeg ?_|(refine X_id ?_;first|refine Yaf ?_|refine Yag ?_|refine Ya3 ?_|refine Ybl ?_|refine Yap ?_|refine Yao (fun _ hS _ => ?_))|refine Yey ?_|refine Yez ?_)
  exact ⟨rfl,X1,hX1,hS.took⟩
 | some ms =>
  rw [hms] at hw1
  obtain ⟨ma,mq,mvs,Y,rfl,hma,hmP,hS⟩ := hw1
  replace hS := hbk hS
  clear hbk hw hcc
  obtain ⟨hmsub,hmlen⟩ := Zkr hms
  simp only
  repeat (first|refine Yeg ?_|(refine X_id ?_;first|refine Yaf ?_|refine Yag ?_|refine Ya3 ?_|refine Ybb ?_|refine Yap ?_|refine Yao (fun _ hS _ => ?_))|refine Yes ?_|refine Yab ?_)
  refine Zan (.s 0 (.s 1 (.s 2 (.s 3 (.s 4 (.s 5 (.s 6 (.s 7 (.s 8 (.h 9 (.h 10 .nil .no) .no)))))))))) mixed (by kernel_rfl) rfl ?_
  have hS := hS.drew
  have htbp := (htb.rd hS).pts
  repeat (first|refine Ybd (fun _ _ hS _ => ?_)|(refine Zae ?_;first|refine Ya0 ?_|refine Ybo ?_|refine Ybg ?_|refine Ybm ?_|refine Yc7 ?_|refine Yas ?_)|(refine Zac ?_;first|refine Yc1 ?_))
  obtain ⟨_,hcc,hr1,hw,hbk⟩ := hS.call [false,false,true]
  refine Zaa _ rfl rfl rfl rfl rfl (Zpn ht _ [dbN,name,key] _ _ _ (hT.mono hw) (hG.mono hw) (hr1 _ (List.mem_cons_self ..)).own_row (by simp) hcc) ?_
  rintro _ w ⟨rfl,X2,hX2,hS⟩
  replace hS := hbk hS
  clear hbk hw hcc hr1 htbp
  have hX12 : ∀ x ∈ X,x ∈ X2 := fun x hx => hX2 x (hX1 x hx)
  generalize Zch t [dbN,name,key] = kk
  by_cases hk0 : kk = 0
  ·rw [if_pos hk0]
   repeat (first|refine Yeg ?_|refine Yag ?_|refine Ybh ?_|refine Yfl ?_|refine Yab ?_|(refine Zae ?_;first|refine Yaw ?_)|(refine Zac ?_;first|refine Yc1 ?_))
   refine Zan (.s 0 (.s 1 (.s 2 (.s 3 (.s 4 (.s 5 (.s 6 (.s 7 (.s 8 (.s 9 (.h 10 (.h 11 (.s 12 .nil) .no) .no))))))))))) mixed (by kernel_rfl) rfl ?_
   have hS := hS.drew
   have htbp := (htb.rd hS).pts
   repeat (first|refine Ybd (fun _ _ hS _ => ?_)|(refine Zae ?_;first|refine Ya0 ?_|refine Ybo ?_|refine Ybg ?_|refine Ybm ?_|refine Yc7 ?_|refine Yas ?_)|(refine Zac ?_;first|refine Yc1 ?_))
   obtain ⟨_,hcc,hr1,hw,hbk⟩ := hS.call [false,true]
   refine Zaa _ rfl rfl rfl rfl rfl (Qbm ht bs eb eq _ [dbN,name,key] _ _ _ (hT.mono hw) (hG.mono hw) (hr1 (own 5 1 eb eq (bv bs)) (by simp)).own_row (hr1 _ (List.mem_cons_self ..)).own_row (by simp) hcc) ?_
   rintro _ w ⟨X3,hX3,rfl,hS⟩
   replace hS := hbk hS
   clear hbk hw hcc hr1 htbp
   repeat (first|refine Yah ?_|refine Ye2 ?_|(refine Zae ?_;first|refine Yfg ?_)|(refine Zac ?_;first|refine Yc1 ?_))
   exact ⟨rfl,X3,fun x hx => hX3 x (hX12 x hx),hS.took⟩
  rw [if_neg hk0]
  by_cases hk12 : kk = 1 ∨ kk = 2
  ·rw [if_pos hk12]
   by_cases hk1 : kk = 1
   case' neg => have hk2 : kk = 2 := hk12.resolve_left hk1
   all_goals
    repeat (first|refine Yeg ?_|refine Yag ?_|refine Ybh ?_|refine Ybi ?_|refine Yfn ?_|refine Ye2 ?_|(refine Zae ?_;first|refine Yaw ?_)|(refine Zac ?_;first|refine Yc1 ?_))
    exact ⟨rfl,X2,hX12,hS.took⟩
  rw [if_neg hk12]
  have hk1 : ¬ kk = 1 := fun h => hk12 (.inl h)
  have hk2 : ¬ kk = 2 := fun h => hk12 (.inr h)
  repeat (first|refine Yeg ?_|(refine X_id ?_;first|refine Yaf ?_|refine Yag ?_|refine Yau ?_|refine Ycg ?_|refine Ybi ?_|refine Yar (fun _ _ hS _ => ?_))|refine Ye9 ?_|refine Yeo ?_|(refine Zae ?_;first|refine Yaw ?_)|(refine Zac ?_;first|refine Yc1 ?_))
  rename_i bd _ _
  replace hS := hS.own_none 40 1 none
  have hml : ms.length ≤ 2 := hmlen
  have hS : St W F [chR c f b T (Nt t) X2,own 40 1 none 0 [],pts bd (.cells (List.toArray [.slice none 0 0]) 121 (0,0)),pts be (.cells (List.toArray [.int .i64 0]) 31 (0,0)),bag Y,own 5 1 eb eq (bv bs),pts b3 (.cells (List.toArray [.pointer (some ⟨tb,0,none⟩)]) 30 (0,0))] _ := hS.took
  have hpl2 : ∀ p ∈ wayL name,p.length ≤ 1048576 := by simp [wayL]
  refine Zaj (α := Nat) (fun i => [(1,.string (str key)),(3,.pointer (some ⟨b3,0,none⟩)),(7,.slice eb bs.length eq),(8,.pointer (some ⟨be,0,none⟩)),(10,.pointer (some ⟨bd,0,none⟩)),(11,.func (.func 51) #[] #[.pointer (some ⟨be,0,none⟩),.pointer (some ⟨b3,0,none⟩),.pointer (some ⟨bd,0,none⟩)]),(69,.slice ma ms.length mq),(70,.int .i64 (ms.length : Nat)),(71,.int .i64 (i : Nat))])
   (fun i w => i ≤ ms.length ∧ ∃ X' da dc dvs,(∀ x ∈ X,x ∈ X') ∧ PathsRd Y (Zck n t (ms.take i)).2.2 dvs ∧ (Zck n t (ms.take i)).2.2.length ≤ dc ∧
    St W F [chR c f b T (Nt (Zck n t (ms.take i)).2.1) X',own 40 1 da dc dvs,pts bd (.cells (List.toArray [.slice da (Zck n t (ms.take i)).2.2.length dc]) 121 (0,0)),pts be (.cells (List.toArray [.int .i64 (Zck n t (ms.take i)).1]) 31 (0,0)),bag Y,own 5 1 eb eq (bv bs),pts b3 (.cells (List.toArray [.pointer (some ⟨tb,0,none⟩)]) 30 (0,0))] w)
   (fun i => ms.length - i) 0 ⟨rfl,rfl,rfl,rfl,rfl,rfl,rfl,rfl,rfl,trivial⟩ ⟨Nat.zero_le _,X2,none,0,[],hX12,.nil,Nat.le_refl _,hS⟩ ?_
  clear hS
  rintro i w ⟨hi,X3,da,dc,dvs,hX3,hdP,hdc,hS⟩
  obtain ⟨hzt,hzl,hzm⟩ := Zlw ht _ (ms.take i) rfl
  rw [List.length_take] at hzl
  by_cases hlt : i < ms.length
  ·have hp0 : ms[i]? = some ms[i] := List.getElem?_eq_getElem hlt
   have htk : ms.take (i + 1) = ms.take i ++ [ms[i]] := List.take_succ_eq_append_getElem hlt
   generalize ms[i] = p at hp0 htk
   have hpl := hpl2 p (hmsub p (List.mem_of_getElem? hp0))
   obtain ⟨pa,pc,hx,hpc,hpr⟩ := hmP.2 i p hp0
   have hr := hma.rd (hS.rd (r := bag Y) (by simp))
   obtain ⟨xb,xo,hmb⟩ := hr.base (by intro e; rw [e] at hx; simp at hx)
   subst hmb
   repeat (first|refine Yeg ?_|(refine X_id ?_;first|refine Yaf ?_|refine Yag ?_|refine Ya1 ?_|refine Ybn ?_|refine Yba ?_|refine Yb1 ?_)|refine Yek ?_|refine Yab ?_)
   clear hr
   obtain ⟨_,hcc,hr1,hw,hbk⟩ := hS.call [true,true,true,true]
   refine Zb2 (first := []) (captured := [.pointer (some ⟨be,0,none⟩),.pointer (some ⟨b3,0,none⟩),.pointer (some ⟨bd,0,none⟩)]) rfl rfl rfl rfl rfl (Z7x hzt tb be b3 bd name _ Zqq none 0 pa p pc da dc _ dvs _ _ (hT.mono hw) (hG.mono hw) (hw _ htb) (hr1 (pts b3 (.cells (List.toArray [.pointer (some ⟨tb,0,none⟩)]) 30 (0,0))) (by simp)) (hr1 (bag Y) (by simp)) hpr hpc hpl (Zit _ _ _) hdP hdc (by omega) hcc) ?_
   rintro _ w ⟨rfl,X4,da',dc',vs',hX4,hP',hdc',hS⟩
   replace hS := hbk hS
   clear hbk hw hcc hr1
   repeat (first|refine Yeg ?_|refine Yel ?_|refine Yad ?_|refine Yeo ?_)
   refine Zaf (i + 1) ⟨rfl,rfl,rfl,rfl,rfl,rfl,rfl,rfl,rfl,trivial⟩ ⟨hlt,X4,da',dc',vs',fun x hx => hX4 x (hX3 x hx),?_⟩ (by omega)
   rw [htk,Zlv]
   exact ⟨hP',hdc',hS.took⟩
  ·obtain rfl : i = ms.length := by omega
   rw [List.take_length] at hdP hdc hS hzt hzl hzm
   generalize Zck n t ms = z at hdP hdc hS hzt hzl hzm ⊢
   obtain ⟨ze,zt,zd⟩ := z
   simp only at hdP hdc hS hzt hzl hzm
   repeat (first|refine Yeg ?_|(refine X_id ?_;first|refine Yaf ?_|refine Yav ?_|refine Yan ?_|refine Yaz ?_|refine Ybn ?_|refine Yap ?_|refine Ybd (fun _ _ hS _ => ?_)|refine Ycd ?_)|refine Yet ?_|refine Yem ?_)
   rename_i pb _ _
   have hS := hS.pick [0,4,0,0,0,0,0,0]
   have hS := hS.bagAdd (a := some ⟨pb,0,none⟩) (cs := strV [dbN,name,key]) fun _ h => h.row
   obtain ⟨_,hcc,hr1,hw,hbk⟩ := hS.call [false,true,true,true,true]
   refine Zb2 (first := []) (captured := [.pointer (some ⟨be,0,none⟩),.pointer (some ⟨b3,0,none⟩),.pointer (some ⟨bd,0,none⟩)]) rfl rfl rfl rfl rfl (Z7x (Y := (some ⟨pb,0,none⟩,strV [dbN,name,key]) :: Y) hzt tb be b3 bd name ze (Zc5 bs) eb eq (some ⟨pb,0,none⟩) [dbN,name,key] 3 da dc zd dvs _ _ (hT.mono hw) (hG.mono hw) (hw _ htb) (hr1 (pts b3 (.cells (List.toArray [.pointer (some ⟨tb,0,none⟩)]) 30 (0,0))) (by simp)) (hr1 _ (List.mem_cons_self ..)) (.mem (List.mem_cons_self ..)) (Nat.le_refl 3) (by simp) (hr1 (own 5 1 eb eq (bv bs)) (by simp)).own_row (hdP.sub fun x hx => List.mem_cons_of_mem _ hx) hdc (by omega) hcc) ?_
   rintro _ w ⟨rfl,X4,da',dc',vs',hX4,hP',hdc',hS⟩
   replace hS := hbk hS
   clear hbk hw hcc hr1
   have hzt' := Zlu (n := n) (z := (ze,zt,zd)) hzt (Zc5 bs) [dbN,name,key]
   have hdn : (Zcd n (ze,zt,zd) (Zc5 bs) [dbN,name,key]).2.2.length ≤ 3 ∧ ∀ p ∈ (Zcd n (ze,zt,zd) (Zc5 bs) [dbN,name,key]).2.2,p.length ≤ 1048576 := by
    have hz1 : ∀ p ∈ zd,p.length ≤ 1048576 := fun p hp => hpl2 p (hmsub p (hzm p hp))
    rcases Zhp (n := n) (z := (ze,zt,zd)) (nd := Zc5 bs) (p := [dbN,name,key]) with h | h
    ·rw [h]; exact ⟨by simp only; omega,hz1⟩
    ·rw [h]
     refine ⟨by rw [List.length_append]; simp only [List.length_singleton]; omega,fun p hp => ?_⟩
     rcases List.mem_append.1 hp with hp | hp
     ·exact hz1 p hp
     ·obtain rfl := List.mem_singleton.1 hp
      simp
   generalize Zcd n (ze,zt,zd) (Zc5 bs) [dbN,name,key] = z' at hS hP' hdc' hzt' hdn ⊢
   obtain ⟨e',t',d'⟩ := z'
   simp only at hS hP' hdc' hzt' hdn ⊢
   by_cases h0 : e' = 0
   ·subst h0
    rw [if_pos rfl]
    repeat (first|refine Yeg ?_|refine Yag ?_|refine Ybb ?_|refine Yap ?_|refine Ye6 ?_|refine Yei ?_)
    exact ⟨rfl,X4,fun x hx => hX4 x (hX3 x hx),hS.took⟩
   ·rw [if_neg h0]
    repeat (first|refine Yeg ?_|refine Ybl ?_|refine Yap ?_|refine Yer ?_|refine Yab ?_)
    obtain ⟨_,hcc,hr1,hw,hbk⟩ := hS.call [true]
    refine Zaa _ rfl rfl rfl rfl rfl (Z9z hzt' tb name da' d' dc' vs' _ _ (hT.mono hw) (hG.mono hw) (hw _ htb) (hr1 (bag ((some ⟨pb,0,none⟩,strV [dbN,name,key]) :: Y)) (by simp)) hP' (hr1 _ (List.mem_cons_self ..)).own_row (by omega) hdn.2 hcc) ?_
    rintro _ w ⟨rfl,X5,hX5,hS⟩
    replace hS := hbk hS
    clear hbk hw hcc hr1
    repeat (first|refine Yeg ?_|refine Yag ?_|refine Yap ?_|refine Yeu ?_|refine Yei ?_)
    exact ⟨rfl,X5,fun x hx => hX5 x (hX4 x (hX3 x hx)),hS.took⟩
end
theorem Zyd (k k' : Int) (v : Value) (L : List (Int × Value)) : getM k (setM k' v L) = if k = k' then some v else getM k L := Zlg k k' v L
def Seen (L : List (Int × Value)) (D : List Int) : Prop := ∀ k,(getM k L).getD (.bool false) = .bool (decide (k ∈ D))
theorem Seen.nil : Seen [] [] := fun k => by simp [getM]
theorem Seen.add {L : List (Int × Value)} {D : List Int} (h : Seen L D) (b : Int) : Seen (setM b (.bool true) L) (D ++ [b]) := fun k => by
 rw [Zyd]
 by_cases e : k = b
 ·rw [if_pos e]; simp [e]
 ·rw [if_neg e,h k]; simp [e]
structure Gone (A : AV) (left : List MapEntry) (D : List Int) : Prop where
 sub : ∀ k ∈ D,∃ x ∈ A,k ∈ x.2.s.blocks ∧ ¬ ∃ e ∈ left,(e.key,e.val) = (Value.int .i64 x.1,x.2.val)
 all : ∀ x ∈ A,(∀ b ∈ x.2.s.blocks,b ∈ D) ∨ ∃ e ∈ left,(e.key,e.val) = (Value.int .i64 x.1,x.2.val)
theorem Gone.start {A : AV} {es : Array MapEntry} (h : kvs es = A.vals.map (fun x => (Value.int .i64 x.1,x.2))) : Gone A es.toList [] :=
 ⟨fun _ h => by simp at h,fun x hx => .inr (by
  have hm : (Value.int .i64 x.1,x.2.val) ∈ kvs es := by
   rw [h]
   exact List.mem_map.2 ⟨(x.1,x.2.val),List.mem_map.2 ⟨x,hx,rfl⟩,rfl⟩
  obtain ⟨e,he,hk⟩ := List.mem_map.1 hm
  exact ⟨e,he,hk⟩)⟩
theorem Zuc {A : AV} {es : Array MapEntry} (h : kvs es = A.vals.map (fun x => (Value.int .i64 x.1,x.2))) {e : MapEntry} (he : e ∈ es.toList) : ∃ x ∈ A,e.key = Value.int .i64 x.1 ∧ e.val = x.2.val := by
 have hm : (e.key,e.val) ∈ kvs es := List.mem_map.2 ⟨e,he,rfl⟩
 rw [h] at hm
 obtain ⟨y,hy,hk⟩ := List.mem_map.1 hm
 obtain ⟨x,hx,rfl⟩ := List.mem_map.1 hy
 exact ⟨x,hx,(Prod.mk.inj hk).1.symm,(Prod.mk.inj hk).2.symm⟩
theorem Z4t {A : AV} (hn : (Zaw A).Nodup) {x y : Int × SV} (hx : x ∈ A) (hy : y ∈ A) (h : x.1 = y.1) : x = y := by
 have h1 := Zel hn (show (x.1,x.2) ∈ A from hx)
 have h2 := Zel hn (show (y.1,y.2) ∈ A from hy)
 rw [h,h2] at h1
 exact Prod.ext h (Option.some.inj h1).symm
theorem Zp9 (A : AV) : Zaw A.ents = Zaw A := by simp [Zaw,AV.ents]
theorem Gone.step {A : AV} {left left' : List MapEntry} {D : List Int} (h : Gone A left D) (hn : (Zaw A).Nodup) {e : MapEntry} (hp : left.Perm (e :: left')) {x : Int × SV} (hx : x ∈ A) (h1 : e.key = Value.int .i64 x.1) (h2 : e.val = x.2.val)
  (hborn : ∀ e' ∈ left',¬ (e'.key = e.key)) : Gone A left' (D ++ x.2.s.blocks) := by
 refine ⟨fun k hk => ?_,fun y hy => ?_⟩
 ·rcases List.mem_append.1 hk with hk | hk
  ·obtain ⟨y,hy,hky,hne⟩ := h.sub k hk
   exact ⟨y,hy,hky,fun ⟨e',he',q⟩ => hne ⟨e',hp.symm.subset (List.mem_cons_of_mem _ he'),q⟩⟩
  ·exact ⟨x,hx,hk,fun ⟨e',he',q⟩ => hborn e' he' (by rw [h1]; exact (Prod.mk.inj q).1)⟩
 ·rcases h.all y hy with ha | ⟨e',he',q⟩
  ·exact .inl fun b hb => List.mem_append_left _ (ha b hb)
  ·rcases List.mem_cons.1 (hp.subset he') with rfl | he'
   ·left
    have : y.1 = x.1 := by
     have := (Prod.mk.inj q).1
     rw [h1] at this
     exact (Value.int.inj this).2.symm
    rw [Z4t hn hy hx this]
    exact fun b hb => List.mem_append_right _ hb
   ·exact .inr ⟨e',he',q⟩
theorem Gone.done {A : AV} {D : List Int} (h : Gone A [] D) (k : Int) : k ∈ D ↔ k ∈ Za0 A.ents := by
 constructor
 ·intro hk
  obtain ⟨x,hx,hb,_⟩ := h.sub k hk
  exact List.mem_flatMap.2 ⟨_,AV.mem_ents hx,hb⟩
 ·intro hk
  obtain ⟨y,hy,hb⟩ := List.mem_flatMap.1 hk
  obtain ⟨x,hx,rfl⟩ := List.mem_map.1 hy
  rcases h.all x hx with ha | ⟨e,he,_⟩
  ·exact ha k hb
  ·cases he
theorem Zx1 {A : AV} {es : Array MapEntry} (h : kvs es = A.vals.map (fun x => (Value.int .i64 x.1,x.2))) (hn : (Zaw A).Nodup) {seen : Array Nat} {e : MapEntry} {left' : List MapEntry} (hp : (Zdr es seen).Perm (e :: left')) : ∀ e' ∈ left',¬ (e'.key = e.key) := by
 have hk : (es.toList.map (·.key)).Nodup := by
  have e1 : es.toList.map (·.key) = (kvs es).map (·.1) := by simp [kvs,Function.comp_def]
  rw [e1,h]
  have e2 : ((AV.vals A).map (fun x => (Value.int .i64 x.1,x.2))).map (·.1) = (Zaw A).map (Value.int .i64) := by simp [AV.vals,Zaw,Function.comp_def]
  rw [e2,List.Nodup,List.pairwise_map]
  exact hn.imp fun h e => h (Value.int.inj e).2
 have h2 : ((Zdr es seen).map (·.key)).Nodup := hk.sublist (List.filter_sublist.map _)
 have h3 := (hp.map (·.key)).nodup_iff.1 h2
 rw [List.map_cons,List.nodup_cons] at h3
 exact fun e' he' q => h3.1 (by rw [← q]; exact List.mem_map.2 ⟨e',he',rfl⟩)
def Zg7 (D : List Int) (i : Nat) : List Int := ((List.range i).map fun k => ((k : Nat) : Int)).filter fun b => decide (b ∉ D)
theorem Zsc (D : List Int) (i : Nat) : Zg7 D (i + 1) = Zg7 D i ++ if ((i : Nat) : Int) ∈ D then [] else [((i : Nat) : Int)] := by
 unfold Zg7
 rw [List.range_succ,List.map_append,List.filter_append]
 congr 1
 by_cases h : ((i : Nat) : Int) ∈ D <;> simp [h]
theorem Zyi (D : List Int) (i : Nat) : (Zg7 D i).length ≤ i := by
 unfold Zg7
 exact Nat.le_trans (List.length_filter_le ..) (by simp)
theorem Zvy {A : AV} {D : List Int} (h : Gone A [] D) (nb : Nat) : Zg7 D nb = Zhj A.ents nb := by
 unfold Zg7 Zhj
 refine List.filter_congr fun x _ => ?_
 have := h.done x
 by_cases hx : x ∈ D
 ·simp [hx,this.1 hx]
 ·have h2 : x ∉ Za0 A.ents := fun h => hx (this.2 h)
  simp [hx,h2]
theorem Zld (k : IntKind) (L M : List Int) : ints k (L ++ M) = ints k L ++ ints k M := by simp [ints]
theorem Qbh (tp lp n r r2 p j m nb : Nat) (A : AV) (dat : List (List UInt8)) (W : World) (hT : Rd W (Ziz tp lp n r)) (hq : Rd W (qlog lp p j m dat)) (hd : dat.length = 1 + n + nb) (hm : Rd W (mapq (Value.int .i64) r2 A.vals)) (hb : ∀ x ∈ A,Rd W (row x.2.ba (ints .i64 x.2.s.blocks))) (hbl : ∀ x ∈ A,x.2.s.blocks.length ≤ 1048576) (hn : (Zaw A).Nodup) :
  Calls Tryz.prog 144 #[.pointer (some ⟨tp,0,none⟩),.map (some r2)] W (Ret fun v w => ∃ a c,v = .slice a (Zhj A.ents nb).length c ∧ (Zhj A.ents nb).length ≤ c ∧ St W noF [own 3 1 a c (ints .i64 (Zhj A.ents nb))] w) := by
 have hTo := hT.ro
 have hqo := hq.ro
 have hql := (qlen hq).1
 obtain ⟨es,clock,hes,hst,hmp⟩ := hm.openMap
 have hmpo := hmp.ro
 have hbo : ∀ x ∈ A,Ro W noF (row x.2.ba (ints .i64 x.2.s.blocks)) := fun x hx => (hb x hx).ro
 have hS := St.start W
 refine Zab Tryz.func144 rfl Tryz.ntmps144 rfl ?_
 repeat (first|refine Yeg ?_|refine Yag ?_|refine Yeh ?_|refine Yab ?_)
 refine Zfo (Value.int .i64) rfl rfl rfl hS (fun r3 w hS => ?_)
 repeat (first|refine Yeg ?_|refine Yev ?_|refine Yeh ?_|refine Yab ?_)
 refine Znn rfl rfl (hmpo.rd hS) rfl rfl hS (fun it w hS _ => ?_)
 repeat (first|refine Yac ?_|refine Yaj ?_|refine Yab ?_)
 refine Zbk (α := Nat × List (Int × Value) × List Int) (fun z => [(0,.pointer (some ⟨tp,0,none⟩)),(5,.map (some z.1))]) (fun z w => Seen z.2.1 z.2.2 ∧ Gone A [] z.2.2 ∧ St W noF [mapq (Value.int .i64) z.1 z.2.1] w) ?_ ?_
 ·refine Zaj (α := Array Nat × List (Int × Value) × List Int) (fun _ => [(0,.pointer (some ⟨tp,0,none⟩)),(5,.map (some r3)),(14,.pointer (some ⟨it,0,none⟩))])
   (fun z w => Seen z.2.1 z.2.2 ∧ Gone A (Zdr es z.1) z.2.2 ∧ St W noF [pts it (.mapIter (some r2) clock z.1 clock),mapq (Value.int .i64) r3 z.2.1] w) (fun z => (Zdr es z.1).length) (#[],[],[]) ⟨rfl,rfl,rfl,trivial⟩ ⟨Seen.nil,by rw [Zlb]; exact Gone.start hes,hS⟩ ?_
  clear hS
  rintro ⟨seen,L,D⟩ w ⟨hse,hgo,hS⟩
  simp only at hse hgo hS ⊢
  repeat (first|refine Yaa ?_|refine Yeh ?_)
  refine Zrg rfl rfl hst (hmpo.rd hS) rfl rfl hS (fun h0 => ?_) (fun e he w hS => ?_)
  ·repeat (first|refine Yeg ?_|refine Ya3 ?_|refine Yae ?_|refine Ya4 ?_|refine Yai ?_|refine Yem ?_)
   refine Zbj (r3,L,D) ⟨rfl,rfl,trivial⟩ ⟨hse,by rw [h0] at hgo; exact hgo,hS.pick [1]⟩
  ·have hel : e ∈ es.toList := (List.mem_filter.1 he).1
   have hstep := Zm3 hst he
   obtain ⟨x,hxA,hk,hv⟩ := Zuc hes hel
   have hgo2 := hgo.step hn hstep hxA hk hv (Zx1 hes hn hstep)
   have hlt : (Zdr es (seen.push e.born)).length < (Zdr es seen).length := by rw [hstep.length_eq]; simp
   have hxl := hbl x hxA
   have hr := hbo x hxA
   repeat (first|refine Yeg ?_|refine Ya3 ?_|refine Yek ?_|refine Yab ?_)
   refine X_yl (Zuv rfl rfl hst hel hS.has (hmpo.rd hS).pts) rfl rfl ?_
   rw [hv]
   repeat (first|refine Yeg ?_|(refine X_id ?_;first|refine Yaf ?_|refine Yan ?_|refine Ya3 ?_|refine Yau ?_|refine Yap ?_|refine Yao (fun _ hS _ => ?_)|refine Yar (fun _ _ hS _ => ?_))|refine Yej ?_|refine Yab ?_)
   refine Zaj (α := Nat × List (Int × Value)) (fun z => [(0,.pointer (some ⟨tp,0,none⟩)),(5,.map (some r3)),(14,.pointer (some ⟨it,0,none⟩)),(20,.slice x.2.ba x.2.s.blocks.length x.2.bc),(21,.int .i64 (x.2.s.blocks.length : Nat)),(22,.int .i64 (z.1 : Nat))])
    (fun z w => z.1 ≤ x.2.s.blocks.length ∧ Seen z.2 (D ++ x.2.s.blocks.take z.1) ∧ St W noF [mapq (Value.int .i64) r3 z.2,pts it (.mapIter (some r2) clock (seen.push e.born) clock)] w) (fun z => x.2.s.blocks.length - z.1) (0,L) ⟨rfl,rfl,rfl,rfl,rfl,rfl,trivial⟩ ⟨Nat.zero_le _,by simpa using hse,hS.pick [2,1]⟩ ?_
   clear hS hse
   rintro ⟨i,L2⟩ w ⟨hi,hse,hS⟩
   simp only at hi hse hS ⊢
   by_cases hlt2 : i < x.2.s.blocks.length
   ·have hx0 : x.2.s.blocks[i]? = some x.2.s.blocks[i] := List.getElem?_eq_getElem hlt2
    generalize x.2.s.blocks[i] = b at hx0
    have hx : (ints .i64 x.2.s.blocks)[i]? = some (.int .i64 b) := by simp [ints,hx0]
    have hbase := (hr.rd hS).base (by intro e; rw [e] at hx; simp at hx)
    obtain ⟨xb,xo,hxa⟩ := hbase
    rw [hxa] at hr ⊢
    repeat (first|refine Yeg ?_|refine Yff ?_|refine Yek ?_|refine Yab ?_)
    refine Ze2 rfl rfl rfl rfl rfl hS (fun w hS => ?_)
    repeat (first|refine Yeg ?_|refine Yel ?_|refine Yad ?_|refine Yeo ?_)
    refine Zaf (z := (i,L2)) (i + 1,setM b (.bool true) L2) ⟨rfl,rfl,rfl,rfl,rfl,rfl,trivial⟩ ⟨by simp only; omega,?_,hS⟩ (by simp only; omega)
    simp only
    rw [List.take_add_one,hx0]
    have := hse.add b
    rwa [List.append_assoc] at this
   ·obtain rfl : i = x.2.s.blocks.length := by omega
    rw [List.take_length] at hse
    repeat (first|refine Yeg ?_|refine Yaz ?_|refine Yet ?_|refine Yfa ?_)
    exact Zaf (z := (seen,L,D)) (seen.push e.born,L2,D ++ x.2.s.blocks) ⟨rfl,rfl,rfl,trivial⟩ ⟨hse,hgo2,hS.pick [1,0]⟩ hlt
 ·clear hS
  rintro ⟨r3,L,D⟩ w ⟨hse,hgo,hS⟩
  simp only at hse hgo hS ⊢
  rw [← Zvy hgo nb]
  repeat (first|refine Yeg ?_|refine Yev ?_|refine Yeh ?_|refine Yab ?_)
  refine Zad _ rfl rfl rfl rfl rfl hS (Z0e tp lp n r p j m nb dat _ (hTo.rd hS) (hqo.rd hS) hd) ?_
  rintro _ w rfl hS
  repeat (first|refine Yeg ?_|refine Yaf ?_|refine Yaj ?_|refine Yab ?_)
  refine Zaj (α := Nat × Option Addr × Nat) (fun z => [(5,.map (some r3)),(10,.slice z.2.1 (Zg7 D z.1).length z.2.2),(30,.int .i64 (nb : Nat)),(31,.int .i64 (z.1 : Nat))])
   (fun z w => z.1 ≤ nb ∧ (Zg7 D z.1).length ≤ z.2.2 ∧ St W noF [own 3 1 z.2.1 z.2.2 (ints .i64 (Zg7 D z.1)),mapq (Value.int .i64) r3 L] w) (fun z => nb - z.1) (0,none,0) ⟨rfl,rfl,rfl,rfl,trivial⟩ ⟨Nat.zero_le _,Nat.le_refl _,hS.own_none _ _ _⟩ ?_
  clear hS
  rintro ⟨i,a,c⟩ w ⟨hi,hc,hS⟩
  simp only at hi hc hS ⊢
  have hfl := Zyi D i
  by_cases hlt : i < nb
  ·have hg := hse (i : Nat)
   have hsu := Zsc D i
   by_cases hin : ((i : Nat) : Int) ∈ D
   ·rw [decide_eq_true hin] at hg
    rw [if_pos hin,List.append_nil] at hsu
    repeat (first|refine Yeg ?_|refine Yaf ?_|refine Yag ?_|refine Ya1 ?_|refine Yek ?_|refine Yab ?_)
    refine X_yl (Zis (mk := Value.int .i64) (L := L) (k := ((i : Nat) : Int)) rfl rfl rfl ((hS.rd (by simp)).mapq_r)) rfl rfl ?_
    rw [hg]
    repeat (first|refine Yeg ?_|refine Yaf ?_|refine Ybc ?_|refine Yay ?_|refine Ye8 ?_|refine Yeo ?_)
    refine Zaf (z := (i,a,c)) (i + 1,a,c) ⟨rfl,?_,rfl,rfl,trivial⟩ ⟨by simp only; omega,by simp only; rw [hsu]; exact hc,?_⟩ (by simp only; omega)
    ·simp only; rw [hsu]; rfl
    ·simp only; rw [hsu]; exact hS
   ·rw [decide_eq_false hin] at hg
    rw [if_neg hin] at hsu
    repeat (first|refine Yeg ?_|refine Yaf ?_|refine Yag ?_|refine Ya1 ?_|refine Yek ?_|refine Yab ?_)
    refine X_yl (Zis (mk := Value.int .i64) (L := L) (k := ((i : Nat) : Int)) rfl rfl rfl ((hS.rd (by simp)).mapq_r)) rfl rfl ?_
    rw [hg]
    repeat (first|refine Yeg ?_|refine Yaf ?_|refine Ybq ?_|refine Ybd (fun _ _ hS _ => ?_)|refine Yad ?_|refine Yak ?_|refine Yab ?_)
    refine Zap (m := 1) rfl rfl rfl rfl rfl hS (by simp [ints_length]) hc ((hS.rd (List.mem_cons_self ..)).own_row) (by simp) (by simp [Value.oneCell']) (by omega) (by simp only [maxLen]; omega) (fun a' c' w hS hc' _ => ?_)
    repeat (first|refine Yeg ?_|refine Yew ?_|refine Yad ?_|refine Yeo ?_)
    refine Zaf (z := (i,a,c)) (i + 1,a',c') ⟨rfl,?_,rfl,rfl,trivial⟩ ⟨by simp only; omega,by simp only; rw [hsu]; simpa using hc',?_⟩ (by simp only; omega)
    ·simp only; rw [hsu,List.length_append]; rfl
    ·simp only; rw [hsu,Zld]; have h := hS.pick [0,1]; exact h
  ·obtain rfl : i = nb := by omega
   repeat (first|refine Yeg ?_|refine Yfb ?_|refine Yep ?_|refine Yfc ?_)
   exact ⟨a,c,rfl,hc,hS.pick [0]⟩
section
variable {rd fs : List Int} {tp lp p j m n nb : Nat} {T : Tb}
end
structure ChgA where
 c : Chg
 a : Option Addr
 k : Nat
abbrev ChgA.cells (x : ChgA) : List Value := [.int .i64 x.c.no,.int .i64 x.c.nd.st.kind,.int .i64 x.c.nd.st.mode,.int .i64 x.c.nd.st.owner,.int .i64 x.c.nd.st.group,.slice x.a x.c.nd.data.length x.k,.bool x.c.drop]
structure Chgs (W : World) (F : Nat → Prop) (a : Option Addr) (l : List ChgA) : Prop where
 row : Ro W F (row a (l.flatMap ChgA.cells))
 all : ∀ x ∈ l,Ro W F (bytes x.a x.c.nd.data)
theorem Chgs.mono {W w : World} {F F' : Nat → Prop} {a : Option Addr} {l : List ChgA} (h : Chgs W F a l) (hw : ∀ r,Ro W F r → Ro w F' r) : Chgs w F' a l := ⟨hw _ h.row,fun x hx => hw _ (h.all x hx)⟩
theorem Zjc {l : List ChgA} {i : Nat} {x : ChgA} (h : l[i]? = some x) : ((l.flatMap ChgA.cells).drop (i * 7)).take 7 = x.cells := Zcr (f := ChgA.cells) (fun _ _ => rfl) h
theorem Zy0 (x : ChgA) (b : Nat) (cs : List Value) (no : Int) (T : TypeId) (hno : cs[0]? = some (.int .i64 no)) (W : World) (hb : Rd W (pts b (.cells cs.toArray T))) :
  Calls Tryz.prog 199 #[.agg (ChgA.cells x).toArray,.pointer (some ⟨b,0,none⟩)] W (Ret fun v w => v = .bool (decide (x.c.no = no)) ∧ St W noF [] w) := by
 have hbo := hb.ro
 have hS := St.start W
 refine Zab Tryz.func199 rfl Tryz.ntmps199 rfl ?_
 repeat (first|refine Yeg ?_|refine Yag ?_|refine Yan ?_|refine Yap ?_|refine Ya7 (fun _ _ hS _ => ?_)|refine Yeh ?_|refine Yab ?_)
 refine X_yl (Zav rfl rfl ((cell_of_row _ b 0 cs.toArray T (0,0) (hbo.rd hS).pts).trans (by simpa using hno))) rfl rfl ?_
 repeat (first|refine Yeg ?_|refine Yag ?_|refine Yc0 ?_|refine Yah ?_|refine Yei ?_)
 exact ⟨rfl,hS.drops⟩
theorem Zvw (a : Option Addr) (i c b : Nat) (l : List ChgA) (cs : List Value) (no : Int) (T : TypeId) (hno : cs[0]? = some (.int .i64 no)) (W : World) (hr0 : Rd W (row a (l.flatMap ChgA.cells))) (hb : Rd W (pts b (.cells cs.toArray T))) (hi : i ≤ l.length) (hl : l.length ≤ 1048576) :
  Calls Tryz.prog 232 #[.slice a i c,.func (.func 199) #[] #[.pointer (some ⟨b,0,none⟩)]] W (Ret fun v w => (∃ z : Int,v = .int .i64 z ∧ (0 ≤ z ↔ no ∈ (l.take i).map (·.c.no)) ∧ -1 ≤ z) ∧ St W noF [] w) := by
 have hbo := hb.ro
 have hr1 := hr0.ro
 have hS := St.start W
 refine Zab Tryz.func232 rfl Tryz.ntmps232 rfl ?_
 repeat (first|refine Yeg ?_|refine Yfh ?_|refine Yej ?_|refine Yab ?_)
 refine Zaj (α := Nat) (fun k => [(0,.slice a i c),(1,.func (.func 199) #[] #[.pointer (some ⟨b,0,none⟩)]),(7,.int .i64 (i : Nat)),(8,.int .i64 (k : Nat))])
  (fun k w => k ≤ i ∧ (no ∉ (l.take k).map (·.c.no)) ∧ St W noF [] w) (fun k => i - k) 0 ⟨rfl,rfl,rfl,rfl,trivial⟩ ⟨Nat.zero_le _,by simp,hS⟩ ?_
 clear hS
 rintro k w ⟨hk,hne,hS⟩
 by_cases hlt : k < i
 ·have hx0 : l[k]? = some l[k] := List.getElem?_eq_getElem (by omega)
  generalize l[k] = x at hx0
  have hr := hr1
  have hxs : ((l.flatMap ChgA.cells).drop (k * 7)).take 7 = [.int .i64 x.c.no,.int .i64 x.c.nd.st.kind,.int .i64 x.c.nd.st.mode,.int .i64 x.c.nd.st.owner,.int .i64 x.c.nd.st.group,.slice x.a x.c.nd.data.length x.k,.bool x.c.drop] := Zjc hx0
  obtain ⟨xb,xo,rfl⟩ := (hr.rd hS).base (by intro e; rw [e] at hxs; simp at hxs)
  have htk : (l.take (k + 1)).map (·.c.no) = (l.take k).map (·.c.no) ++ [x.c.no] := by rw [List.take_add_one,hx0]; simp
  by_cases hq : x.c.no = no
  ·have hc1 := fun w h => Zy0 x b cs no T hno w h
   rw [decide_eq_true hq] at hc1
   repeat (first|refine Yeg ?_|(refine X_id ?_;first|refine Yaf ?_|refine Yag ?_|refine Ya1 ?_|refine Yba ?_|refine Ybr ?_)|refine Yek ?_|refine Yab ?_)
   refine Zb2 (first := []) (captured := [.pointer (some ⟨b,0,none⟩)]) rfl rfl rfl rfl rfl (hc1 _ (hbo.rd hS)) ?_
   rintro _ w' ⟨rfl,hS'⟩
   replace hS := hS.plus hS'
   clear hS'
   repeat (first|refine Yeg ?_|refine Yev ?_|refine Yey ?_|refine Ye2 ?_)
   refine ⟨⟨(k : Nat),rfl,⟨fun _ => ?_,fun _ => by omega⟩,by omega⟩,hS⟩
   have : no ∈ (l.take (k + 1)).map (·.c.no) := by rw [htk,hq]; simp
   exact (List.Sublist.map _ (List.take_sublist_take_left (by omega))).subset this
  ·have hc1 := fun w h => Zy0 x b cs no T hno w h
   rw [decide_eq_false hq] at hc1
   repeat (first|refine Yeg ?_|(refine X_id ?_;first|refine Yaf ?_|refine Yag ?_|refine Ya1 ?_|refine Yba ?_|refine Ybr ?_)|refine Yek ?_|refine Yab ?_)
   refine Zb2 (first := []) (captured := [.pointer (some ⟨b,0,none⟩)]) rfl rfl rfl rfl rfl (hc1 _ (hbo.rd hS)) ?_
   rintro _ w' ⟨rfl,hS'⟩
   replace hS := hS.plus hS'
   clear hS'
   repeat (first|refine Yeg ?_|refine Yel ?_|refine Ye8 ?_|refine Yeo ?_)
   refine Zaf (k + 1) ⟨rfl,rfl,rfl,rfl,trivial⟩ ⟨by omega,?_,hS⟩ (by omega)
   rw [htk]
   simp only [List.mem_append,List.mem_singleton,not_or]
   exact ⟨hne,fun e => hq e.symm⟩
 ·obtain rfl : k = i := by omega
  repeat (first|refine Yeg ?_|refine Yag ?_|refine Yaz ?_|refine Yep ?_|refine Yfc ?_)
  exact ⟨⟨-1,rfl,⟨fun h => by omega,fun h => absurd h hne⟩,by omega⟩,hS⟩
theorem Zio (a : Option Addr) (i c b : Nat) (l : List ChgA) (cs : List Value) (no : Int) (T : TypeId) (hno : cs[0]? = some (.int .i64 no)) (W : World) (hr0 : Rd W (row a (l.flatMap ChgA.cells))) (hb : Rd W (pts b (.cells cs.toArray T))) (hi : i ≤ l.length) (hl : l.length ≤ 1048576) :
  Calls Tryz.prog 198 #[.slice a i c,.func (.func 199) #[] #[.pointer (some ⟨b,0,none⟩)]] W (Ret fun v w => v = .bool (decide (no ∈ (l.take i).map (·.c.no))) ∧ St W noF [] w) := by
 have hS := St.start W
 refine Zab Tryz.func198 rfl Tryz.ntmps198 rfl ?_
 repeat (first|refine Yeg ?_|refine Yev ?_|refine Yeh ?_|refine Yab ?_)
 refine Zaa _ rfl rfl rfl rfl rfl (Zvw a i c b l cs no T hno _ hr0 hb hi hl) ?_
 rintro _ w ⟨⟨z,rfl,hz,hz1⟩,hS'⟩
 replace hS := hS.plus hS'
 clear hS'
 repeat (first|refine Yeg ?_|(refine X_id ?_;first|refine Yag ?_|refine X_yl (Zut rfl rfl rfl) rfl rfl ?_)|refine Yah ?_|refine Yei ?_)
 refine ⟨?_,hS⟩
 simp [hz]
theorem Z5b (tp lp n r : Nat) (a : Option Addr) (c : Nat) (l : List ChgA) (W : World) (hT : Rd W (Ziz tp lp n r)) (hC : Chgs W noF a l) (hl : l.length ≤ 1048576) (hc : l.length ≤ c) (_ : n ≤ 1048576) :
  Calls Tryz.prog 142 #[.pointer (some ⟨tp,0,none⟩),.slice a l.length c] W (Ret fun v w => v = .int .i64 (Zfk (l.map ChgA.c) n) ∧ St W noF [] w) := by
 have hTo := hT.ro
 have hS := St.start W
 obtain ⟨cl,hcl⟩ : ∃ cl,cl = l.map ChgA.c := ⟨_,rfl⟩
 have hget : ∀ {i : Nat} {x : ChgA},l[i]? = some x → cl[i]? = some x.c := fun {i x} h => by rw [hcl]; simp [h]
 rw [← hcl]
 refine Zab Tryz.func142 rfl Tryz.ntmps142 rfl ?_
 repeat (first|refine Yeg ?_|refine Yfh ?_|refine Yej ?_|refine Yab ?_)
 refine Zbk (α := Unit) (fun _ => [(0,.pointer (some ⟨tp,0,none⟩)),(1,.slice a l.length c)]) (fun _ w => (∀ x ∈ cl,0 ≤ x.no ∧ x.no < n) ∧ St W noF [] w) ?_ ?_
 ·refine Zaj (α := Nat) (fun i => [(0,.pointer (some ⟨tp,0,none⟩)),(1,.slice a l.length c),(12,.slice a l.length c),(13,.int .i64 (l.length : Nat)),(14,.int .i64 (i : Nat))])
   (fun i w => i ≤ l.length ∧ (∀ x ∈ cl.take i,0 ≤ x.no ∧ x.no < n) ∧ St W noF [] w) (fun i => l.length - i) 0 ⟨rfl,rfl,rfl,rfl,rfl,trivial⟩ ⟨Nat.zero_le _,by simp,hS⟩ ?_
  clear hS
  rintro i w ⟨hi,hall,hS⟩
  by_cases hlt : i < l.length
  ·have hx0 : l[i]? = some l[i] := List.getElem?_eq_getElem (by omega)
   generalize l[i] = x at hx0
   have hr := hC.row
   have hxs : ((l.flatMap ChgA.cells).drop (i * 7)).take 7 = [.int .i64 x.c.no,.int .i64 x.c.nd.st.kind,.int .i64 x.c.nd.st.mode,.int .i64 x.c.nd.st.owner,.int .i64 x.c.nd.st.group,.slice x.a x.c.nd.data.length x.k,.bool x.c.drop] := Zjc hx0
   obtain ⟨xb,xo,hxa⟩ := (hr.rd hS).base (by intro e; rw [e] at hxs; simp at hxs)
   rw [hxa] at hr ⊢
   have hgx := hget hx0
   have hbad : (¬ (0 ≤ x.c.no ∧ x.c.no < n)) → Zfk cl n = 1 := fun h => by
    unfold Zfk
    rw [if_pos]
    refine List.any_eq_true.2 ⟨x.c,List.mem_of_getElem? hgx,?_⟩
    simp; omega
   have htk : cl.take (i + 1) = cl.take i ++ [x.c] := by rw [List.take_add_one,hgx]; rfl
   by_cases h0 : x.c.no < 0
   ·rw [hbad (by omega)]
    repeat (first|refine Yeg ?_|(refine X_id ?_;first|refine Ya1 ?_|refine Yba ?_|refine Ybr ?_|refine Yao (fun _ hS _ => ?_)|refine Yar (fun _ _ hS _ => ?_))|refine Yek ?_|refine Yab ?_)
    refine Zan (.s 0 (.s 1 (.s 2 (.s 3 (.s 4 (.s 5 (.s 6 (.s 7 (.s 8 (.s 9 (.s 10 (.s 11 .nil)))))))))))) mixed (by kernel_rfl) rfl ?_
    have hS := hS.drew
    have hc := hTo
    repeat (first|refine Yeg ?_|refine Yag ?_|refine Yey ?_|refine Ye2 ?_|(refine Zae ?_;first|refine Yaw ?_|refine Ya0 ?_|refine Ybg ?_|refine Yct ?_|refine Zak rfl rfl (fun _ => Zkh rfl rfl rfl (by omega)) rfl rfl ?_|refine Ybm ?_|refine Ycr ?_))
    exact ⟨rfl,hS.drops⟩
   ·by_cases h1 : (n : Int) ≤ x.c.no
    ·rw [hbad (by omega)]
     repeat (first|refine Yeg ?_|(refine X_id ?_;first|refine Ya1 ?_|refine Yba ?_|refine Ybr ?_|refine Yao (fun _ hS _ => ?_)|refine Yar (fun _ _ hS _ => ?_))|refine Yek ?_|refine Yab ?_)
     refine Zan (.s 0 (.s 1 (.s 2 (.s 3 (.s 4 (.s 5 (.s 6 (.s 7 (.s 8 (.s 9 (.s 10 (.s 11 .nil)))))))))))) mixed (by kernel_rfl) rfl ?_
     have hS := hS.drew
     have hc := hTo
     repeat (first|refine Yeg ?_|refine Yag ?_|refine Yey ?_|refine Ye2 ?_|(refine Zae ?_;first|refine Yaw ?_|refine Ya0 ?_|refine Ybg ?_|refine Ycc ?_|refine Zak rfl rfl (fun _ => Zki rfl rfl rfl (by omega)) rfl rfl ?_|refine Ybm ?_|refine Yca ?_|refine Yc3 ?_|refine Ycx ?_|refine Zcg rfl rfl rfl rfl (fun _ => Zkj rfl rfl rfl (by omega)) rfl rfl ?_|refine Yda ?_|refine Yd9 ?_))
     exact ⟨rfl,hS.drops⟩
    ·repeat (first|refine Yeg ?_|(refine X_id ?_;first|refine Ya1 ?_|refine Yba ?_|refine Ybr ?_|refine Yao (fun _ hS _ => ?_)|refine Yar (fun _ _ hS _ => ?_))|refine Yek ?_|refine Yab ?_)
     refine Zan (.s 0 (.s 1 (.s 2 (.s 3 (.s 4 (.s 5 (.s 6 (.s 7 (.s 8 (.s 9 (.s 10 (.s 11 .nil)))))))))))) mixed (by kernel_rfl) rfl ?_
     have hS := hS.drew
     have hc := hTo
     repeat (first|refine Yeg ?_|refine Yel ?_|refine Ye8 ?_|refine Yeo ?_|(refine Zae ?_;first|refine Yaw ?_|refine Ya0 ?_|refine Ybg ?_|refine Ycc ?_|refine Zak rfl rfl (fun _ => Zki rfl rfl rfl (by omega)) rfl rfl ?_|refine Ybm ?_|refine Yca ?_|refine Yc3 ?_|refine Ycx ?_|refine Zcg rfl rfl rfl rfl (fun _ => Zo0 rfl rfl rfl (by omega)) rfl rfl ?_|refine Yda ?_|refine Yd9 ?_))
     refine Zaf (i + 1) ⟨rfl,rfl,rfl,rfl,rfl,trivial⟩ ⟨by omega,?_,hS.drops⟩ (by omega)
     rw [htk]
     intro y hy
     rcases List.mem_append.1 hy with hy | hy
     ·exact hall y hy
     ·rw [List.mem_singleton] at hy; rw [hy]; omega
  ·obtain rfl : i = l.length := by omega
   rw [List.take_of_length_le (by rw [hcl]; simp)] at hall
   repeat (first|refine Yeg ?_|refine Yaz ?_|refine Yet ?_|refine Yem ?_)
   exact Zbj () ⟨rfl,rfl,trivial⟩ ⟨hall,hS⟩
 clear hS
 rintro _ w ⟨hall,hS⟩
 have hany : ¬ (cl.any (fun c => decide (c.no < 0) || decide ((n : Int) ≤ c.no)) = true) := fun h => by
  obtain ⟨x,hx,hb⟩ := List.any_eq_true.1 h
  have := hall x hx
  simp at hb
  omega
 repeat (first|refine Yeg ?_|refine Yaf ?_|refine Yau ?_|refine Yej ?_|refine Yab ?_)
 have hcll : cl.length = l.length := by rw [hcl]; simp
 obtain ⟨tl,htl⟩ : ∃ tl : List (Int × List UInt8),tl = cl.map fun c => (c.no,[]) := ⟨_,rfl⟩
 have htll : tl.length = l.length := by rw [htl]; simp [hcll]
 have htwC : Zmi cl = Zbl tl l.length := by unfold Zmi; rw [← htl,hcll]
 have hmn : ∀ i,(tl.take i).map (·.1) = (l.take i).map (·.c.no) := fun i => by rw [htl,hcl]; simp [List.map_take,Function.comp_def]
 refine Zbk (α := Unit) (fun _ => [(0,.pointer (some ⟨tp,0,none⟩)),(1,.slice a l.length c)]) (fun _ w => Zmi cl = false ∧ St W noF [] w) ?_ ?_
 ·refine Zaj (α := Nat) (fun i => [(0,.pointer (some ⟨tp,0,none⟩)),(1,.slice a l.length c),(31,.slice a l.length c),(32,.int .i64 (l.length : Nat)),(33,.int .i64 (i : Nat))])
   (fun i w => i ≤ l.length ∧ Zbl tl i = false ∧ St W noF [] w) (fun i => l.length - i) 0 ⟨rfl,rfl,rfl,rfl,rfl,trivial⟩ ⟨Nat.zero_le _,rfl,hS⟩ ?_
  clear hS
  rintro i w ⟨hi,htw,hS⟩
  by_cases hlt : i < l.length
  ·have hx0 : l[i]? = some l[i] := List.getElem?_eq_getElem (by omega)
   generalize l[i] = x at hx0
   have hr := hC.row
   have hxs : ((l.flatMap ChgA.cells).drop (i * 7)).take 7 = [.int .i64 x.c.no,.int .i64 x.c.nd.st.kind,.int .i64 x.c.nd.st.mode,.int .i64 x.c.nd.st.owner,.int .i64 x.c.nd.st.group,.slice x.a x.c.nd.data.length x.k,.bool x.c.drop] := Zjc hx0
   have hgi : (tl.getD i (0,[])).1 = x.c.no := by rw [List.getD_eq_getElem?_getD,htl,List.getElem?_map,hget hx0]; rfl
   have hts : Zbl tl (i + 1) = (Zbl tl i || decide (x.c.no ∈ (l.take i).map (·.c.no))) := by rw [Zbl,hgi,hmn]
   obtain ⟨xb,xo,hxa⟩ := (hr.rd hS).base (by intro e; rw [e] at hxs; simp at hxs)
   rw [hxa] at hr ⊢
   by_cases hq : x.c.no ∈ (l.take i).map (·.c.no)
   ·have hcc := fun w b cs T h1 h2 h3 => Zio (some ⟨xb,xo,none⟩) i c b l cs x.c.no T h1 w h2 h3 (by omega) hl
    rw [decide_eq_true hq] at hcc hts
    have hone : Zfk cl n = 8 := by
     unfold Zfk
     rw [if_neg hany,if_pos]
     rw [htwC]
     cases hb : Zbl tl l.length
     ·exfalso
      have h1 := (Zeb tl l.length (by omega)).1 hb
      have h2 := (Zeb tl (i + 1) (by omega)).2 (h1.sublist ((List.take_sublist_take_left (by omega)).map _))
      rw [hts] at h2
      simp at h2
     ·rfl
    rw [hone]
    repeat (first|refine Yeg ?_|(refine X_id ?_;first|refine Yaf ?_|refine Yag ?_|refine Ya1 ?_|refine Yba ?_|refine Ybr ?_|refine Yao (fun _ hS _ => ?_)|refine Yar (fun _ _ hS _ => ?_))|refine Yek ?_|refine Yab ?_)
    refine X_yl (Zas (l := 0) (h := i) rfl rfl rfl rfl (.inr ⟨_,_,rfl,by omega,by omega,by omega⟩) (.inl ⟨rfl,rfl⟩)) rfl rfl ?_
    rw [sub_zero]
    repeat (first|refine Yaa ?_|refine Ycg ?_)
    rename_i b8 _ _ _ _ _
    refine Zad _ rfl rfl rfl rfl rfl hS (hcc _ b8 [.int .i64 x.c.no,.int .i64 x.c.nd.st.kind,.int .i64 x.c.nd.st.mode,.int .i64 x.c.nd.st.owner,.int .i64 x.c.nd.st.group,.slice x.a x.c.nd.data.length x.k,.bool x.c.drop] _ rfl (hr.rd hS) (hS.rd (List.mem_cons_self ..))) ?_
    rintro _ w rfl hS
    repeat (first|refine Yeg ?_|refine Yag ?_|refine Yey ?_|refine Ye2 ?_)
    exact ⟨rfl,hS.drops⟩
   ·have hcc := fun w b cs T h1 h2 h3 => Zio (some ⟨xb,xo,none⟩) i c b l cs x.c.no T h1 w h2 h3 (by omega) hl
    rw [decide_eq_false hq] at hcc hts
    repeat (first|refine Yeg ?_|(refine X_id ?_;first|refine Yaf ?_|refine Yag ?_|refine Ya1 ?_|refine Yba ?_|refine Ybr ?_|refine Yao (fun _ hS _ => ?_)|refine Yar (fun _ _ hS _ => ?_))|refine Yek ?_|refine Yab ?_)
    refine X_yl (Zas (l := 0) (h := i) rfl rfl rfl rfl (.inr ⟨_,_,rfl,by omega,by omega,by omega⟩) (.inl ⟨rfl,rfl⟩)) rfl rfl ?_
    rw [sub_zero]
    repeat (first|refine Yaa ?_|refine Ycg ?_)
    rename_i b8 _ _ _ _ _
    refine Zad _ rfl rfl rfl rfl rfl hS (hcc _ b8 [.int .i64 x.c.no,.int .i64 x.c.nd.st.kind,.int .i64 x.c.nd.st.mode,.int .i64 x.c.nd.st.owner,.int .i64 x.c.nd.st.group,.slice x.a x.c.nd.data.length x.k,.bool x.c.drop] _ rfl (hr.rd hS) (hS.rd (List.mem_cons_self ..))) ?_
    rintro _ w rfl hS
    repeat (first|refine Yeg ?_|refine Yel ?_|refine Ye8 ?_|refine Yeo ?_)
    exact Zaf (i + 1) ⟨rfl,rfl,rfl,rfl,rfl,trivial⟩ ⟨by omega,by rw [hts,htw]; rfl,hS.drops⟩ (by omega)
  ·obtain rfl : i = l.length := by omega
   repeat (first|refine Yeg ?_|refine Yaz ?_|refine Yet ?_|refine Yem ?_)
   exact Zbj () ⟨rfl,rfl,trivial⟩ ⟨by rw [htwC]; exact htw,hS⟩
 clear hS
 rintro _ w ⟨htw,hS⟩
 have hcc : Zfk cl n = badC cl := by unfold Zfk; rw [if_neg hany,if_neg (by simp [htw])]
 rw [hcc]
 repeat (first|refine Yeg ?_|refine Yaf ?_|refine Yau ?_|refine Yej ?_|refine Yab ?_)
 refine Zaj (α := Nat) (fun i => [(0,.pointer (some ⟨tp,0,none⟩)),(1,.slice a l.length c),(44,.slice a l.length c),(45,.int .i64 (l.length : Nat)),(46,.int .i64 (i : Nat))])
  (fun i w => i ≤ l.length ∧ badC cl = badC (cl.drop i) ∧ St W noF [] w) (fun i => l.length - i) 0 ⟨rfl,rfl,rfl,rfl,rfl,trivial⟩ ⟨Nat.zero_le _,rfl,hS⟩ ?_
 clear hS
 rintro i w ⟨hi,hbe,hS⟩
 by_cases hlt : i < l.length
 ·have hx0 : l[i]? = some l[i] := List.getElem?_eq_getElem (by omega)
  generalize l[i] = x at hx0
  have hr := hC.row
  have hxs : ((l.flatMap ChgA.cells).drop (i * 7)).take 7 = [.int .i64 x.c.no,.int .i64 x.c.nd.st.kind,.int .i64 x.c.nd.st.mode,.int .i64 x.c.nd.st.owner,.int .i64 x.c.nd.st.group,.slice x.a x.c.nd.data.length x.k,.bool x.c.drop] := Zjc hx0
  have hdr : cl.drop i = x.c :: cl.drop (i + 1) := (List.drop_eq_getElem?_toList_append (l := cl) (i := i)).trans (by rw [hget hx0]; rfl)
  obtain ⟨xb,xo,hxa⟩ := (hr.rd hS).base (by intro e; rw [e] at hxs; simp at hxs)
  rw [hxa] at hr ⊢
  cases hdp : x.c.drop
  ·have hb2 : badC cl = if ¬ x.c.nd.st.check = 0 then x.c.nd.st.check else if 512 < x.c.nd.data.length then 2 else badC (cl.drop (i + 1)) := by rw [hbe,hdr,badC,if_neg (by simp [hdp])]
   rw [hdp] at hxs
   have hck := Zr5 x.c.nd.st
   by_cases hst : x.c.nd.st.check = 0
   ·rw [if_neg (by simp [hst])] at hb2
    rw [hst] at hck
    by_cases h5 : 512 < x.c.nd.data.length
    ·rw [hb2,if_pos h5]
     repeat (first|refine Yeg ?_|(refine X_id ?_;first|(refine Zad 155 rfl rfl rfl rfl rfl hS (hck _) ?_;rintro _ _ rfl hS)|refine Yaf ?_|refine Yag ?_|refine Yan ?_|refine Yb0 ?_|refine Yau ?_|refine Ybb ?_|refine Ya1 ?_|refine Ybz ?_|refine Yba ?_|refine Yap ?_|refine Ybf ?_|refine Ybr ?_|refine Yao (fun _ hS _ => ?_)|refine Yar (fun _ _ hS _ => ?_))|refine Yfn ?_|refine Ye2 ?_)
     exact ⟨rfl,hS.drops⟩
    ·rw [if_neg h5] at hb2
     repeat (first|refine Yeg ?_|(refine X_id ?_;first|(refine Zad 155 rfl rfl rfl rfl rfl hS (hck _) ?_;rintro _ _ rfl hS)|refine Yaf ?_|refine Yag ?_|refine Yan ?_|refine Yb0 ?_|refine Yau ?_|refine Ybb ?_|refine Ya1 ?_|refine Ybs ?_|refine Yba ?_|refine Yay ?_|refine Yap ?_|refine Ybf ?_|refine Ybr ?_|refine Yao (fun _ hS _ => ?_)|refine Yar (fun _ _ hS _ => ?_))|refine Yen ?_|refine Yeo ?_)
     exact Zaf (i + 1) ⟨rfl,rfl,rfl,rfl,rfl,trivial⟩ ⟨by omega,hb2,hS.drops⟩ (by omega)
   ·rw [if_pos hst] at hb2
    rw [hb2]
    repeat (first|refine Yeg ?_|(refine X_id ?_;first|(refine Zad 155 rfl rfl rfl rfl rfl hS (hck _) ?_;rintro _ _ rfl hS)|refine Yaf ?_|refine Yag ?_|refine Yan ?_|refine Yb0 ?_|refine Ybl ?_|refine Ya1 ?_|refine Yba ?_|refine Yap ?_|refine Ybf ?_|refine Ybr ?_|refine Yao (fun _ hS _ => ?_)|refine Yar (fun _ _ hS _ => ?_))|refine Yfn ?_|refine Ye2 ?_)
    exact ⟨rfl,hS.drops⟩
  ·have hb2 : badC cl = badC (cl.drop (i + 1)) := by rw [hbe,hdr,badC,if_pos hdp]
   rw [hdp] at hxs
   repeat (first|refine Yeg ?_|(refine X_id ?_;first|refine Yaf ?_|refine Yan ?_|refine Ya1 ?_|refine Yba ?_|refine Yay ?_|refine Yap ?_|refine Ybr ?_|refine Yao (fun _ hS _ => ?_)|refine Yar (fun _ _ hS _ => ?_))|refine Yae ?_|refine Yad ?_|refine Yaj ?_|refine Yal ?_|refine Ya4 ?_|refine Yak ?_|refine Yem ?_)
   exact Zaf (i + 1) ⟨rfl,rfl,rfl,rfl,rfl,trivial⟩ ⟨by omega,hb2,hS.drops⟩ (by omega)
 ·obtain rfl : i = l.length := by omega
  have hb2 : badC cl = 0 := by rw [hbe,List.drop_eq_nil_of_le (by omega)]; rfl
  rw [hb2]
  repeat (first|refine Yeg ?_|refine Yag ?_|refine Yaz ?_|refine Yep ?_|refine Yfc ?_)
  exact ⟨rfl,hS⟩
theorem Zrc {P : Program} {o : Oper} {σ : Env} {w : World} {x : Operand} {t xT k e : TypeId} {v : Value} (ho : o.op = .typeAssert x xT t false) (hx : ev σ x = some (.iface t v)) [h : Und P t (.map k e)] : Yl P o σ w v := ⟨fun N ds f ha => by
 have := run_typeAssert_map_sl (P := P) w t xT k e v h.und
 simp [execOp,ho,ha.eval hx,this]⟩
instance : EClone Tryz.prog 200 := ⟨fun {t r es clock w} hb => by
 rw [run_callFunc_extern Tryz.func200 (by kernel_rfl) (by kernel_rfl) (by kernel_rfl) (e := Extern.MapsClone.clone) (by kernel_rfl),run_maps_clone_sl w t hb]
 rfl⟩
theorem Z4o (r : Nat) (L : List (Int × Value)) (W : World) (h : Rd W (mapq (Value.int .i64) r L)) :
  Calls Tryz.prog 143 #[.map (some r)] W (Ret fun v w => ∃ r2,v = .map (some r2) ∧ St W noF [mapq (Value.int .i64) r2 L] w) := by
 obtain ⟨es,clock,hes,hst,hmp⟩ := h.openMap
 have hb := hmp.pts
 have hS := St.start W
 refine Zab Tryz.func143 rfl Tryz.ntmps143 rfl ?_
 repeat (first|refine Yeg ?_|refine Yev ?_|refine Yeh ?_|refine Yab ?_)
 refine X_yl (Zra rfl rfl rfl) rfl rfl ?_
 repeat (first|refine Yeg ?_|refine Yaf ?_|refine Yes ?_|refine Yab ?_)
 refine X_yl (Zq6 rfl rfl (fun w => by simp [Instr.makeInterface,run_underlying Tryz.underlying182])) rfl rfl ?_
 repeat (first|refine Yaa ?_)
 refine Zo2 rfl rfl rfl (EClone.run hb) rfl rfl ?_
 have hS := (hS.alloc (.map es clock)).head fun h hh => (⟨es,clock,hes,hst,hh⟩ : mapq (Value.int .i64) W.heap.size L h)
 repeat (first|refine Yaa ?_)
 refine X_yl (Zrc rfl rfl) rfl rfl ?_
 repeat (first|refine Yeg ?_|refine Yag ?_|refine Yah ?_|refine Yei ?_)
 exact ⟨_,rfl,hS⟩
abbrev putW (no : Int) (q : Nat) (s : List UInt8) : Wr := ⟨no,⟨some ⟨q,0,none⟩,64,Zdb s⟩⟩
theorem put_ (t10 : Nat) (aw : Option Addr) (cw : Nat) (ws : List Wr) (no : Int) (ba : Option Addr) (bc : Nat) (s : List UInt8) (W : World) (F : Nat → Prop) (hb : Ro W F (bytes ba s)) (hcw : ws.length ≤ cw) (hl : ws.length ≤ 1048576)
  (hS : St W F [pts t10 (.cells #[.slice aw ws.length cw] 258),own 181 2 aw cw (ws.flatMap Wr.cells)] W) :
  Calls Tryz.prog 145 #[.int .i64 no,.slice ba s.length bc,.pointer (some ⟨t10,0,none⟩)] W (Ret fun v w => v = .tuple #[] ∧ ∃ aw' cw' q,ws.length + 1 ≤ cw' ∧
   St W F [pts t10 (.cells #[.slice aw' (ws.length + 1) cw'] 258),own 181 2 aw' cw' ((ws ++ [putW no q s]).flatMap Wr.cells),bytes (some ⟨q,0,none⟩) (Zdb s)] w) := by
 refine Zab Tryz.func145 rfl Tryz.ntmps145 rfl ?_
 repeat (first|fail)
 refine Zan (.s 0 (.s 1 (.s 2 (.h 3 (.s 4 (.h 5 (.h 6 (.h 7 .nil .no) .no) .no)) .no)))) mixed (by kernel_rfl) rfl ?_
 have hS := hS.drew
 repeat (first|(refine Zae ?_;first|refine Ya0 ?_|refine Ybm ?_|refine Yas ?_))
 refine Zaa _ rfl rfl rfl rfl rfl (Zon ba bc s _ (hb.rd hS)) ?_
 rintro _ w ⟨q,rfl,hS'⟩
 replace hS := hS.plus hS'
 clear hS'
 repeat (first|refine Ybd (fun _ _ hS _ => ?_)|(refine Zae ?_;first|refine Yce ?_|refine Yas ?_)|(refine Zac ?_;first|refine Yax ?_))
 refine Zap (n := ws.length) (m := 1) rfl rfl rfl rfl rfl hS (by rw [Z53]) hcw ((hS.rd (List.mem_cons_self ..)).own_row) (by simp) (by simp [Value.oneCell']) (by omega) (by simp only [maxLen]; omega) (fun a' c' w hS hc' _ => ?_)
 repeat (first|refine Yao (fun _ hS _ => ?_)|refine Ybt ?_|(refine Zae ?_;first|refine Yaw ?_|refine Yas ?_)|(refine Zac ?_;first|refine Yax ?_))
 refine ⟨rfl,a',c',q,hc',?_⟩
 rw [List.flatMap_append]
 have h := hS.took (out := [pts t10 (.cells #[.slice a' (ws.length + 1) c'] 258),own 181 2 a' c' (ws.flatMap Wr.cells ++ [.int .i64 no,.slice (some ⟨q,0,none⟩) 64 64]),bytes (some ⟨q,0,none⟩) (Zdb s)])
 have e : (List.flatMap Wr.cells [putW no q s]) = [.int .i64 no,.slice (some ⟨q,0,none⟩) 64 64] := by simp [Wr.cells,Zbx]
 rw [e]
 exact h
def Zjb (A : AV) (l : List Chg) : AV := l.foldl (fun A c => delA c.no A) A
theorem Zv9 {A : AV} {l : List Chg} {i : Nat} {c : Chg} (h : l[i]? = some c) : Zjb A (l.take (i + 1)) = delA c.no (Zjb A (l.take i)) := by
 unfold Zjb
 rw [List.take_add_one,h]
 simp
theorem Zni : ∀ (l : List Chg) (A : AV),AV.ents (Zjb A l) = Zey A.ents l
 | [],_ => rfl
 | c :: l,A => by
  have ih := Zni l (delA c.no A)
  have e : Zjb A (c :: l) = Zjb (delA c.no A) l := rfl
  have e2 : Zey A.ents (c :: l) = Zey (delA c.no A.ents) l := rfl
  rw [e,e2,ih]
  congr 1
  exact (Zug SV.s).symm
theorem Zqs : ∀ (l : List Chg) (A : AV),(Zjb A l).Sublist A
 | [],_ => List.Sublist.refl _
 | c :: l,A => (Zqs l (delA c.no A)).trans delA_sub
theorem Ztb (n : Nat) : ∀ (l : List Chg) (z : ApS) (c : Chg),z.run n (l ++ [c]) = (z.run n l).bind fun z => z.step n c
 | [],z,c => by simp [ApS.run]
 | x :: l,z,c => by
  simp only [List.cons_append,ApS.run]
  cases z.step n x with
  | none => rfl
  | some z2 => exact Ztb n l z2 c
theorem Ztc (n : Nat) : ∀ (l m : List Chg) (z : ApS),z.run n l = none → z.run n (l ++ m) = none
 | [],_,_,h => by cases h
 | x :: l,m,z,h => by
  simp only [List.cons_append,ApS.run] at h ⊢
  cases hs : z.step n x with
  | none => rfl
  | some z2 =>
   rw [hs] at h
   exact Ztc n l m z2 h
structure ApZ where
 i : Nat
 A : AV
 fa : Option Addr
 fc : Nat
 fl : List Int
 aw : Option Addr
 cw : Nat
 ws : List Wr
 X : List RowD
structure ApI (A0 : AV) (n nb : Nat) (cl : List Chg) (z : ApZ) : Prop where
 hi : z.i ≤ cl.length
 run : (ApS.start A0.ents nb cl).run n (cl.take z.i) = some ⟨z.A.ents,z.fl,z.ws.map Wr.data⟩
 fX : (z.fa,ints .i64 z.fl) ∈ z.X
 fcap : z.fl.length ≤ z.fc
 wcap : z.ws.length ≤ z.cw
 wX : ∀ v ∈ z.ws,(v.x.a,bv v.x.s) ∈ z.X
 aX : ∀ x ∈ z.A,x ∈ A0 ∨ ((x.2.da,bv x.2.s.nd.data) ∈ z.X ∧ (x.2.ba,ints .i64 x.2.s.blocks) ∈ z.X)
 wl : z.ws.length ≤ 9 * z.i
 flow : ∀ b ∈ z.fl,0 ≤ b ∧ b < nb
theorem Zzd {P : Program} {o : Oper} {σ : Env} {w : World} {x y : Operand} {ts : Array TypeId} {a b : Int} (ho : o.op = .call { callee := .builtin .min,args := #[x,y],argTypes := ts }) (hx : ev σ x = some (.int .i64 a)) (hy : ev σ y = some (.int .i64 b)) : Yl P o σ w (.int .i64 (min a b)) := ⟨fun N ds f ha => by
 simp [execOp,ho,resolve,invoke,builtin,ha.eval hx,ha.eval hy,Builtin.min_,Builtin.min2]
 split <;> omega⟩
theorem Z39 (t10 : Nat) (aw : Option Addr) (cw : Nat) (ws : List Wr) (no : Int) (ba : Option Addr) (bn bc : Nat) (s : List UInt8) (W : World) (F : Nat → Prop) (hb : Ro W F (bytes ba s)) (hn : s.length = bn) (hcw : ws.length ≤ cw) (hl : ws.length ≤ 1048576)
  (hS : St W F [pts t10 (.cells #[.slice aw ws.length cw] 258),own 181 2 aw cw (ws.flatMap Wr.cells)] W) :
  Calls Tryz.prog 145 #[.int .i64 no,.slice ba bn bc,.pointer (some ⟨t10,0,none⟩)] W (Ret fun v w => v = .tuple #[] ∧ ∃ aw' cw' q,ws.length + 1 ≤ cw' ∧
   St W F [pts t10 (.cells #[.slice aw' (ws.length + 1) cw'] 258),own 181 2 aw' cw' ((ws ++ [putW no q s]).flatMap Wr.cells),bytes (some ⟨q,0,none⟩) (Zdb s)] w) := by
 subst hn
 exact put_ t10 aw cw ws no ba bc s W F hb hcw hl hS
theorem Zos (d : List UInt8) (i h : Nat) (hh : h = min (64 * (i + 1)) d.length) : Zdb ((d.drop (64 * i)).take (h - 64 * i)) = Zg8 d i := by
 unfold Zg8
 congr 1
 subst hh
 by_cases h1 : 64 * (i + 1) ≤ d.length
 ·rw [Nat.min_eq_left h1,show 64 * (i + 1) - 64 * i = 64 by omega]
 ·rw [Nat.min_eq_right (by omega),List.take_of_length_le (by rw [List.length_drop]; exact Nat.le_refl _),List.take_of_length_le (by rw [List.length_drop]; omega)]
theorem Zsk {n : Nat} {bs : List Int} {d : List UInt8} {i : Nat} {b : Int} (h : bs[i]? = some b) : (Zcp n bs d).take (i + 1) = (Zcp n bs d).take i ++ [(1 + (n : Int) + b,Zg8 d i)] := by
 have hi := (List.getElem?_eq_some_iff.1 h).1
 rw [List.take_add_one]
 congr 1
 unfold Zcp
 rw [List.getElem?_map,List.getElem?_range hi]
 simp [List.getD_eq_getElem?_getD,h]
theorem Z0q {a : Option Addr} {cs : List Value} (k : Nat) : ∀ h,row a cs h → ∃ h',row a (cs.take k) h' ∧ ∀ b o,h' b = some o → h b = some o := fun h hh => by
 have := Zn8 (a := a) (cs := cs) (cs' := cs.take k) (l := 0) (e := 1) (c := 1) (fun j v hv => by
  rw [List.getElem?_take] at hv
  split at hv
  ·simpa using hv
  ·cases hv) (by omega) h hh
 rwa [sub_zero] at this
theorem Z0r {a : Option Addr} {cs : List Value} {k c : Nat} (hc : cs.length ≤ c) (hk : k ≤ cs.length) : ∀ h,row a cs h → ∃ h',row (sub a k 1 c) (cs.drop k) h' ∧ ∀ b o,h' b = some o → h b = some o :=
 Zn8 (fun j v hv => by rw [List.getElem?_drop] at hv; rw [Nat.mul_one]; exact hv) (fun e => List.drop_eq_nil_of_le (by omega))
theorem Ztp {β : Type} {k : Int} {v : β} {y : Int × β} : ∀ {A : List (Int × β)},y ∈ setA k v A → y = (k,v) ∨ y ∈ A
 | [],h => by simp [setA] at h; exact .inl h
 | x :: A,h => by
  unfold setA at h
  split at h
  ·rcases List.mem_cons.1 h with h | h
   ·exact .inl h
   ·exact .inr (List.mem_cons_of_mem _ h)
  ·rcases List.mem_cons.1 h with h | h
   ·exact .inr (h ▸ List.mem_cons_self ..)
   ·exact (Ztp h).imp id (List.mem_cons_of_mem _)
theorem Zol {s : List UInt8} (h : s.length = 64) : Zdb s = s := by rw [Z1u (by omega),h]; simp
structure BlI (n : Nat) (bs : List Int) (d : List UInt8) (ws : List Wr) (X : List RowD) (i cw' : Nat) (ws' : List Wr) (X' : List RowD) : Prop where
 data : ws'.map Wr.data = ws.map Wr.data ++ (Zcp n bs d).take i
 cap : ws'.length ≤ cw'
 wX : ∀ v ∈ ws',(v.x.a,bv v.x.s) ∈ X'
 sub : ∀ r ∈ X,r ∈ X'
theorem BlI.len {n : Nat} {bs : List Int} {d : List UInt8} {ws : List Wr} {X : List RowD} {i cw' : Nat} {ws' : List Wr} {X' : List RowD} (h : BlI n bs d ws X i cw' ws' X') (hi : i ≤ bs.length) : ws'.length = ws.length + i := by
 have := congrArg List.length h.data
 simp only [List.length_map,List.length_append,List.length_take,Zcp,List.length_range] at this
 omega
section
variable {rd fs : List Int} {tp lp p j m n nb : Nat} {T : Tb}
theorem Z36 {dat : List (List UInt8)} : ∀ h,qlog lp p j m dat h → qlog lp p j (m + 1) dat h := fun h ⟨D,done,hq,hs⟩ => ⟨D,done,⟨hq.q,hq.line,hq.d0,by have := hq.dm; omega,hq.jl,hq.at_⟩,hs⟩
theorem Zsa : ∀ h,itab rd fs tp lp p j m n nb T h → itab rd fs tp lp p j (m + 1) n nb T h := fun _ ⟨r,A,dat,hok,hs⟩ =>
 ⟨r,A,dat,hok,Sep.mono_tail (fun _ h => Sep.mono_tail (fun _ h => Sep.mono_tail (fun _ h => Sep.mono_head Z36 h) h) h) hs⟩
theorem Z9h (a : Option Addr) (c : Nat) (l : List ChgA) (W : World) (F : Nat → Prop) (hG : Gl W F rd fs) (hC : Chgs W F a l) (hl : l.length ≤ 1000) (hlc : l.length ≤ c) (hm : (m : Int) < last) (hS : St W F [itab rd fs tp lp p j m n nb T] W) :
  Calls Tryz.prog 87 #[.pointer (some ⟨tp,0,none⟩),.slice a l.length c] W (Ret fun v w => v = .int .i64 (Zjw T nb (j / 2) (l.map ChgA.c)).1 ∧ St W F [itab rd fs tp lp p j (m + 1) n nb (Zjw T nb (j / 2) (l.map ChgA.c)).2] w) := by
 obtain ⟨r,A,dat,hok,hS⟩ := hS.openItab
 have hE := hok.enc
 have htl := hok.tlen
 have hn4 := hok.n4
 obtain ⟨cl,hcl⟩ : ∃ cl,cl = l.map ChgA.c := ⟨_,rfl⟩
 have hcll : cl.length = l.length := by rw [hcl]; simp
 have hget : ∀ {i : Nat} {x : ChgA},l[i]? = some x → cl[i]? = some x.c := fun {i x} h => by rw [hcl]; simp [h]
 rw [← hcl]
 obtain ⟨F2,hS2,hro,hw,hbk⟩ := hS.call []
 clear hS
 have hS := hS2
 clear hS2
 have hTo := hro (Ziz tp lp n r) (by simp)
 have hmo := hro (mapq (Value.int .i64) r A.vals) (by simp)
 have hbo := hro (bag A.rows) (by simp)
 have hqo := hro (qlog lp p j m dat) (by simp)
 have hC2 := hC.mono hw
 have hG2 := hG.mono hw
 have hql := (qlen (hqo.rd hS)).1
 have hdl := hE.len
 have hc := hTo
 have hC0 : ∀ w rs,St W F2 rs w → Chgs w noF a l := fun w rs h => ⟨(hC2.row.rd h).ro,fun x hx => ((hC2.all x hx).rd h).ro⟩
 have hck := fun w rs (h : St W F2 rs w) => Z5b tp lp n r a c l w (hTo.rd h) (hC0 w rs h) (by omega) hlc (by omega)
 rw [← hcl] at hck
 by_cases h0 : Zfk cl n = 0
 ·have hR := Z0w h0
  have hap : Zjw T nb (j / 2) cl = putT T nb (j / 2) cl := by unfold Zjw; rw [htl,if_neg (by simp [h0])]
  rw [hap]
  rw [h0] at hck
  have hlaw := Zy9 hE hR
  rw [hok.tab] at hlaw
  refine Zab Tryz.func87 rfl Tryz.ntmps87 rfl ?_
  repeat (first|refine Yeg ?_|refine Yaf ?_|refine Yag ?_|refine Ybu ?_|refine Yes ?_|refine Yab ?_)
  refine Zad _ rfl rfl rfl rfl rfl hS (hck _ _ hS) ?_
  rintro _ w rfl hS
  repeat (first|refine Yeg ?_|(refine X_id ?_;first|refine Yaf ?_|refine Yag ?_|refine Yav ?_|refine Yan ?_|refine Ybb ?_|refine Ycd ?_)|refine Yes ?_|refine Yab ?_)
  refine Zaa _ rfl rfl rfl rfl rfl (Z4o r A.vals _ (hmo.rd hS)) ?_
  rintro _ w ⟨r2,rfl,hS'⟩
  replace hS := hS.plus hS'
  clear hS'
  repeat (first|refine Yeg ?_|refine Yfh ?_|refine Yej ?_|refine Yab ?_)
  refine Zbk (α := Unit) (fun _ => [(0,.pointer (some ⟨tp,0,none⟩)),(1,.slice a l.length c),(6,.map (some r2))]) (fun _ w => St W F2 [mapq (Value.int .i64) r2 (AV.vals (Zjb A cl))] w) ?_ ?_
  ·refine Zaj (α := Nat) (fun i => [(0,.pointer (some ⟨tp,0,none⟩)),(1,.slice a l.length c),(6,.map (some r2)),(32,.slice a l.length c),(33,.int .i64 (l.length : Nat)),(34,.int .i64 (i : Nat))])
    (fun i w => i ≤ l.length ∧ St W F2 [mapq (Value.int .i64) r2 (AV.vals (Zjb A (cl.take i)))] w) (fun i => l.length - i) 0 ⟨rfl,rfl,rfl,rfl,rfl,rfl,trivial⟩ ⟨Nat.zero_le _,hS⟩ ?_
   clear hS
   rintro i w ⟨hi,hS⟩
   by_cases hlt : i < l.length
   ·have hx0 : l[i]? = some l[i] := List.getElem?_eq_getElem (by omega)
    generalize l[i] = x at hx0
    have hr := hC2.row
    have hxs : ((l.flatMap ChgA.cells).drop (i * 7)).take 7 = [.int .i64 x.c.no,.int .i64 x.c.nd.st.kind,.int .i64 x.c.nd.st.mode,.int .i64 x.c.nd.st.owner,.int .i64 x.c.nd.st.group,.slice x.a x.c.nd.data.length x.k,.bool x.c.drop] := Zjc hx0
    obtain ⟨xb,xo,hxa⟩ := (hr.rd hS).base (by intro e; rw [e] at hxs; simp at hxs)
    rw [hxa] at hr ⊢
    repeat (first|refine Yeg ?_|(refine X_id ?_;first|refine Yaf ?_|refine Yan ?_|refine Ya1 ?_|refine Yba ?_|refine Yap ?_|refine Ybr ?_|refine Yao (fun _ hS _ => ?_)|refine Yar (fun _ _ hS _ => ?_))|refine Yek ?_|refine Yab ?_)
    have hS := hS.pick [1,0]
    refine Zgo (mk := Value.int .i64) (k := x.c.no) rfl rfl rfl rfl hS (fun w hS => ?_)
    repeat (first|refine Yeg ?_|refine Yel ?_|refine Yad ?_|refine Yeo ?_)
    refine Zaf (i + 1) ⟨rfl,rfl,rfl,rfl,rfl,rfl,trivial⟩ ⟨by omega,?_⟩ (by omega)
    rw [Zv9 (hget hx0),← Z20]
    exact hS.pick [0]
   ·obtain rfl : i = l.length := by omega
    rw [List.take_of_length_le (by omega)] at hS
    repeat (first|refine Yeg ?_|refine Yaz ?_|refine Yet ?_|refine Yem ?_)
    exact Zbj () ⟨rfl,rfl,rfl,trivial⟩ hS
  clear hS
  rintro _ w hS
  have hsub := Zqs cl A
  have hents := Zni cl A
  repeat (first|refine Yaa ?_|refine Yaf ?_|refine Yeh ?_)
  refine Zaa _ rfl rfl rfl rfl rfl (Qbh tp lp n r r2 p j m nb (Zjb A cl) dat _ (hTo.rd hS) (hqo.rd hS) hE.len (hS.rd (List.mem_cons_self ..)) (fun x hx => (hbo.rd hS).bag (AV.row_b (hsub.mem hx))) (fun x hx => by
   have h1 := (hE.ok _ (AV.mem_ents (hsub.mem hx))).cnt
   have h2 := Zxw (hE.ok _ (AV.mem_ents (hsub.mem hx))).len
   simp only at h1 h2
   omega) ((by rw [← Zp9]; exact hE.nodup : (Zaw A).Nodup).sublist (hsub.map _))) ?_
  rintro _ w ⟨fa,fc,rfl,hfc,hS'⟩
  replace hS := (hS.plus hS').toBag Zgv
  clear hS'
  repeat (first|refine Yeg ?_|(refine X_id ?_;first|refine Yaf ?_|refine Yag ?_|refine Yau ?_|refine Ycg ?_|refine Yar (fun _ _ hS _ => ?_))|refine Yej ?_|refine Yab ?_)
  rename_i t10 _ _
  have hS := hS.own_none 181 2 none
  have hS := hS.pick [1,0,0,0]
  obtain ⟨z0,hz0⟩ : ∃ z0 : ApZ,z0 = ⟨0,Zjb A cl,fa,fc,Zhj (AV.ents (Zjb A cl)) nb,none,0,[],[(fa,ints .i64 (Zhj (AV.ents (Zjb A cl)) nb))]⟩ := ⟨_,rfl⟩
  have hI0 : ApI A n nb cl z0 := by
   subst hz0
   refine ⟨Nat.zero_le _,?_,List.mem_singleton.2 rfl,hfc,Nat.le_refl _,fun v hv => (by cases hv),fun x hx => .inl (hsub.mem hx),Nat.le_refl _,fun b hb => (freeL_mem.1 hb).1⟩
   simp only [List.take_zero,ApS.run,ApS.start,hents]
   rfl
  have hbound : ∀ z,ApI A n nb cl z → z.ws.length ≤ 9000 := fun z hz => by have h1 := hz.wl; have h2 := hz.hi; omega
  refine Zbk (α := ApZ) (fun z => [(0,.pointer (some ⟨tp,0,none⟩)),(6,.map (some r2)),(10,.pointer (some ⟨t10,0,none⟩))]) (fun z w => (z.i = cl.length ∧ ApI A n nb cl z) ∧ St W F2 [pts t10 (.cells #[.slice z.aw z.ws.length z.cw] 258),own 181 2 z.aw z.cw (z.ws.flatMap Wr.cells),bag z.X,mapq (Value.int .i64) r2 (AV.vals z.A)] w) ?_ ?_
  ·refine Zaj (α := ApZ) (fun z => [(0,.pointer (some ⟨tp,0,none⟩)),(6,.map (some r2)),(9,.slice z.fa z.fl.length z.fc),(10,.pointer (some ⟨t10,0,none⟩)),(11,.func (.func 145) #[] #[.pointer (some ⟨t10,0,none⟩)]),(46,.slice a l.length c),(47,.int .i64 (l.length : Nat)),(48,.int .i64 (z.i : Nat))])
    (fun z w => ApI A n nb cl z ∧ St W F2 [pts t10 (.cells #[.slice z.aw z.ws.length z.cw] 258),own 181 2 z.aw z.cw (z.ws.flatMap Wr.cells),bag z.X,mapq (Value.int .i64) r2 (AV.vals z.A)] w) (fun z => l.length - z.i) z0 (by subst hz0; exact ⟨rfl,rfl,rfl,rfl,rfl,rfl,rfl,rfl,trivial⟩) (by subst hz0; exact ⟨hI0,hS⟩) ?_
   clear hS hI0 hz0
   rintro ⟨i,Az,fa,fc,fl,aw,cw,ws,X⟩ w ⟨hI,hS⟩
   have hwl := hbound _ hI
   have hii := hI.hi
   have hfcap := hI.fcap
   have hwcap := hI.wcap
   simp only at hS hwl hii hfcap hwcap ⊢
   by_cases hlt : i < l.length
   ·have hx0 : l[i]? = some l[i] := List.getElem?_eq_getElem (by omega)
    generalize l[i] = x at hx0
    have hgx := hget hx0
    have hr := hC2.row
    have hxs : ((l.flatMap ChgA.cells).drop (i * 7)).take 7 = [.int .i64 x.c.no,.int .i64 x.c.nd.st.kind,.int .i64 x.c.nd.st.mode,.int .i64 x.c.nd.st.owner,.int .i64 x.c.nd.st.group,.slice x.a x.c.nd.data.length x.k,.bool x.c.drop] := Zjc hx0
    have hlow := hR.low _ (List.mem_of_getElem? hgx)
    have hrun : (ApS.start A.ents nb cl).run n (cl.take (i + 1)) = ApS.step n ⟨AV.ents Az,fl,ws.map Wr.data⟩ x.c := by
     rw [List.take_add_one,hgx]
     show (ApS.start A.ents nb cl).run n (cl.take i ++ [x.c]) = _
     rw [Ztb,hI.run]
     rfl
    obtain ⟨xb,xo,hxa⟩ := (hr.rd hS).base (by intro e; rw [e] at hxs; simp at hxs)
    rw [hxa] at hr ⊢
    cases hdp : x.c.drop
    ·rw [hdp] at hxs
     have hokc := hR.ok _ (List.mem_of_getElem? hgx) hdp
     have hb8 := Zxw hokc.2
     have hokl := hokc.2
     have hdata := hC2.all x (List.mem_of_getElem? hx0)
     by_cases hk : fl.length < nblk x.c.nd.data.length
     ·have hnone : ApS.step n ⟨AV.ents Az,fl,ws.map Wr.data⟩ x.c = none := by unfold ApS.step; rw [if_neg (by simp [hdp]),if_pos hk]
      have hall : (ApS.start A.ents nb cl).run n cl = none := by
       have := Ztc n (cl.take (i + 1)) (cl.drop (i + 1)) _ (hrun.trans hnone)
       rwa [List.take_append_drop] at this
      have hbad : (runT T nb cl).2.2 = true := by
       rcases hlaw with ⟨_,h⟩ | ⟨z,h1,_⟩
       ·exact h
       ·rw [hall] at h1; cases h1
      have hp : putT T nb (j / 2) cl = (6,T) := by unfold putT; rw [if_pos hbad]
      rw [hp]
      repeat (first|refine Yeg ?_|(refine X_id ?_;first|(refine Zaa 146 rfl rfl rfl rfl rfl (Zt6 _ _ (by omega)) ?_;rintro _ _ ⟨rfl,rfl⟩)|refine Yaf ?_|refine Yag ?_|refine Yan ?_|refine Yb0 ?_|refine Yau ?_|refine Ya1 ?_|refine Ybz ?_|refine Yba ?_|refine Yap ?_|refine Ybr ?_|refine Yao (fun _ hS _ => ?_)|refine Yar (fun _ _ hS _ => ?_))|refine Yfn ?_|refine Ye2 ?_)
      exact ⟨rfl,((hbk hS.drops).shutItab hok).head Zsa⟩
     ·obtain ⟨bs,hbs⟩ : ∃ bs,bs = fl.take (nblk x.c.nd.data.length) := ⟨_,rfl⟩
      have hbsl : bs.length = nblk x.c.nd.data.length := by rw [hbs,List.length_take]; omega
      have hbfl : bs.length ≤ fl.length := by omega
      have hbst : bs = fl.take bs.length := by rw [hbsl]; exact hbs
      have hstep : ApS.step n ⟨AV.ents Az,fl,ws.map Wr.data⟩ x.c = some ⟨setA x.c.no ⟨x.c.nd,bs⟩ (AV.ents Az),fl.drop bs.length,ws.map Wr.data ++ (Zcp n bs x.c.nd.data ++ [(1 + x.c.no,stoB ⟨x.c.nd,bs⟩)])⟩ := by
       unfold ApS.step
       rw [if_neg (by simp [hdp]),if_neg hk,← hbs,← hbsl]
      have hib : ∀ w,Calls Tryz.prog 146 #[.int .i64 (x.c.nd.data.length : Nat)] w (Ret fun v w' => v = .int .i64 (bs.length : Nat) ∧ w = w') := fun w => by rw [hbsl]; exact Zt6 _ _ (by omega)
      repeat (first|refine Yeg ?_|(refine X_id ?_;first|(refine Zaa 146 rfl rfl rfl rfl rfl (hib _) ?_;rintro _ _ ⟨rfl,rfl⟩)|refine Yaf ?_|refine Yag ?_|refine Yan ?_|refine Yb0 ?_|refine Yau ?_|refine Ya1 ?_|refine Ybs ?_|refine Yba ?_|refine Yap ?_|refine Ybr ?_|refine Yao (fun _ hS _ => ?_)|refine Yar (fun _ _ hS _ => ?_))|refine Yen ?_|refine Yab ?_)
      rename_i t13 _ _ _ _ _
      refine Znq (α := Nat × Option Addr × Nat) (fun y => [(0,.pointer (some ⟨tp,0,none⟩)),(6,.map (some r2)),(9,.slice fa fl.length fc),(10,.pointer (some ⟨t10,0,none⟩)),(11,.func (.func 145) #[] #[.pointer (some ⟨t10,0,none⟩)]),(13,.pointer (some ⟨t13,0,none⟩)),(14,.int .i64 (bs.length : Nat)),(15,.pointer (some ⟨y.1,0,none⟩)),(46,.slice (some ⟨xb,xo,none⟩) l.length c),(47,.int .i64 (l.length : Nat)),(48,.int .i64 (i : Nat))])
       (fun y w => x.c.nd.data.length ≤ y.2.2 ∧ St W F2 [pts y.1 (.cells (stoV ⟨x.c.nd,bs⟩ y.2.1 y.2.2 fa bs.length).toArray 272),own 5 1 y.2.1 y.2.2 (bv x.c.nd.data),pts t13 (.cells (List.toArray [.int .i64 x.c.no,.int .i64 x.c.nd.st.kind,.int .i64 x.c.nd.st.mode,.int .i64 x.c.nd.st.owner,.int .i64 x.c.nd.st.group,.slice x.a x.c.nd.data.length x.k,.bool false]) 189),
        pts t10 (.cells #[.slice aw ws.length cw] 258),own 181 2 aw cw (ws.flatMap Wr.cells),bag X,mapq (Value.int .i64) r2 (AV.vals Az)] w) ?_ ?_
      ·skip
       refine Zan (.s 0 (.s 1 (.s 2 (.s 3 (.s 4 (.s 5 (.s 8 (.s 9 (.s 10 (.s 11 (.h 6 (.s 7 (.s 12 (.h 13 (.h 14 .nil .no) .no))) (.h 13 (.h 6 (.s 7 (.s 12 (.h 14 .nil .no))) .no) .no)))))))))))) mixed (by kernel_rfl) rfl ?_
       have hS := hS.drew
       repeat (first|(refine Zae ?_;first|refine Ya0 ?_|refine Ybg ?_|refine Ydi ?_|refine Ybm ?_|refine Ybx ?_))
       refine Zak rfl rfl (fun _ => Zl1 (l := 0) (h := bs.length) (k := bs.length) rfl rfl rfl rfl rfl ⟨_,_,rfl,by omega,by omega,by omega⟩ ⟨_,_,rfl,by omega,by omega,by omega⟩ (.inl ⟨rfl,rfl⟩)) rfl rfl ?_
       rw [sub_zero,Nat.sub_zero]
       refine Zer ?_ ?_
       ·repeat (first|(refine Zae ?_;first|refine Yas ?_))
        refine Zaa _ rfl rfl rfl rfl rfl (Ze9 x.a x.c.nd.data.length x.k x.c.nd.data _ (hdata.rd hS) rfl (by omega)) ?_
        rintro _ w ⟨da,dc,rfl,_,hdc,hS'⟩
        replace hS := hS.plus hS'
        clear hS'
        repeat (first|refine Yao (fun _ hS _ => ?_)|refine Yar (fun _ _ hS _ => ?_)|(refine Zae ?_;first|refine Yaw ?_|refine Yce ?_|refine Yas ?_)|(refine Zac ?_;first|refine Yax ?_))
        rename_i t15 _ _ _ _ _
        exact Zbj (t15,da,dc) ⟨rfl,rfl,rfl,rfl,rfl,rfl,rfl,rfl,rfl,rfl,rfl,trivial⟩ ⟨hdc,hS.took⟩
       ·repeat (first|refine Yar (fun _ _ hS _ => ?_)|(refine Zae ?_;first|refine Yas ?_)|(refine Zac ?_;first|refine Yax ?_))
        refine Zaa _ rfl rfl rfl rfl rfl (Ze9 x.a x.c.nd.data.length x.k x.c.nd.data _ (hdata.rd hS) rfl (by omega)) ?_
        rintro _ w ⟨da,dc,rfl,_,hdc,hS'⟩
        replace hS := hS.plus hS'
        clear hS'
        repeat (first|refine Yao (fun _ hS _ => ?_)|(refine Zae ?_;first|refine Yaw ?_|refine Yce ?_|refine Yas ?_)|(refine Zac ?_;first|refine Yax ?_))
        rename_i t15 _ _ _ _ _ _
        exact Zbj (t15,da,dc) ⟨rfl,rfl,rfl,rfl,rfl,rfl,rfl,rfl,rfl,rfl,rfl,trivial⟩ ⟨hdc,hS.took⟩
      ·clear hS
       rintro ⟨t15,da,dc⟩ w ⟨hdc,hS⟩
       simp only at hdc hS ⊢
       have hS := (hS.pick [1,4,0,0,0,0,0]).bagAdd Zgv
       have hS := hS.bagPart (List.mem_cons_of_mem _ hI.fX) (Z0q bs.length)
       have hbi : (ints .i64 fl).take bs.length = ints .i64 bs := by rw [hbst]; simp [ints,List.map_take]
       simp only [hbi] at hS
       have hS := hS.bagPart (List.mem_cons_of_mem _ (List.mem_cons_of_mem _ hI.fX)) (Z0r (k := bs.length) (c := fc) (by simp only [ints_length]; exact hfcap) (by simp only [ints_length]; exact hbfl))
       have hfi : (ints .i64 fl).drop bs.length = ints .i64 (fl.drop bs.length) := by simp [ints,List.map_drop]
       simp only [hfi] at hS
       obtain ⟨X2,hX2⟩ : ∃ X2,X2 = (sub fa bs.length 1 fc,ints .i64 (fl.drop bs.length)) :: (fa,ints .i64 bs) :: (da,bv x.c.nd.data) :: X := ⟨_,rfl⟩
       rw [← hX2] at hS
       repeat (first|refine Yaa ?_|refine Yaf ?_|refine Yeh ?_)
       refine X_yl (Zas (l := bs.length) (h := fl.length) rfl rfl rfl rfl (.inl ⟨rfl,rfl⟩) (.inr ⟨_,_,rfl,by omega,by omega,by omega⟩)) rfl rfl ?_
       repeat (first|refine Yeg ?_|(refine X_id ?_;first|refine Yaf ?_|refine Yag ?_|refine Yan ?_|refine Yau ?_|refine Yap ?_)|refine Yej ?_|refine Yab ?_)
       have hsubX : ∀ y ∈ X,y ∈ X2 := fun y hy => by rw [hX2]; exact List.mem_cons_of_mem _ (List.mem_cons_of_mem _ (List.mem_cons_of_mem _ hy))
       have hX2a : (sub fa bs.length 1 fc,ints .i64 (fl.drop bs.length)) ∈ X2 := by rw [hX2]; exact List.mem_cons_self ..
       have hX2b : (fa,ints .i64 bs) ∈ X2 := by rw [hX2]; exact List.mem_cons_of_mem _ (List.mem_cons_self ..)
       have hX2c : (da,bv x.c.nd.data) ∈ X2 := by rw [hX2]; exact List.mem_cons_of_mem _ (List.mem_cons_of_mem _ (List.mem_cons_self ..))
       refine Zbk (α := Option Addr × Nat × List Wr × List RowD) (fun _ => [(0,.pointer (some ⟨tp,0,none⟩)),(6,.map (some r2)),(9,.slice (sub fa bs.length 1 fc) (fl.length - bs.length) (fc - bs.length)),(10,.pointer (some ⟨t10,0,none⟩)),(11,.func (.func 145) #[] #[.pointer (some ⟨t10,0,none⟩)]),(13,.pointer (some ⟨t13,0,none⟩)),(15,.pointer (some ⟨t15,0,none⟩)),(46,.slice (some ⟨xb,xo,none⟩) l.length c),(47,.int .i64 (l.length : Nat)),(48,.int .i64 (i : Nat))])
        (fun y w => BlI n bs x.c.nd.data ws X2 bs.length y.2.1 y.2.2.1 y.2.2.2 ∧ St W F2 [pts t10 (.cells #[.slice y.1 y.2.2.1.length y.2.1] 258),own 181 2 y.1 y.2.1 (y.2.2.1.flatMap Wr.cells),bag y.2.2.2,pts t15 (.cells (stoV ⟨x.c.nd,bs⟩ da dc fa bs.length).toArray 272),pts t13 (.cells (List.toArray [.int .i64 x.c.no,.int .i64 x.c.nd.st.kind,.int .i64 x.c.nd.st.mode,.int .i64 x.c.nd.st.owner,.int .i64 x.c.nd.st.group,.slice x.a x.c.nd.data.length x.k,.bool false]) 189),mapq (Value.int .i64) r2 (AV.vals Az)] w) ?_ ?_
       ·refine Zaj (α := Nat × Option Addr × Nat × List Wr × List RowD) (fun y => [(0,.pointer (some ⟨tp,0,none⟩)),(6,.map (some r2)),(9,.slice (sub fa bs.length 1 fc) (fl.length - bs.length) (fc - bs.length)),(10,.pointer (some ⟨t10,0,none⟩)),(11,.func (.func 145) #[] #[.pointer (some ⟨t10,0,none⟩)]),(13,.pointer (some ⟨t13,0,none⟩)),(15,.pointer (some ⟨t15,0,none⟩)),(46,.slice (some ⟨xb,xo,none⟩) l.length c),(47,.int .i64 (l.length : Nat)),(48,.int .i64 (i : Nat)),(85,.slice fa bs.length bs.length),(86,.int .i64 (bs.length : Nat)),(87,.int .i64 (y.1 : Nat))])
         (fun y w => y.1 ≤ bs.length ∧ BlI n bs x.c.nd.data ws X2 y.1 y.2.2.1 y.2.2.2.1 y.2.2.2.2 ∧ St W F2 [pts t10 (.cells #[.slice y.2.1 y.2.2.2.1.length y.2.2.1] 258),own 181 2 y.2.1 y.2.2.1 (y.2.2.2.1.flatMap Wr.cells),bag y.2.2.2.2,pts t15 (.cells (stoV ⟨x.c.nd,bs⟩ da dc fa bs.length).toArray 272),pts t13 (.cells (List.toArray [.int .i64 x.c.no,.int .i64 x.c.nd.st.kind,.int .i64 x.c.nd.st.mode,.int .i64 x.c.nd.st.owner,.int .i64 x.c.nd.st.group,.slice x.a x.c.nd.data.length x.k,.bool false]) 189),mapq (Value.int .i64) r2 (AV.vals Az)] w)
         (fun y => bs.length - y.1) (0,aw,cw,ws,X2) ⟨rfl,rfl,rfl,rfl,rfl,rfl,rfl,rfl,rfl,rfl,rfl,rfl,rfl,trivial⟩ ⟨Nat.zero_le _,⟨by simp,hwcap,fun v hv => hsubX _ (hI.wX v hv),fun _ h => h⟩,hS.took⟩ ?_
        clear hS
        rintro ⟨i2,aw2,cw2,ws2,X3⟩ w ⟨hi2,hB,hS⟩
        simp only at hi2 hB hS ⊢
        have hwl2 := hB.len hi2
        have hcap2 := hB.cap
        by_cases hlt2 : i2 < bs.length
        ·have hb0 : bs[i2]? = some bs[i2] := List.getElem?_eq_getElem hlt2
         generalize bs[i2] = b at hb0
         have hblow := hI.flow b (by have := List.mem_of_getElem? hb0; rw [hbst] at this; exact List.mem_of_mem_take this)
         have hxI : (ints .i64 bs)[i2]? = some (.int .i64 b) := by simp [ints,hb0]
         have hbagR : ∀ w rs,St W F2 (pts t10 (.cells #[.slice aw2 ws2.length cw2] 258) :: own 181 2 aw2 cw2 (ws2.flatMap Wr.cells) :: bag X3 :: rs) w → Rd w (row fa (ints .i64 bs)) := fun w rs h => (h.rd (r := bag X3) (by simp)).bag (hB.sub _ hX2b)
         have hfaE : ∃ b off,fa = some ⟨b,off,none⟩ := (hbagR _ _ hS).base (by intro e; rw [e] at hxI; simp at hxI)
         repeat (first|refine Yeg ?_|refine Yaf ?_|refine Ya1 ?_|refine Yba ?_|refine Yek ?_|refine Yab ?_)
         refine X_yl (Zav rfl rfl ((hbagR _ _ hS).cellX (by omega) hxI)) rfl rfl ?_
         repeat (first|refine Yeg ?_|refine Yag ?_|refine Yab ?_)
         refine Zan (.s 0 (.s 1 (.s 2 (.s 4 (.s 5 (.s 6 (.s 7 (.s 8 (.s 9 (.s 10 (.s 11 (.s 12 (.s 13 (.s 14 (.s 15 (.s 16 (.s 17 (.h 3 (.h 18 .nil .no) .no)))))))))))))))))) mixed (by kernel_rfl) rfl ?_
         have hS := hS.drew
         repeat (first|(refine Zae ?_;first|refine Ya0 ?_|refine Ybg ?_|refine Ydu ?_|refine Ycw ?_|refine Yeb ?_|refine Ybm ?_))
         refine Zak rfl rfl (fun _ => Zzd rfl rfl rfl) rfl rfl ?_
         obtain ⟨hN,hhN⟩ : ∃ hN : Nat,hN = min (64 * (i2 + 1)) x.c.nd.data.length := ⟨_,rfl⟩
         have hmin : min (64 * ((i2 : Int) + 1)) (x.c.nd.data.length : Nat) = (hN : Nat) := by omega
         rw [hmin]
         have hnb : 64 * i2 ≤ hN := by
          have : 64 * i2 < x.c.nd.data.length := by rw [hbsl] at hlt2; unfold nblk at hlt2; omega
          omega
         refine Zak rfl rfl (fun _ => Zas (l := 64 * i2) (h := hN) rfl rfl rfl rfl (.inr ⟨_,_,rfl,by omega,by omega,by omega⟩) (.inr ⟨_,_,rfl,by omega,by omega,by omega⟩)) rfl rfl ?_
         repeat (first|(refine X_id ?_;first|(refine Zaa 147 rfl rfl rfl rfl rfl (Z3o tp lp n r b _ (hTo.rd hS) (by omega) hblow.1 (by omega)) ?_;rintro _ _ ⟨rfl,rfl⟩))|(refine Zae ?_;first|refine Yas ?_)|(refine Zac ?_;first|refine Yax ?_))
         obtain ⟨_,hc3,hr3,hw3,hbk3⟩ := hS.call [true,true,false,false,false,false]
         have hdb := ((hr3 (bag X3) (by simp)).bag (hB.sub _ hX2c)).subBytes (l := 64 * i2) (h := hN) (c := dc) (by omega) hnb
         refine Zb2 (first := []) (captured := [.pointer (some ⟨t10,0,none⟩)]) rfl rfl rfl rfl rfl (Z39 t10 aw2 cw2 ws2 (1 + (n : Int) + b) (sub da (64 * i2) 1 dc) (hN - 64 * i2) (dc - 64 * i2) ((x.c.nd.data.drop (64 * i2)).take (hN - 64 * i2)) _ _ hdb (by rw [List.length_take,List.length_drop]; omega) hcap2 (by omega) hc3) ?_
         rintro _ w ⟨rfl,aw3,cw3,q,hcw3,hS⟩
         replace hS := hbk3 hS
         clear hc3 hr3 hw3 hbk3
         rw [Zos _ _ _ hhN] at hS
         repeat (first|refine Yeg ?_|refine Yel ?_|refine Yad ?_|refine Yeo ?_|(refine Zae ?_;first|refine Yaw ?_)|(refine Zac ?_;first|refine Yax ?_))
         have hS := (hS.pick [2,2,0,0,0,0,0]).bagAdd (fun _ h => h)
         have hS := hS.pick [1,1,0,0,0,0]
         refine Zaf (α := Nat × Option Addr × Nat × List Wr × List RowD) (z := (i2,aw2,cw2,ws2,X3)) (i2 + 1,aw3,cw3,ws2 ++ [putW (1 + (n : Int) + b) q ((x.c.nd.data.drop (64 * i2)).take (hN - 64 * i2))],(some ⟨q,0,none⟩,bv (Zg8 x.c.nd.data i2)) :: X3) ⟨rfl,rfl,rfl,rfl,rfl,rfl,rfl,rfl,rfl,rfl,rfl,rfl,rfl,trivial⟩ ⟨by simp only; omega,⟨?_,by simp only [List.length_append,List.length_cons,List.length_nil]; exact hcw3,fun v hv => ?_,fun y hy => List.mem_cons_of_mem _ (hB.sub y hy)⟩,?_⟩ (by simp only; omega)
         ·simp only
          rw [List.map_append,hB.data,Zsk hb0,List.append_assoc]
          congr 2
          simp [Wr.data,Zos _ _ _ hhN]
         ·rcases List.mem_append.1 hv with hv | hv
          ·exact List.mem_cons_of_mem _ (hB.wX v hv)
          ·rw [List.mem_singleton] at hv
           rw [hv]
           simp only [Zos _ _ _ hhN]
           exact List.mem_cons_self ..
         ·simp only [List.length_append,List.length_cons,List.length_nil]
          exact hS
        ·obtain rfl : i2 = bs.length := by omega
         repeat (first|refine Yeg ?_|refine Yaz ?_|refine Yet ?_|refine Yem ?_)
         exact Zbj (aw2,cw2,ws2,X3) ⟨rfl,rfl,rfl,rfl,rfl,rfl,rfl,rfl,rfl,rfl,trivial⟩ ⟨hB,hS⟩
       ·clear hS
        rintro ⟨aw2,cw2,ws2,X3⟩ w ⟨hB,hS⟩
        simp only at hB hS ⊢
        have hwl2 := hB.len (Nat.le_refl _)
        have hcap2 := hB.cap
        repeat (first|refine Yae ?_)
        refine Zan (.s 0 (.s 1 (.s 2 (.s 3 (.s 4 (.h 5 (.h 6 .nil .no) .no)))))) mixed (by kernel_rfl) rfl ?_
        have hS := hS.drew
        repeat (first|(refine Zae ?_;first|refine Ya0 ?_|refine Ybg ?_|refine Ycw ?_|refine Ybm ?_|refine Ybx ?_|refine Yas ?_))
        refine Zaa _ rfl rfl rfl rfl rfl (Z30 ⟨x.c.nd,bs⟩ da dc fa bs.length _ ((hS.rd (r := bag X3) (by simp)).bag (hB.sub _ hX2b)) (by simp only; omega) (by simp only; omega)) ?_
        rintro _ w ⟨q1,rfl,hS'⟩
        replace hS := hS.plus hS'
        clear hS'
        repeat (first|(refine Zae ?_;first|refine Yas ?_)|(refine Zac ?_;first|refine Yax ?_))
        obtain ⟨_,hc3,hr3,hw3,hbk3⟩ := hS.call [false,true,true,false,false,false,false]
        refine Zb2 (first := []) (captured := [.pointer (some ⟨t10,0,none⟩)]) rfl rfl rfl rfl rfl (Z39 t10 aw2 cw2 ws2 (1 + x.c.no) (some ⟨q1,0,none⟩) 64 64 (stoB ⟨x.c.nd,bs⟩) _ _ (hr3 (bytes (some ⟨q1,0,none⟩) (stoB ⟨x.c.nd,bs⟩)) (by simp)) (Zef _) hcap2 (by omega) hc3) ?_
        rintro _ w ⟨rfl,aw3,cw3,q,hcw3,hS⟩
        replace hS := hbk3 hS
        clear hc3 hr3 hw3 hbk3
        rw [Zol (Zef _)] at hS
        have hS := hS.took (out := [mapq (Value.int .i64) r2 (AV.vals Az),bytes (some ⟨q,0,none⟩) (stoB ⟨x.c.nd,bs⟩),bag X3,pts t10 (.cells #[.slice aw3 (ws2.length + 1) cw3] 258),own 181 2 aw3 cw3 ((ws2 ++ [putW (1 + x.c.no) q (stoB ⟨x.c.nd,bs⟩)]).flatMap Wr.cells),pts t15 (.cells (stoV ⟨x.c.nd,bs⟩ da dc fa bs.length).toArray 272),pts t13 (.cells (List.toArray [.int .i64 x.c.no,.int .i64 x.c.nd.st.kind,.int .i64 x.c.nd.st.mode,.int .i64 x.c.nd.st.owner,.int .i64 x.c.nd.st.group,.slice x.a x.c.nd.data.length x.k,.bool false]) 189)])
        repeat (first|refine Yaa ?_|refine Yaf ?_|refine Yan ?_|refine Yap ?_|refine Ybf ?_|refine Yad ?_|refine Yab ?_|(refine Zae ?_;first|refine Yaw ?_)|(refine Zac ?_;first|refine Yax ?_))
        refine Ze2 (mk := Value.int .i64) (k := x.c.no) (v := SV.val ⟨⟨x.c.nd,bs⟩,da,dc,fa,bs.length⟩) rfl rfl rfl rfl rfl hS (fun w hS => ?_)
        rw [Z2l] at hS
        repeat (first|refine Yeg ?_|refine Yel ?_|refine Yad ?_|refine Yeo ?_)
        have hS := (hS.pick [1,1,1,1,0]).bagAdd (fun _ h => h)
        have hS := hS.pick [1,1,0,0]
        have hbt : (Zcp n bs x.c.nd.data).take bs.length = Zcp n bs x.c.nd.data := List.take_of_length_le (by simp [Zcp])
        refine Zaf (α := ApZ) (z := ⟨i,Az,fa,fc,fl,aw,cw,ws,X⟩) (⟨i + 1,setA x.c.no ⟨⟨x.c.nd,bs⟩,da,dc,fa,bs.length⟩ Az,sub fa bs.length 1 fc,fc - bs.length,fl.drop bs.length,aw3,cw3,ws2 ++ [putW (1 + x.c.no) q (stoB ⟨x.c.nd,bs⟩)],(some ⟨q,0,none⟩,bv (stoB ⟨x.c.nd,bs⟩)) :: X3⟩ : ApZ) ⟨rfl,rfl,by simp only; rw [List.length_drop]; rfl,rfl,rfl,rfl,rfl,rfl,trivial⟩
         ⟨⟨by simp only; omega,?_,List.mem_cons_of_mem _ (hB.sub _ hX2a),by simp only [List.length_drop]; omega,by simp only [List.length_append,List.length_cons,List.length_nil]; exact hcw3,fun v hv => ?_,fun y hy => ?_,?_,fun b hb => hI.flow b (List.mem_of_mem_drop hb)⟩,?_⟩ (by simp only; omega)
        ·simp only
         rw [hrun,hstep,List.map_append,hB.data,hbt,List.append_assoc,show AV.ents (setA x.c.no (⟨⟨x.c.nd,bs⟩,da,dc,fa,bs.length⟩ : SV) Az) = setA x.c.no ⟨x.c.nd,bs⟩ (AV.ents Az) from (Zta SV.s).symm]
         have : Zdb (stoB ⟨x.c.nd,bs⟩) = stoB ⟨x.c.nd,bs⟩ := Zol (Zef _)
         simp [Wr.data,this]
        ·rcases List.mem_append.1 hv with hv | hv
         ·exact List.mem_cons_of_mem _ (hB.wX v hv)
         ·rw [List.mem_singleton] at hv
          rw [hv]
          have : Zdb (stoB ⟨x.c.nd,bs⟩) = stoB ⟨x.c.nd,bs⟩ := Zol (Zef _)
          simp only [this]
          exact List.mem_cons_self ..
        ·rcases Ztp hy with rfl | hy
         ·exact .inr ⟨List.mem_cons_of_mem _ (hB.sub _ hX2c),List.mem_cons_of_mem _ (hB.sub _ hX2b)⟩
         ·exact (hI.aX y hy).imp id fun h => ⟨List.mem_cons_of_mem _ (hB.sub _ (hsubX _ h.1)),List.mem_cons_of_mem _ (hB.sub _ (hsubX _ h.2))⟩
        ·have := hI.wl
         simp only [List.length_append,List.length_cons,List.length_nil] at this ⊢
         omega
        ·simp only [List.length_append,List.length_cons,List.length_nil]
         exact hS
    ·rw [hdp] at hxs
     repeat (first|refine Yeg ?_|(refine X_id ?_;first|refine Yaf ?_|refine Yan ?_|refine Ya1 ?_|refine Yba ?_|refine Yay ?_|refine Yap ?_|refine Ybr ?_|refine Yao (fun _ hS _ => ?_)|refine Yar (fun _ _ hS _ => ?_))|refine Yek ?_|refine Yab ?_)
     obtain ⟨_,hc3,hr3,hw3,hbk3⟩ := hS.call [false,true,true,false,false]
     refine Zb2 (first := []) (captured := [.pointer (some ⟨t10,0,none⟩)]) rfl rfl rfl rfl rfl (Z39 t10 aw cw ws (1 + x.c.no) none 0 0 [] _ _ (Zit _ _ _) rfl hwcap (by omega) hc3) ?_
     rintro _ w ⟨rfl,aw',cw',q,hcw',hS⟩
     replace hS := hbk3 hS
     clear hc3 hr3 hw3 hbk3
     repeat (first|refine Yeg ?_|refine Yel ?_|refine Yad ?_|refine Ya4 ?_|refine Yem ?_)
     have hS := (hS.pick [2,3,0,0,1]).bagAdd (fun _ h => h)
     have hS := hS.pick [1,1,0,0]
     refine Zaf (α := ApZ) (z := ⟨i,Az,fa,fc,fl,aw,cw,ws,X⟩) (⟨i + 1,Az,fa,fc,fl,aw',cw',ws ++ [putW (1 + x.c.no) q []],(some ⟨q,0,none⟩,bv (Zdb [])) :: X⟩ : ApZ) ⟨rfl,rfl,rfl,rfl,rfl,rfl,rfl,rfl,trivial⟩ ⟨⟨by simp only; omega,?_,List.mem_cons_of_mem _ hI.fX,hfcap,by simp only [List.length_append,List.length_cons,List.length_nil]; exact hcw',fun v hv => ?_,fun y hy => (hI.aX y hy).imp id fun h => ⟨List.mem_cons_of_mem _ h.1,List.mem_cons_of_mem _ h.2⟩,?_,hI.flow⟩,?_⟩ (by simp only; omega)
     ·simp only
      rw [hrun]
      unfold ApS.step
      rw [if_pos hdp]
      have : Zdb [] = zero64 := by simp [Zdb,zero64]
      simp [Wr.data,this]
     ·rcases List.mem_append.1 hv with hv | hv
      ·exact List.mem_cons_of_mem _ (hI.wX v hv)
      ·rw [List.mem_singleton] at hv; rw [hv]; exact List.mem_cons_self ..
     ·have := hI.wl
      simp only [List.length_append,List.length_cons,List.length_nil] at this ⊢
      omega
     ·simp only [List.length_append,List.length_cons,List.length_nil]
      exact hS
   ·obtain rfl : i = l.length := by omega
    repeat (first|refine Yeg ?_|refine Yaz ?_|refine Yet ?_|refine Yem ?_)
    exact Zbj (⟨l.length,Az,fa,fc,fl,aw,cw,ws,X⟩ : ApZ) ⟨rfl,rfl,rfl,trivial⟩ ⟨⟨hcll.symm,hI⟩,hS⟩
  ·clear hS hI0 hz0
   rintro ⟨i,Az,fa,fc,fl,aw,cw,ws,X⟩ w ⟨⟨hi,hI⟩,hS⟩
   have hwl := hbound _ hI
   have hwcap := hI.wcap
   have hrun := hI.run
   simp only at hi hS hwl hwcap hrun ⊢
   rw [hi,List.take_length] at hrun
   rcases hlaw with ⟨h1,_⟩ | ⟨z',h1,h2,h3,h4,h5⟩
   ·rw [hrun] at h1; cases h1
   ·obtain rfl : z' = ⟨AV.ents Az,fl,ws.map Wr.data⟩ := by rw [hrun] at h1; exact (Option.some.inj h1).symm
    simp only at h2 h3 h4 h5
    have hnl : (ws.map Wr.data).length = ws.length := by simp
    rw [hnl] at h2
    repeat (first|refine Yae ?_)
    refine Zan (.s 0 (.s 1 (.s 2 (.s 3 (.s 4 (.h 5 (.s 6 .nil) .no)))))) mixed (by kernel_rfl) rfl ?_
    have hS := hS.drew
    repeat (first|(refine Zae ?_;first|refine Ya0 ?_|refine Ybo ?_|refine Ybg ?_|refine Ybm ?_|refine Yas ?_|refine Yc8 ?_))
    replace hS := hbk hS
    obtain ⟨_,hc4,hr4,hw4,hbk4⟩ := hS.call [false,false,false,false,false,false,false,true]
    refine Zaa _ rfl rfl rfl rfl rfl (Zth lp p j m dat aw cw ws rd fs _ _ (hG.mono hw4) ⟨(hr4 (own 181 2 aw cw (ws.flatMap Wr.cells)) (by simp)).own_row,fun v hv => (hr4 (bag X) (by simp)).bag (hI.wX v hv)⟩ (by omega) hm h4 (by rw [hE.len]; exact h5) hc4) ?_
    rintro _ w (⟨hfull,rfl,hS⟩ | ⟨hfit,rfl,hS⟩)
    ·replace hS := hbk4 hS
     clear hc4 hr4 hw4 hbk4
     have hp : putT T nb (j / 2) cl = (6,T) := by unfold putT; rw [h2,if_neg (by simp),if_pos hfull]
     rw [hp]
     repeat (first|refine Yeg ?_|refine Yaf ?_|refine Yag ?_|refine Ybl ?_|refine Yey ?_|refine Yez ?_|(refine Zae ?_;first|refine Yfg ?_)|(refine Zac ?_;first|refine Yax ?_))
     have h := hS.took (out := [Ziz tp lp n r,mapq (Value.int .i64) r A.vals,bag A.rows,qlog lp p j m dat])
     exact ⟨rfl,(h.shutItab hok).head Zsa⟩
    ·replace hS := hbk4 hS
     clear hc4 hr4 hw4 hbk4
     have hp : putT T nb (j / 2) cl = (0,tabOf (AV.ents Az) n) := by unfold putT; rw [h2,if_neg (by simp),if_neg (by simp only; omega)]
     rw [hp]
     repeat (first|refine Yeg ?_|(refine X_id ?_;first|refine Yaf ?_|refine Yag ?_|refine Yav ?_|refine Yan ?_|refine Ybb ?_|refine Yao (fun _ hS _ => ?_))|refine Ye6 ?_|refine Yei ?_|(refine Zae ?_;first|refine Yfg ?_)|(refine Zac ?_;first|refine Yax ?_))
     have h := hS.took (out := [bag X,bag A.rows,Ziz tp lp n r2,mapq (Value.int .i64) r2 (AV.vals Az),qlog lp p j (m + 1) (Zca dat (ws.map Wr.data))])
     have h := h.bagJoin.bagSub (Y := AV.rows Az) (fun y hy => by
      obtain ⟨x,hx,hyx⟩ := List.mem_flatMap.1 hy
      rcases hI.aX x hx with hxA | ⟨e1,e2⟩
      ·exact List.mem_append_right _ (List.mem_flatMap.2 ⟨x,hxA,hyx⟩)
      ·simp only [List.mem_cons,List.not_mem_nil,or_false] at hyx
       rcases hyx with rfl | rfl
       ·exact List.mem_append_left _ e1
       ·exact List.mem_append_left _ e2)
     have h := h.pick [1,1,0,0]
     exact ⟨rfl,h.shutItab ⟨rfl,h3,hok.n1,hok.n4,hok.nb1⟩⟩
 ·have hap : Zjw T nb (j / 2) cl = (Zfk cl n,T) := by unfold Zjw; rw [htl,if_pos h0]
  rw [hap]
  refine Zab Tryz.func87 rfl Tryz.ntmps87 rfl ?_
  repeat (first|refine Yeg ?_|refine Yaf ?_|refine Yag ?_|refine Ybu ?_|refine Yes ?_|refine Yab ?_)
  refine Zad _ rfl rfl rfl rfl rfl hS (hck _ _ hS) ?_
  rintro _ w rfl hS
  repeat (first|refine Yeg ?_|refine Yaf ?_|refine Yag ?_|refine Ybl ?_|refine Yey ?_|refine Yez ?_)
  exact ⟨rfl,((hbk hS).shutItab hok).head Zsa⟩
end
end Cr
