/-
  Layer 9 (table): what was made is taken away again.
  Layer 9 (table): Put.
  Layer 9 (table) in plain words: what a put and a drop change of the keys' values. No program is in sight.
  Layer 9 (table): Drop,Has.
  Layer 7 (inode): Open: a node of its sector's bytes; does a block stand in two Zg6?
  Layer 7 (inode): Format; what nil tells; Same.
  Layer 7 (inode): does a block stand in two Zg6? Open.
  Layer 7 (inode): Open of a log that holds a table.
  Layer 7 (inode): Used: the keys of a map,gone through by a range over a function,and sorted.
  Layer 8 (tree): a tree is opened on a table that is new.
-/
import Derived.Test.YtpbgaojjlepkcaaGreatDoorTba13
import Derived.Test.YtpbgaojjlepkcaaGreatDoorTba3
import Derived.Test.YtpbgaojjlepkcaaGreatDoorTba9
import Derived.Test.YtpbgaojjlepkcaaGreatDoorTba5
import Derived.Test.YtpbgaojjlepkcaaGreatDoorTba6
import Derived.Sort.Row
import Derived.Sort.Grow
namespace Cr
open Go Go.Proofs
set_option maxRecDepth 100000
set_option maxHeartbeats 8000000
attribute [local irreducible] Calls

theorem Zkw (l bx n c : Nat) (a : Option Addr) (cs : List Value) (w : World) (T : TypeId) (hn : n ≤ 4611686018427387904) (hcs : cs.length = n) (Inv : Nat → World → Prop)
  (hbx : ∀ k w,Inv k w → w.heap[bx]? = some (.cells #[.slice a n c] T)) (hrow : ∀ k w,Inv k w → Rd w (row a cs)) (hl : ∀ k w,Inv k w → ∃ r : Loop,r.params.size = 2 ∧ w.heap[l]? = some (.loop r) ∧ (k ≠ 0 → ∀ v,cs[k - 1]? = some v →
   RoundIn Fence.wide 0 Tryz.prog l r.fn ((r.params.zip #[.int .i64 ((k - 1 : Nat) : Int),v]).foldl (fun tmps (t,a) => tmps.setIfInBounds t a) r.tmps) r.assign r.body w
    (Ret fun v w' => v = .bool true ∧ Inv (k - 1) w'))) (h0 : Inv n w) :
  CallsIn Fence.wide 0 Tryz.prog 171 #[.func (.yield l) #[] #[],.pointer (some ⟨bx,0,none⟩)] w (Ret fun _ w' => Inv 0 w') := by
 refine callsIn_wide.2 ?_
 have hb := hbx _ _ h0
 refine Zab Tryz.func171 rfl Tryz.ntmps171 rfl ?_
 repeat (first|refine Yd0 ?_|refine Yag ?_|refine Yav ?_|refine Yb2 ?_|refine Yb4 ?_|refine Yd3 ?_|refine Yab ?_)
 refine Zak (α := Nat) (fun k => [(0,.func (.yield l) #[] #[]),(1,.pointer (some ⟨bx,0,none⟩)),(3,.int .i64 ((k : Int) - 1))]) (fun k w => k ≤ n ∧ Inv k w) (fun k => k) n ⟨rfl,rfl,rfl,trivial⟩ ⟨Nat.le_refl _,h0⟩ ?_
 clear hb h0
 rintro k w ⟨hk,hi⟩
 have hb := hbx _ _ hi
 by_cases h0 : k = 0
 ·subst h0
  repeat (first|refine Yd0 ?_|refine Yaf ?_|refine Yb9 ?_|refine Yec ?_|refine Yab ?_|refine Ya9 ?_|refine Yba ?_|refine Ybs ?_)
  exact hi
 ·obtain ⟨r,hp,hlr,hr⟩ := hl _ _ hi
  have hv : cs[k - 1]? = some cs[k - 1] := List.getElem?_eq_getElem (by omega)
  generalize cs[k - 1] = v at hv
  have hr := hr h0 v hv
  have hcs0 : cs ≠ [] := by intro e; rw [e] at hcs; simp at hcs; omega
  obtain ⟨xb,xo,rfl⟩ := (hrow _ _ hi).base hcs0
  have hcell := (hrow _ _ hi).cells (k - 1) v hv
  have e1 : ((k : Int) - 1).toNat = k - 1 := by omega
  have e2 : ((k - 1 : Nat) : Int) = (k : Int) - 1 := by omega
  rw [e2] at hr
  repeat (first|refine Yd0 ?_|refine Yaf ?_|refine Yb7 ?_|refine Ybc ?_|refine Yb4 ?_|refine Yd4 ?_|refine Yab ?_)
  rw [e1,Nat.mul_one]
  refine X_yl (Zar rfl rfl hcell) rfl rfl ?_
  refine Zq2 rfl rfl rfl rfl rfl rfl hlr (by rw [hp]; rfl) hr ?_
  rintro v w' ⟨rfl,hi'⟩
  repeat (first|refine Yd0 ?_|refine Yaf ?_|refine Yag ?_|refine Ybb ?_|refine Yb2 ?_|refine Yer ?_|refine Yd8 ?_)
  refine Zaf (k - 1) ⟨rfl,rfl,?_,trivial⟩ ⟨by omega,hi'⟩ (by omega)
  rw [e2]; rfl
theorem Zwi (a : Option Addr) (n c : Nat) (W : World) : Calls Tryz.prog 103 #[.slice a n c] W
  (Ret fun v w => ∃ bx,v = .func (.func 171) #[] #[.pointer (some ⟨bx,0,none⟩)] ∧ St W noF [pts bx (.cells #[.slice a n c] 115)] w) := by
 have hS := St.start W
 refine Zab Tryz.func103 rfl Tryz.ntmps103 rfl ?_
 repeat (first|refine Yd0 ?_|refine Yag ?_|refine Yci ?_|refine Ya6 (fun _ _ hS _ => ?_)|refine Yed ?_|refine Yd2 ?_)
 exact ⟨_,rfl,hS⟩
section
variable {c f tp n : Nat} {b : Int} {T : Int → Option Nd} {t : Tn} {X Y : List RowD}
theorem Z45 (ht : TreeOk n t) (tb : Nat) (name : List UInt8) (a : Option Addr) (L : List (List (List UInt8))) (q : Nat) (vs : List Value) (W : World) (F : Nat → Prop) (hT : TreeRo W F f tp n b T) (hG : Lg W F)
  (htb : Ro W F (pts tb (.cells (List.toArray [.pointer (some ⟨c,0,none⟩),.string (str name)]) 107 (0,0)))) (hY : Ro W F (bag Y)) (hP : PathsRd Y L vs) (hr : Ro W F (row a vs)) (hll : L.length ≤ 1048576) (hlp : ∀ p ∈ L,p.length ≤ 1048576)
  (hS : St W F [chR c f b T (Nt t) X] W) :
  Calls Tryz.prog 52 #[.pointer (some ⟨tb,0,none⟩),.slice a L.length q] W (Ret fun v w => v = .tuple #[] ∧ ∃ X',(∀ x ∈ X,x ∈ X') ∧ St W F [chR c f b T (Nt (Zl8 t L)) X'] w) := by
 have hro := hr
 clear hr
 refine Zab Tryz.func52 rfl Tryz.ntmps52 rfl ?_
 repeat (first|refine Yd0 ?_|refine Yaf ?_|refine Ya6 (fun _ _ hS _ => ?_)|refine Yd1 ?_|refine Yab ?_)
 obtain ⟨_,hcc,hr,hw,hbk⟩ := hS.call []
 refine Zaa _ rfl rfl rfl rfl rfl (Zwi _ _ _ _) ?_
 rintro _ w ⟨bx,rfl,hS⟩
 replace hS := hbk hS.more
 clear hcc hr hw hbk
 repeat (first|refine Yac ?_|refine Yal ?_|refine Yab ?_)
 rename_i b2 _ _ _ _
 refine Zgu (first := []) (captured := [.pointer (some ⟨bx,0,none⟩)])
  (fun lp r j w => j = none ∧ ∃ X' lo,(∀ x ∈ X,x ∈ X') ∧ St W F [pts lp lo,pts r (.deferred (some [])),chR c f b T (Nt (Zl8 t L)) X'] w) rfl rfl hS ?_ ?_ ?_
 ·intro A B hA hB fn tm lp r w1 htm hlook hS
  refine Zfh (Zkw lp bx L.length q a vs w1 115 (by omega) hP.1
   (fun k w => k ≤ L.length ∧ ∃ X',(∀ x ∈ X,x ∈ X') ∧ St W F [pts lp (.loop (recd fn tm #[8,9] A B r .ready none)),pts r (.deferred (some [])),pts bx (.cells #[.slice a L.length q] 115),pts b2 (.cells (List.toArray [.pointer (some ⟨tb,0,none⟩)]) 30 (0,0)),chR c f b T (Nt (Zl8 t (L.drop k))) X'] w)
   (fun k w h => (h.2.choose_spec.2).has) (fun k w h => hro.rd h.2.choose_spec.2) ?_ ⟨Nat.le_refl _,X,fun _ h => h,by rw [List.drop_length]; exact hS⟩) ?_
  ·rintro k w ⟨hkl,X',hX',hS⟩
   refine ⟨_,rfl,hS.has,fun hk v hv => ?_⟩
   have hkl' : k - 1 < L.length := by omega
   have hp : L[k - 1]? = some L[k - 1] := List.getElem?_eq_getElem hkl'
   have hdr : L.drop (k - 1) = L[k - 1] :: L.drop k := by
    have := List.drop_eq_getElem_cons hkl'
    rwa [show k - 1 + 1 = k by omega] at this
   generalize L[k - 1] = p at hp hdr
   have hpl := hlp p (List.mem_of_getElem? hp)
   obtain ⟨pa,pc,hv2,hpc,hpr⟩ := hP.2 (k - 1) p hp
   rw [hv] at hv2
   cases hv2
   show RoundIn Fence.wide 0 Tryz.prog lp fn ((#[8,9].zip _).foldl _ tm) A B w _
   refine Zp6 (Fr.round2 htm hlook lp (.int .i64 ((k - 1 : Nat) : Int)) (.slice pa p.length pc) (by decide) (by decide)) ?_
   refine C_eq hA ?_
   repeat (first|refine Yd0 ?_|refine Yag ?_|refine Yad ?_)
   refine Zno hS.has (fun w hset => ?_)
   replace hS := hS.upd hset
   refine C_eq hB ?_
   have hc := htb
   repeat (first|refine Yaa ?_|(refine X_id ?_;first|refine Yaf ?_|refine Yau ?_|refine Yan ?_|refine Yap ?_|refine Yca ?_)|refine Yad ?_|refine Yal ?_)
   obtain ⟨_,hcc,_,hw,hbk⟩ := hS.call [false,false,false,false,true]
   refine Zaa _ rfl rfl rfl rfl rfl (Z37 (Zl7 ht _) pa p pc _ _ (hT.mono hw) (hG.mono hw) (hw _ (hpr.ro hY)) hpc hpl hcc) ?_
   rintro _ w ⟨X2,hX2,rfl,hS⟩
   replace hS := hbk hS
   clear hbk hw hcc
   repeat (first|refine Yac ?_|refine Yat ?_)
   refine Zko hS.has (fun w hset => ⟨_,rfl,rfl,by omega,X2,fun x hx => hX2 x (hX' x hx),?_⟩)
   rw [hdr,Zl8]
   exact (hS.upd hset).took
  ·rintro _ w3 ⟨_,X',hX',hS⟩
   rw [List.drop_zero] at hS
   exact ⟨_,_,by simp,hS.has,fun w4 hset => ⟨rfl,X',_,hX',(hS.upd hset).pick [0,0,2]⟩⟩
 ·rintro lp r w4 ⟨_,X',lo,hX',hS⟩
  refine Zq6 ?_
  refine Zs3 (.inr rfl) hS.has (fun w hset => ?_)
  replace hS := hS.upd hset
  repeat (first|refine Ybs ?_)
  exact ⟨rfl,X',hX',hS.took⟩
 ·rintro lp r cc w4 ⟨h,_⟩
  cases h
end
end Cr
namespace Cr
open Go Go.Proofs
set_option maxRecDepth 100000
set_option maxHeartbeats 8000000
attribute [local irreducible] Calls

def Zkb : Nd := ⟨⟨1,448,0,0⟩,[]⟩
def Zch (b : List UInt8) : Nd := ⟨⟨0,384,0,0⟩,b⟩
def Zb1 (n : Nat) (t : Tn) (l : List (List (List UInt8))) : Int × Tn × List (List (List UInt8)) := l.foldl (fun z p => Za8 n z Zkb p) (0,t,[])
def Zhu (n : Nat) (t : Tn) (name key : List UInt8) (v : Mv) : Int × Tn :=
 if ¬ nameOk key then (10,t) else if chkM 8 v ≠ 0 then (chkM 8 v,t) else if 512 < (encM v).length then (2,t) else
 match Zdc t (wayL name) with
 | none => (17,t)
 | some ms => if Zci t [dbN,name,key] = 0 then Zp8 t (encM v) [dbN,name,key] else if Zci t [dbN,name,key] = 1 ∨ Zci t [dbN,name,key] = 2 then (17,t) else
  if (Za8 n (Zb1 n t ms) (Zch (encM v)) [dbN,name,key]).1 = 0 then (0,(Za8 n (Zb1 n t ms) (Zch (encM v)) [dbN,name,key]).2.1) else ((Za8 n (Zb1 n t ms) (Zch (encM v)) [dbN,name,key]).1,Zl8 (Za8 n (Zb1 n t ms) (Zch (encM v)) [dbN,name,key]).2.1 (Za8 n (Zb1 n t ms) (Zch (encM v)) [dbN,name,key]).2.2)
theorem Zgq {n : Nat} {z : Int × Tn × List (List (List UInt8))} {nd : Nd} {p : List (List UInt8)} : (Za8 n z nd p).2.2 = z.2.2 ∨ (Za8 n z nd p).2.2 = z.2.2 ++ [p] := by
 unfold Za8
 split
 ·split
  ·exact .inr rfl
  ·exact .inl rfl
 ·exact .inl rfl
theorem Zgr (n : Nat) (t : Tn) (l : List (List (List UInt8))) (p : List (List UInt8)) : Zb1 n t (l ++ [p]) = Za8 n (Zb1 n t l) Zkb p := by
 unfold Zb1; rw [List.foldl_append]; rfl
theorem Zhn {n : Nat} {t : Tn} (ht : TreeOk n t) : ∀ (k : Nat) (l : List (List (List UInt8))),l.length = k → TreeOk n (Zb1 n t l).2.1 ∧ (Zb1 n t l).2.2.length ≤ l.length ∧ ∀ p ∈ (Zb1 n t l).2.2,p ∈ l
 | 0,l,hl => by
  obtain rfl := List.eq_nil_of_length_eq_zero hl
  exact ⟨ht,Nat.le_refl _,fun p hp => (by cases hp)⟩
 | k + 1,l,hl => by
  rcases List.eq_nil_or_concat l with rfl | ⟨l,p,rfl⟩
  ·cases hl
  rw [List.concat_eq_append] at hl ⊢
  rw [List.length_append,List.length_singleton] at hl
  obtain ⟨h1,h2,h3⟩ := Zhn ht k l (by omega)
  rw [Zgr]
  refine ⟨Zkg h1 _ _,?_,?_⟩
  ·rcases Zgq (n := n) (z := Zb1 n t l) (nd := Zkb) (p := p) with h | h
   ·rw [h,List.length_append]; omega
   ·rw [h,List.length_append,List.length_append]; simp; omega
  ·intro q hq
   rcases Zgq (n := n) (z := Zb1 n t l) (nd := Zkb) (p := p) with h | h
   ·rw [h] at hq; exact List.mem_append_left _ (h3 q hq)
   ·rw [h] at hq
    rcases List.mem_append.1 hq with hq | hq
    ·exact List.mem_append_left _ (h3 q hq)
    ·exact List.mem_append_right _ hq
theorem Zgx {t : Tn} : ∀ {l ms : List (List (List UInt8))},Zdc t l = some ms → (∀ p ∈ ms,p ∈ l) ∧ ms.length ≤ l.length
 | [],ms,h => by rw [Zdc] at h; injection h with h; subst h; exact ⟨fun p hp => (by cases hp),Nat.le_refl _⟩
 | p :: l,ms,h => by
  rw [Zdc] at h
  split at h
  ·obtain ⟨h1,h2⟩ := Zgx h
   exact ⟨fun q hq => List.mem_cons_of_mem _ (h1 q hq),by simp only [List.length_cons]; omega⟩
  ·split at h
   ·cases hw : Zdc t l with
    | none => rw [hw] at h; cases h
    | some r =>
     rw [hw] at h
     simp only [Option.map_some,Option.some.injEq] at h
     subst h
     obtain ⟨h1,h2⟩ := Zgx hw
     refine ⟨fun q hq => ?_,by simp only [List.length_cons]; omega⟩
     rcases List.mem_cons.1 hq with rfl | hq
     ·exact List.mem_cons_self ..
     ·exact List.mem_cons_of_mem _ (h1 q hq)
   ·cases h
theorem Zrd {n : Nat} {t : Tn} (ht : TreeOk n t) (name key : List UInt8) (v : Mv) : TreeOk n (Zhu n t name key v).2 := by
 unfold Zhu
 split
 ·exact ht
 ·split
  ·exact ht
  ·split
   ·exact ht
   ·split
    ·exact ht
    ·rename_i ms _
     split
     ·exact Zx5 ht _ _
     ·split
      ·exact ht
      ·have h1 := Zkg (n := n) (Zhn ht _ ms rfl).1 (Zch (encM v)) [dbN,name,key]
       split
       ·exact h1
       ·exact Zl7 h1 _
section
variable {c f tp n : Nat} {b : Int} {T : Int → Option Nd} {t : Tn} {X : List RowD}
theorem Z2n (ht : TreeOk n t) (tb : Nat) (name key : List UInt8) (v : Mv) (cs : List Value) (W : World) (F : Nat → Prop) (hT : TreeRo W F f tp n b T) (hG : Lg W F) (htb : Ro W F (pts tb (.cells (List.toArray [.pointer (some ⟨c,0,none⟩),.string (str name)]) 107 (0,0)))) (hv : Mrd (RoR W F) v cs) (hwv : wM v ≤ 1048576) (hfit : fitM v) (hlv : (encM v).length ≤ 131072) (hS : St W F [chR c f b T (Nt t) X] W) :
  Calls Tryz.prog 12 #[.pointer (some ⟨tb,0,none⟩),.string (str key),.agg (List.toArray cs)] W (Ret fun u w => u = .int .i64 (Zhu n t name key v).1 ∧ ∃ X',(∀ x ∈ X,x ∈ X') ∧ St W F [chR c f b T (Nt (Zhu n t name key v).2) X'] w) := by
 have hN := fun W => Zve key W
 have hc := htb
 obtain ⟨a1,c1,a2,c2,rows,rfl,_⟩ := hv.lit
 unfold Zhu
 by_cases hk : nameOk key
 case neg =>
  rw [if_pos hk]
  simp only [decide_eq_false hk] at hN
  refine Zab Tryz.func12 rfl Tryz.ntmps12 rfl ?_
  repeat (first|refine Yd0 ?_|(refine X_id ?_;first|(refine Zae 42 rfl rfl rfl rfl rfl hS (hN _) ?_;rintro _ _ rfl hS)|refine Yaf ?_|refine Yag ?_|refine Ybo ?_|refine Ybr ?_|refine Yap ?_|refine Ya6 (fun _ _ hS _ => ?_))|refine Yek ?_|refine Yel ?_)
  exact ⟨rfl,X,fun _ h => h,hS.took⟩
 rw [if_neg (by simpa using hk)]
 simp only [decide_eq_true hk] at hN
 clear hk
 refine Zab Tryz.func12 rfl Tryz.ntmps12 rfl ?_
 repeat (first|refine Yd0 ?_|(refine X_id ?_;first|(refine Zae 42 rfl rfl rfl rfl rfl hS (hN _) ?_;rintro _ _ rfl hS)|refine Yaf ?_|refine Yag ?_|refine Ybb ?_|refine Ybr ?_|refine Yap ?_|refine Ybe ?_|refine Ya6 (fun _ _ hS _ => ?_))|refine Yex ?_|refine Yd8 ?_)
 refine Zaa _ rfl rfl rfl rfl rfl (Zsk v _ _ (hv.mono fun _ _ h => (h.rd hS).ro) hwv hfit hlv (hG.at_ hS)) ?_
 rintro _ w (⟨he,rfl,hS'⟩ | ⟨he,eb,eq,rfl,heq,hS'⟩)
 case inl =>
  replace hS := hS.plus hS'
  clear hS'
  rw [if_pos he]
  generalize chkM 8 v = e at he ⊢
  repeat (first|refine Yd0 ?_|(refine X_id ?_;first|refine Yaf ?_|refine Yag ?_|refine Ya1 ?_|refine Ybl ?_|refine Yap ?_|refine Yao (fun _ hS _ => ?_)|refine Yar (fun _ _ hS _ => ?_))|refine Yeh ?_|refine Yei ?_)
  exact ⟨rfl,X,fun _ h => h,hS.took⟩
 replace hS := hS.plus hS'
 clear hS'
 rw [if_neg (by simpa using he)]
 generalize encM v = bs at hS heq hlv ⊢
 by_cases h5 : 512 < bs.length
 ·rw [if_pos h5]
  repeat (first|refine Yd0 ?_|(refine X_id ?_;first|refine Yaf ?_|refine Yag ?_|refine Ya1 ?_|refine Yav ?_|refine Ybd ?_|refine Ybx ?_|refine Yap ?_|refine Yao (fun _ hS _ => ?_)|refine Yar (fun _ _ hS _ => ?_))|refine Ye4 ?_|refine Yei ?_)
  exact ⟨rfl,X,fun _ h => h,hS.took⟩
 rw [if_neg h5]
 repeat (first|refine Yd0 ?_|(refine X_id ?_;first|refine Yaf ?_|refine Yag ?_|refine Ya1 ?_|refine Yav ?_|refine Ybd ?_|refine Ybu ?_|refine Yap ?_|refine Yao (fun _ hS _ => ?_)|refine Yar (fun _ _ hS _ => ?_))|refine Yeb ?_|refine Yab ?_)
 rename_i b3 _ _ _ b5 _ _ _ _ _ be _ _ _ _ _
 obtain ⟨_,hcc,_,hw,hbk⟩ := hS.call [false,false,false,false,true]
 refine Zaa _ rfl rfl rfl rfl rfl (Z43 ht tb name _ _ (hT.mono hw) (hG.mono hw) (hw _ htb) hcc) ?_
 rintro u w ⟨X1,hX1,hw1⟩
 cases hms : Zdc t (wayL name) with
 | none =>
  rw [hms] at hw1
  obtain ⟨rfl,hS⟩ := hw1
  replace hS := hbk hS
  clear hbk hw hcc
  repeat (first|refine Yd0 ?_|(refine X_id ?_;first|refine Yaf ?_|refine Yag ?_|refine Ya1 ?_|refine Ybl ?_|refine Yap ?_|refine Yao (fun _ hS _ => ?_))|refine Yeh ?_|refine Yei ?_)
  exact ⟨rfl,X1,hX1,hS.took⟩
 | some ms =>
  rw [hms] at hw1
  obtain ⟨ma,mq,mvs,Y,rfl,hma,hmP,hS⟩ := hw1
  replace hS := hbk hS
  clear hbk hw hcc
  obtain ⟨hmsub,hmlen⟩ := Zgx hms
  simp only
  repeat (first|refine Yd0 ?_|(refine X_id ?_;first|refine Yaf ?_|refine Yag ?_|refine Ya1 ?_|refine Ybd ?_|refine Yap ?_|refine Yao (fun _ hS _ => ?_))|refine Yeb ?_|refine Yab ?_)
  refine Zao (.s 0 (.s 1 (.s 2 (.s 3 (.s 4 (.s 5 (.s 6 (.s 7 (.s 8 (.h 9 (.h 10 .nil .no) .no)))))))))) mixed (by kernel_rfl) rfl ?_
  have hS := hS.drew
  have htbp := (htb.rd hS).pts
  repeat (first|refine Ybf (fun _ _ hS _ => ?_)|(refine Zad ?_;first|refine Ya0 ?_|refine Ybq ?_|refine Ybj ?_|refine Ybm ?_|refine Yc5 ?_|refine Yas ?_)|(refine Zac ?_;first|refine Ycc ?_))
  obtain ⟨_,hcc,hr1,hw,hbk⟩ := hS.call [false,false,true]
  refine Zaa _ rfl rfl rfl rfl rfl (Zum ht _ [dbN,name,key] _ _ _ (hT.mono hw) (hG.mono hw) (hr1 _ (List.mem_cons_self ..)).own_row (by simp) hcc) ?_
  rintro _ w ⟨rfl,X2,hX2,hS⟩
  replace hS := hbk hS
  clear hbk hw hcc hr1 htbp
  have hX12 : ∀ x ∈ X,x ∈ X2 := fun x hx => hX2 x (hX1 x hx)
  generalize Zci t [dbN,name,key] = kk
  by_cases hk0 : kk = 0
  ·rw [if_pos hk0]
   repeat (first|refine Yd0 ?_|refine Yag ?_|refine Ybi ?_|refine Yew ?_|refine Yab ?_|(refine Zad ?_;first|refine Yay ?_)|(refine Zac ?_;first|refine Ycc ?_))
   refine Zao (.s 0 (.s 1 (.s 2 (.s 3 (.s 4 (.s 5 (.s 6 (.s 7 (.s 8 (.s 9 (.h 10 (.h 11 (.s 12 .nil) .no) .no))))))))))) mixed (by kernel_rfl) rfl ?_
   have hS := hS.drew
   have htbp := (htb.rd hS).pts
   repeat (first|refine Ybf (fun _ _ hS _ => ?_)|(refine Zad ?_;first|refine Ya0 ?_|refine Ybq ?_|refine Ybj ?_|refine Ybm ?_|refine Yc5 ?_|refine Yas ?_)|(refine Zac ?_;first|refine Ycc ?_))
   obtain ⟨_,hcc,hr1,hw,hbk⟩ := hS.call [false,true]
   refine Zaa _ rfl rfl rfl rfl rfl (Z5o ht bs eb eq _ [dbN,name,key] _ _ _ (hT.mono hw) (hG.mono hw) (hr1 (own 5 1 eb eq (bv bs)) (by simp)).own_row (hr1 _ (List.mem_cons_self ..)).own_row (by simp) hcc) ?_
   rintro _ w ⟨X3,hX3,rfl,hS⟩
   replace hS := hbk hS
   clear hbk hw hcc hr1 htbp
   repeat (first|refine Yah ?_|refine Yel ?_|(refine Zad ?_;first|refine Yay ?_|refine Ybn ?_)|(refine Zac ?_;first|refine Ycc ?_))
   exact ⟨rfl,X3,fun x hx => hX3 x (hX12 x hx),hS.took⟩
  rw [if_neg hk0]
  by_cases hk12 : kk = 1 ∨ kk = 2
  ·rw [if_pos hk12]
   by_cases hk1 : kk = 1
   case' neg => have hk2 : kk = 2 := hk12.resolve_left hk1
   all_goals
    repeat (first|refine Yd0 ?_|refine Yag ?_|refine Ybi ?_|refine Ybh ?_|refine Ye1 ?_|refine Yel ?_|(refine Zad ?_;first|refine Yay ?_)|(refine Zac ?_;first|refine Ycc ?_))
    exact ⟨rfl,X2,hX12,hS.took⟩
  rw [if_neg hk12]
  have hk1 : ¬ kk = 1 := fun h => hk12 (.inl h)
  have hk2 : ¬ kk = 2 := fun h => hk12 (.inr h)
  repeat (first|refine Yd0 ?_|(refine X_id ?_;first|refine Yaf ?_|refine Yag ?_|refine Yav ?_|refine Yci ?_|refine Ybh ?_|refine Yar (fun _ _ hS _ => ?_))|refine Yex ?_|refine Yd8 ?_|(refine Zad ?_;first|refine Yay ?_)|(refine Zac ?_;first|refine Ycc ?_))
  rename_i bd _ _
  replace hS := hS.own_none 40 1 none
  have hml : ms.length ≤ 2 := hmlen
  have hS : St W F [chR c f b T (Nt t) X2,own 40 1 none 0 [],pts bd (.cells (List.toArray [.slice none 0 0]) 115 (0,0)),pts be (.cells (List.toArray [.int .i64 0]) 31 (0,0)),bag Y,own 5 1 eb eq (bv bs),pts b3 (.cells (List.toArray [.pointer (some ⟨tb,0,none⟩)]) 30 (0,0))] _ := hS.took
  have hpl2 : ∀ p ∈ wayL name,p.length ≤ 1048576 := by simp [wayL]
  refine Zak (α := Nat) (fun i => [(1,.string (str key)),(3,.pointer (some ⟨b3,0,none⟩)),(7,.slice eb bs.length eq),(8,.pointer (some ⟨be,0,none⟩)),(10,.pointer (some ⟨bd,0,none⟩)),(11,.func (.func 50) #[] #[.pointer (some ⟨be,0,none⟩),.pointer (some ⟨b3,0,none⟩),.pointer (some ⟨bd,0,none⟩)]),(69,.slice ma ms.length mq),(70,.int .i64 (ms.length : Nat)),(71,.int .i64 (i : Nat))])
   (fun i w => i ≤ ms.length ∧ ∃ X' da dc dvs,(∀ x ∈ X,x ∈ X') ∧ PathsRd Y (Zb1 n t (ms.take i)).2.2 dvs ∧ (Zb1 n t (ms.take i)).2.2.length ≤ dc ∧
    St W F [chR c f b T (Nt (Zb1 n t (ms.take i)).2.1) X',own 40 1 da dc dvs,pts bd (.cells (List.toArray [.slice da (Zb1 n t (ms.take i)).2.2.length dc]) 115 (0,0)),pts be (.cells (List.toArray [.int .i64 (Zb1 n t (ms.take i)).1]) 31 (0,0)),bag Y,own 5 1 eb eq (bv bs),pts b3 (.cells (List.toArray [.pointer (some ⟨tb,0,none⟩)]) 30 (0,0))] w)
   (fun i => ms.length - i) 0 ⟨rfl,rfl,rfl,rfl,rfl,rfl,rfl,rfl,rfl,trivial⟩ ⟨Nat.zero_le _,X2,none,0,[],hX12,.nil,Nat.le_refl _,hS⟩ ?_
  clear hS
  rintro i w ⟨hi,X3,da,dc,dvs,hX3,hdP,hdc,hS⟩
  obtain ⟨hzt,hzl,hzm⟩ := Zhn ht _ (ms.take i) rfl
  rw [List.length_take] at hzl
  by_cases hlt : i < ms.length
  ·have hp0 : ms[i]? = some ms[i] := List.getElem?_eq_getElem hlt
   have htk : ms.take (i + 1) = ms.take i ++ [ms[i]] := List.take_succ_eq_append_getElem hlt
   generalize ms[i] = p at hp0 htk
   have hpl := hpl2 p (hmsub p (List.mem_of_getElem? hp0))
   obtain ⟨pa,pc,hx,hpc,hpr⟩ := hmP.2 i p hp0
   have hr := hma.rd (hS.rd (r := bag Y) (by simp))
   obtain ⟨xb,xo,hmb⟩ := hr.base (by intro e; rw [e] at hx; simp at hx)
   subst hmb
   repeat (first|refine Yd0 ?_|(refine X_id ?_;first|refine Yaf ?_|refine Yag ?_|refine Ya2 ?_|refine Ybk ?_|refine Ybc ?_|refine Yb5 ?_)|refine Yd4 ?_|refine Yab ?_)
   clear hr
   obtain ⟨_,hcc,hr1,hw,hbk⟩ := hS.call [true,true,true,true]
   refine Zb4 (first := []) (captured := [.pointer (some ⟨be,0,none⟩),.pointer (some ⟨b3,0,none⟩),.pointer (some ⟨bd,0,none⟩)]) rfl rfl rfl rfl rfl (Z22 hzt tb be b3 bd name _ Zkb none 0 pa p pc da dc _ dvs _ _ (hT.mono hw) (hG.mono hw) (hw _ htb) (hr1 (pts b3 (.cells (List.toArray [.pointer (some ⟨tb,0,none⟩)]) 30 (0,0))) (by simp)) (hr1 (bag Y) (by simp)) hpr hpc hpl (Zge _ _ _) hdP hdc (by omega) hcc) ?_
   rintro _ w ⟨rfl,X4,da',dc',vs',hX4,hP',hdc',hS⟩
   replace hS := hbk hS
   clear hbk hw hcc hr1
   repeat (first|refine Yd0 ?_|refine Yd5 ?_|refine Yad ?_|refine Yd8 ?_)
   refine Zaf (i + 1) ⟨rfl,rfl,rfl,rfl,rfl,rfl,rfl,rfl,rfl,trivial⟩ ⟨hlt,X4,da',dc',vs',fun x hx => hX4 x (hX3 x hx),?_⟩ (by omega)
   rw [htk,Zgr]
   exact ⟨hP',hdc',hS.took⟩
  ·obtain rfl : i = ms.length := by omega
   rw [List.take_length] at hdP hdc hS hzt hzl hzm
   generalize Zb1 n t ms = z at hdP hdc hS hzt hzl hzm ⊢
   obtain ⟨ze,zt,zd⟩ := z
   simp only at hdP hdc hS hzt hzl hzm
   repeat (first|refine Yd0 ?_|(refine X_id ?_;first|refine Yaf ?_|refine Yau ?_|refine Yan ?_|refine Ya3 ?_|refine Ybk ?_|refine Yap ?_|refine Ybf (fun _ _ hS _ => ?_)|refine Yca ?_)|refine Yec ?_|refine Yd6 ?_)
   rename_i pb _ _
   have hS := hS.pick [0,4,0,0,0,0,0,0]
   have hS := hS.bagAdd (a := some ⟨pb,0,none⟩) (cs := strV [dbN,name,key]) fun _ h => h.row
   obtain ⟨_,hcc,hr1,hw,hbk⟩ := hS.call [false,true,true,true,true]
   refine Zb4 (first := []) (captured := [.pointer (some ⟨be,0,none⟩),.pointer (some ⟨b3,0,none⟩),.pointer (some ⟨bd,0,none⟩)]) rfl rfl rfl rfl rfl (Z22 (Y := (some ⟨pb,0,none⟩,strV [dbN,name,key]) :: Y) hzt tb be b3 bd name ze (Zch bs) eb eq (some ⟨pb,0,none⟩) [dbN,name,key] 3 da dc zd dvs _ _ (hT.mono hw) (hG.mono hw) (hw _ htb) (hr1 (pts b3 (.cells (List.toArray [.pointer (some ⟨tb,0,none⟩)]) 30 (0,0))) (by simp)) (hr1 _ (List.mem_cons_self ..)) (.mem (List.mem_cons_self ..)) (Nat.le_refl 3) (by simp) (hr1 (own 5 1 eb eq (bv bs)) (by simp)).own_row (hdP.sub fun x hx => List.mem_cons_of_mem _ hx) hdc (by omega) hcc) ?_
   rintro _ w ⟨rfl,X4,da',dc',vs',hX4,hP',hdc',hS⟩
   replace hS := hbk hS
   clear hbk hw hcc hr1
   have hzt' := Zkg (n := n) (z := (ze,zt,zd)) hzt (Zch bs) [dbN,name,key]
   have hdn : (Za8 n (ze,zt,zd) (Zch bs) [dbN,name,key]).2.2.length ≤ 3 ∧ ∀ p ∈ (Za8 n (ze,zt,zd) (Zch bs) [dbN,name,key]).2.2,p.length ≤ 1048576 := by
    have hz1 : ∀ p ∈ zd,p.length ≤ 1048576 := fun p hp => hpl2 p (hmsub p (hzm p hp))
    rcases Zgq (n := n) (z := (ze,zt,zd)) (nd := Zch bs) (p := [dbN,name,key]) with h | h
    ·rw [h]; exact ⟨by simp only; omega,hz1⟩
    ·rw [h]
     refine ⟨by rw [List.length_append]; simp only [List.length_singleton]; omega,fun p hp => ?_⟩
     rcases List.mem_append.1 hp with hp | hp
     ·exact hz1 p hp
     ·obtain rfl := List.mem_singleton.1 hp
      simp
   generalize Za8 n (ze,zt,zd) (Zch bs) [dbN,name,key] = z' at hS hP' hdc' hzt' hdn ⊢
   obtain ⟨e',t',d'⟩ := z'
   simp only at hS hP' hdc' hzt' hdn ⊢
   by_cases h0 : e' = 0
   ·subst h0
    rw [if_pos rfl]
    repeat (first|refine Yd0 ?_|refine Yag ?_|refine Ybd ?_|refine Yap ?_|refine Yep ?_|refine Yd2 ?_)
    exact ⟨rfl,X4,fun x hx => hX4 x (hX3 x hx),hS.took⟩
   ·rw [if_neg h0]
    repeat (first|refine Yd0 ?_|refine Ybl ?_|refine Yap ?_|refine Yea ?_|refine Yab ?_)
    obtain ⟨_,hcc,hr1,hw,hbk⟩ := hS.call [true]
    refine Zaa _ rfl rfl rfl rfl rfl (Z45 hzt' tb name da' d' dc' vs' _ _ (hT.mono hw) (hG.mono hw) (hw _ htb) (hr1 (bag ((some ⟨pb,0,none⟩,strV [dbN,name,key]) :: Y)) (by simp)) hP' (hr1 _ (List.mem_cons_self ..)).own_row (by omega) hdn.2 hcc) ?_
    rintro _ w ⟨rfl,X5,hX5,hS⟩
    replace hS := hbk hS
    clear hbk hw hcc hr1
    repeat (first|refine Yd0 ?_|refine Yag ?_|refine Yap ?_|refine Yed ?_|refine Yd2 ?_)
    exact ⟨rfl,X5,fun x hx => hX5 x (hX4 x (hX3 x hx)),hS.took⟩
end
end Cr
namespace Cr
open Go

theorem Z0h {f : Tn → Tn} (hf : ∀ u,(f u).nm = u.nm) : ∀ (p : List (List UInt8)) (t : Tn),(updT p f t).nm = t.nm
 | [],t => hf t
 | _ :: _,.mk _ _ _ _ _ => rfl
theorem Zvj {f : Tn → Tn} (hf : ∀ u,(f u).nm = u.nm) (s s' : List UInt8) (p : List (List UInt8)) : ∀ l : List Tn,kidT s (l.map fun k => if k.nm = s' then updT p f k else k) = (kidT s l).map fun k => if k.nm = s' then updT p f k else k
 | [] => rfl
 | x :: l => by
  have hn : (if x.nm = s' then updT p f x else x).nm = x.nm := by split; exact Z0h hf p x; rfl
  have ih := Zvj hf s s' p l
  unfold kidT at ih ⊢
  rw [List.map_cons]
  by_cases h : x.nm = s
  ·rw [List.find?_cons_of_pos (by rw [hn]; simpa using h),List.find?_cons_of_pos (by simpa using h)]; rfl
  ·rw [List.find?_cons_of_neg (by rw [hn]; simpa using h),List.find?_cons_of_neg (by simpa using h),ih]
theorem Zr5 {f : Tn → Tn} (hf : ∀ u,(f u).nm = u.nm) (s s' : List UInt8) (p : List (List UInt8)) (t : Tn) : Za9 (updT (s' :: p) f t) s = match Za9 t s with
  | .ok k => .ok (if s = s' then updT p f k else k)
  | .error e => .error e := by
 obtain ⟨nm,no,st,data,kids⟩ := t
 unfold Za9
 rw [updT]
 show (if st.kind = 1 then (match kidT s (kids.map fun k => if k.nm = s' then updT p f k else k) with | some k => .ok k | none => .error 7) else .error 17 : Except Int Tn) = match (if st.kind = 1 then (match kidT s kids with | some k => .ok k | none => .error 7) else .error 17 : Except Int Tn) with
  | .ok k => .ok (if s = s' then updT p f k else k)
  | .error e => .error e
 rw [Zvj hf]
 by_cases hk : st.kind = 1
 ·rw [if_pos hk,if_pos hk]
  cases hq : kidT s kids with
  | none => rfl
  | some k => simp only [Option.map_some,(Zmp hq).2]
 ·rw [if_neg hk,if_neg hk]
theorem Zlj {f : Tn → Tn} (hf : ∀ u,(f u).nm = u.nm) (r : List (List UInt8)) : ∀ (p : List (List UInt8)) (t : Tn),goT (updT p f t) (p ++ r) = match goT t p with
  | .ok u => goT (f u) r
  | .error e => .error e
 | [],t => rfl
 | s :: p,t => by
  rw [List.cons_append,goT,Zr5 hf,goT]
  cases hg : Za9 t s with
  | error e => rfl
  | ok k =>
   simp only [if_pos]
   exact Zlj hf r p k
theorem Zzw {f : Tn → Tn} (hf : ∀ u,(f u).nm = u.nm) : ∀ (p q : List (List UInt8)) (t : Tn),¬ p <+: q → ¬ q <+: p → goT (updT p f t) q = goT t q
 | [],q,t,h,_ => absurd (List.nil_prefix ..) h
 | s :: p,[],t,_,h => absurd (List.nil_prefix ..) h
 | s :: p,x :: q,t,h,h2 => by
  rw [goT,Zr5 hf,goT]
  cases hg : Za9 t x with
  | error e => rfl
  | ok k =>
   simp only
   by_cases hx : x = s
   ·subst hx
    rw [if_pos rfl]
    exact Zzw hf p q k (fun e => h (List.cons_prefix_cons.2 ⟨rfl,e⟩)) fun e => h2 (List.cons_prefix_cons.2 ⟨rfl,e⟩)
   ·rw [if_neg hx]
theorem Zwn (k u : Tn) : (addF k u).nm = u.nm := rfl
theorem Zzo (s : List UInt8) (u : Tn) : (rmF s u).nm = u.nm := rfl
theorem Zv8 (d : List UInt8) (u : Tn) : (datF d u).nm = u.nm := rfl
theorem Zvk {k : Tn} : ∀ {l : List Tn},kidT k.nm l = none → kidT k.nm (insT k l) = some k
 | [],_ => by unfold kidT insT; rw [List.find?_cons_of_pos (by simp)]
 | x :: l,h => by
  have hx : ¬ x.nm = k.nm := Zok h x (List.mem_cons_self ..)
  have ih := Zvk (k := k) (l := l) (by unfold kidT at h ⊢; rwa [List.find?_cons_of_neg (by simpa using hx)] at h)
  rw [insT]
  unfold kidT at ih ⊢
  split
  ·rw [List.find?_cons_of_neg (by simpa using hx),ih]
  ·rw [List.find?_cons_of_pos (by simp)]
theorem Zrz {k : Tn} {s : List UInt8} (hs : s ≠ k.nm) : ∀ (l : List Tn),kidT s (insT k l) = kidT s l
 | [] => by unfold kidT insT; rw [List.find?_cons_of_neg (by simpa using fun e => hs e.symm)]
 | x :: l => by
  have ih := Zrz hs l
  rw [insT]
  unfold kidT at ih ⊢
  split
  ·by_cases h : x.nm = s
   ·rw [List.find?_cons_of_pos (by simpa using h),List.find?_cons_of_pos (by simpa using h)]
   ·rw [List.find?_cons_of_neg (by simpa using h),List.find?_cons_of_neg (by simpa using h),ih]
  ·rw [List.find?_cons_of_neg (by simpa using fun e => hs e.symm)]
theorem Z3k (s : List UInt8) (l : List Tn) : kidT s (rmT s l) = none := by
 unfold kidT rmT
 rw [List.find?_eq_none]
 intro x hx
 have := (List.mem_filter.1 hx).2
 simpa using this
theorem Zvi {s k : List UInt8} (h : k ≠ s) : ∀ (l : List Tn),kidT k (rmT s l) = kidT k l
 | [] => rfl
 | x :: l => by
  have ih := Zvi h l
  unfold kidT rmT at ih ⊢
  by_cases hx : x.nm = s
  ·rw [List.filter_cons_of_neg (by simpa using hx),ih,List.find?_cons_of_neg (by rw [hx]; simpa using fun e => h e.symm)]
  ·rw [List.filter_cons_of_pos (by simpa using hx)]
   by_cases hk : x.nm = k
   ·rw [List.find?_cons_of_pos (by simpa using hk),List.find?_cons_of_pos (by simpa using hk)]
   ·rw [List.find?_cons_of_neg (by simpa using hk),List.find?_cons_of_neg (by simpa using hk),ih]
theorem Zyp {k u : Tn} {s : List UInt8} (hs : s ≠ k.nm) : Za9 (addF k u) s = Za9 u s := by
 unfold Za9
 show (if u.st.kind = 1 then (match kidT s (insT k u.kids) with | some k => .ok k | none => .error 7) else .error 17 : Except Int Tn) = _
 rw [Zrz hs] <;> rfl
theorem Zyo {k u : Tn} (hu : u.st.kind = 1) (h : kidT k.nm u.kids = none) : Za9 (addF k u) k.nm = .ok k := by
 unfold Za9
 show (if u.st.kind = 1 then (match kidT k.nm (insT k u.kids) with | some k => .ok k | none => .error 7) else .error 17 : Except Int Tn) = _
 rw [Zvk h,if_pos hu]
theorem Z1o {u : Tn} (s : List UInt8) : ∃ e,Za9 (rmF s u) s = .error e := by
 unfold Za9
 show ∃ e,(if u.st.kind = 1 then (match kidT s (rmT s u.kids) with | some k => .ok k | none => .error 7) else .error 17 : Except Int Tn) = .error e
 rw [Z3k]
 split
 ·exact ⟨_,rfl⟩
 ·exact ⟨_,rfl⟩
theorem Zyn {u : Tn} {s k : List UInt8} (h : k ≠ s) : Za9 (rmF s u) k = Za9 u k := by
 unfold Za9
 show (if u.st.kind = 1 then (match kidT k (rmT s u.kids) with | some k => .ok k | none => .error 7) else .error 17 : Except Int Tn) = _
 rw [Zvi h] <;> rfl
/-! ### a key's value,by what stands at its path -/
theorem Zr8 {t : Tn} {p : List (List UInt8)} {e : Int} (h : goT t p = .error e) : ∃ e,getR t p = .error e := by
 unfold getR goR
 by_cases hr : Zbh p
 ·rw [if_pos hr,h]; exact ⟨_,rfl⟩
 ·rw [if_neg hr]; exact ⟨_,rfl⟩
theorem Zmu {t u : Tn} {p : List (List UInt8)} (hr : Zbh p) (h : goT t p = .ok u) : getR t p = .ok (shN u.nd) := by
 unfold getR goR
 rw [if_pos hr,h]
theorem Zry {t : Tn} {p : List (List UInt8)} (hr : Zbh p) (h : Zci t p = -1 → False) : ∃ u,goT t p = .ok u ∧ Zci t p = u.st.kind := by
 unfold Zci at h ⊢
 cases hg : goT t p with
 | error e =>
  obtain ⟨e,he⟩ := Zr8 hg
  rw [he] at h
  exact absurd rfl h
 | ok u => rw [Zmu hr hg]; exact ⟨u,rfl,rfl⟩
theorem Zoj {n : Nat} {t : Tn} (ht : TreeOk n t) {p : List (List UInt8)} (hr : Zbh p) (h : Zci t p = -1) : ∃ e,goT t p = .error e := by
 cases hg : goT t p with
 | error e => exact ⟨e,rfl⟩
 | ok u =>
  unfold Zci at h
  rw [Zmu hr hg] at h
  have h0 := (StatM.check_ok (ht.node u (Zb6 hg)).chk).1.1
  replace h : u.st.kind = -1 := h
  omega
theorem Zi0 {t : Tn} {name key : List UInt8} {e : Int} (hk : nameOk key) (h : goT t [dbN,name,key] = .error e) : Zbu t name key = .error 7 := by
 unfold Zbu
 rw [if_pos hk]
 obtain ⟨e,he⟩ := Zr8 h
 rw [he]
theorem Zji {t t' : Tn} {name key : List UInt8} (h : goT t' [dbN,name,key] = goT t [dbN,name,key]) : Zbu t' name key = Zbu t name key := by
 unfold Zbu getR goR
 rw [h]
def Gap (t : Tn) (name : List UInt8) : Prop := ∀ k,∃ e,goT t [dbN,name,k] = .error e
theorem Zvt {t : Tn} {name : List UInt8} {p r : List (List UInt8)} {e : Int} (hp : ∀ k,[dbN,name,k] = p ++ r ++ [k]) (h : goT t p = .error e) : Gap t name := fun k => by
 rw [hp k,List.append_assoc,Zj4,h]
 exact ⟨_,rfl⟩
theorem Zsb {t t' : Tn} {name key : List UInt8} (h : Gap t name) (h' : Gap t' name) : Zbu t' name key = Zbu t name key := by
 by_cases hk : nameOk key
 ·obtain ⟨_,h1⟩ := h key
  obtain ⟨_,h2⟩ := h' key
  rw [Zi0 hk h1,Zi0 hk h2]
 ·unfold Zbu
  rw [if_neg hk,if_neg hk]
theorem Zoe {n : Nat} {t : Tn} {nd : Nd} {p : List (List UInt8)} (h : (Zbs n t nd p).1 ≠ 0) : (Zbs n t nd p).2 = t := by
 unfold Zbs at h ⊢
 split
 ·rfl
 ·rename_i h1
  split
  ·rfl
  ·rename_i h2
   rw [if_neg h1,if_neg h2] at h
   split
   ·rfl
   ·rename_i x hx
    rw [hx] at h
    simp only at h ⊢
    split
    ·rfl
    ·rename_i h3
     rw [if_neg h3] at h
     split
     ·rfl
     ·rename_i i hi
      rw [hi] at h
      simp only at h
      split
      ·rfl
      ·rename_i h4
       rw [if_neg h4] at h
       exact absurd rfl h
theorem Zyf {t : Tn} {p : List (List UInt8)} {e : Int} (h : Zc7 t p = .error e) : e ≠ 0 := by
 unfold Zc7 at h
 split at h
 ·split at h
  ·injection h with h; subst h; decide
  ·split at h
   ·rename_i e' hg
    injection h with h; subst h
    rcases Zvn hg with rfl | rfl <;> decide
   ·split at h
    ·cases h
    ·injection h with h; subst h; decide
 ·injection h with h; subst h; decide
theorem Zyb {n : Nat} {t : Tn} {nd : Nd} {p : List (List UInt8)} (h : (Zbs n t nd p).1 = 0) : ∃ u s i,Zc7 t p = .ok (u,s) ∧ kidT s u.kids = none ∧ (Zbs n t nd p).2 = updT p.dropLast (addF (.mk s i nd.st nd.data [])) t := by
 unfold Zbs at h ⊢
 split
 ·rename_i h1; rw [if_pos h1] at h; cases h
 ·rename_i h1
  split
  ·rename_i h2; rw [if_neg h1,if_pos h2] at h; exact absurd h h2
  ·rename_i h2
   rw [if_neg h1,if_neg h2] at h
   cases hl : Zc7 t p with
   | error e =>
    rw [hl] at h
    exact absurd h (Zyf hl)
   | ok x =>
    rw [hl] at h
    simp only at h ⊢
    split
    ·rename_i h3; rw [if_pos h3] at h; cases h
    ·rename_i h3
     rw [if_neg h3] at h
     cases hf : Zh6 n (Nt t) with
     | none => rw [hf] at h; cases h
     | some i =>
      rw [hf] at h
      simp only at h ⊢
      split
      ·rename_i h4; rw [if_pos h4] at h; cases h
      ·exact ⟨x.1,x.2,i,rfl,by simpa using h3,rfl⟩
theorem Zqf {n : Nat} {t : Tn} {nd : Nd} {p : List (List UInt8)} {s : List UInt8} (h : (Zbs n t nd (p ++ [s])).1 = 0) : ∃ u i,Zbh (p ++ [s]) ∧ goT t p = .ok u ∧ u.st.kind = 1 ∧ kidT s u.kids = none ∧ (∀ r,goT (Zbs n t nd (p ++ [s])).2 (p ++ s :: r) = goT (.mk s i nd.st nd.data []) r) ∧
  ∀ k r,k ≠ s → goT (Zbs n t nd (p ++ [s])).2 (p ++ k :: r) = goT t (p ++ k :: r) := by
 obtain ⟨u,s',i,hl,hn,he⟩ := Zyb h
 obtain ⟨h1,h2,h3,h4,_⟩ := Zfu hl
 rw [List.dropLast_concat] at h2 h4 he
 obtain rfl : s = s' := by simpa using h4
 refine ⟨u,i,h1,h2,h3,hn,fun r => ?_,fun k r hk => ?_⟩
 ·rw [he,Zlj (Zwn _),h2]
  show goT (addF _ u) (s :: r) = _
  rw [goT,show Za9 (addF (Tn.mk s i nd.st nd.data []) u) s = .ok (Tn.mk s i nd.st nd.data []) from Zyo h3 hn]
 ·rw [he,Zlj (Zwn _),h2,Zj4,h2]
  show goT (addF _ u) (k :: r) = goT u (k :: r)
  rw [goT,goT,Zyp hk]
theorem Zr6 (s : List UInt8) (i : Int) (st : StatM) (d : List UInt8) (x : List UInt8) (r : List (List UInt8)) : ∃ e,goT (.mk s i st d []) (x :: r) = .error e := by
 have h : Za9 (.mk s i st d []) x = .error (if st.kind = 1 then 7 else 17) := by
  unfold Za9
  show (if st.kind = 1 then .error 7 else .error 17 : Except Int Tn) = _
  split <;> rfl
 rw [goT,h]
 exact ⟨_,rfl⟩
section
variable {n : Nat} {t : Tn} {name : List UInt8}
theorem Zsc {p : List (List UInt8)} (hp : p = [dbN] ∨ p = [dbN,name]) (h : Gap t name) : Gap (Zbs n t Zkb p).2 name := by
 by_cases h0 : (Zbs n t Zkb p).1 = 0
 ·intro k
  rcases hp with rfl | rfl
  ·obtain ⟨u,i,_,_,_,_,h1,_⟩ := Zqf (p := []) h0
   have := h1 [name,k]
   rw [List.nil_append,List.nil_append] at this
   rw [this]
   exact Zr6 _ _ _ _ _ _
  ·obtain ⟨u,i,_,_,_,_,h1,_⟩ := Zqf (p := [dbN]) h0
   have := h1 [k]
   rw [show [dbN] ++ name :: [k] = [dbN,name,k] from rfl] at this
   rw [show ([dbN,name] : List (List UInt8)) = [dbN] ++ [name] from rfl,this]
   exact Zr6 _ _ _ _ _ _
 ·rw [Zoe h0]; exact h
theorem Zrl (p : List (List UInt8)) (s : List UInt8) : (Zd6 t (p ++ [s])).2 = t ∨ ∃ u,goT t p = .ok u ∧ (Zd6 t (p ++ [s])).1 = 0 ∧ (Zd6 t (p ++ [s])).2 = updT p (rmF s) t := by
 unfold Zd6
 cases hl : Zc7 t (p ++ [s]) with
 | error e => exact .inl rfl
 | ok x =>
  obtain ⟨u,s'⟩ := x
  obtain ⟨h1,h2,h3,h4,_⟩ := Zfu hl
  rw [List.dropLast_concat] at h2 h4
  obtain rfl : s = s' := by simpa using h4
  simp only
  cases hg : Za9 u s with
  | error e => exact .inl rfl
  | ok k =>
   simp only
   split
   ·exact .inl rfl
   ·rw [List.dropLast_concat]; exact .inr ⟨u,h2,rfl,rfl⟩
theorem Zuz {p : List (List UInt8)} {s : List UInt8} {u : Tn} (h2 : goT t p = .ok u) : (∀ r,∃ e,goT (updT p (rmF s) t) (p ++ s :: r) = .error e) ∧ ∀ k r,k ≠ s → goT (updT p (rmF s) t) (p ++ k :: r) = goT t (p ++ k :: r) := by
 refine ⟨fun r => ?_,fun k r hk => ?_⟩
 ·rw [Zlj (Zzo _),h2]
  show ∃ e,goT (rmF s u) (s :: r) = .error e
  obtain ⟨e,he⟩ := Z1o (u := u) s
  rw [goT,he]
  exact ⟨e,rfl⟩
 ·rw [Zlj (Zzo _),h2,Zj4,h2]
  show goT (rmF s u) (k :: r) = goT u (k :: r)
  rw [goT,goT,Zyn hk]
theorem Z1r {p : List (List UInt8)} (hp : p = [dbN] ∨ p = [dbN,name]) (h : Gap t name) : Gap (Zd6 t p).2 name := by
 rcases hp with rfl | rfl
 ·rcases Zrl (t := t) [] dbN with h1 | ⟨u,h2,_,h1⟩
  ·rw [show ([dbN] : List (List UInt8)) = [] ++ [dbN] from rfl,h1]; exact h
  ·intro k
   rw [show ([dbN] : List (List UInt8)) = [] ++ [dbN] from rfl,h1]
   exact (Zuz h2).1 [name,k]
 ·rcases Zrl (t := t) [dbN] name with h1 | ⟨u,h2,_,h1⟩
  ·rw [show ([dbN,name] : List (List UInt8)) = [dbN] ++ [name] from rfl,h1]; exact h
  ·intro k
   rw [show ([dbN,name] : List (List UInt8)) = [dbN] ++ [name] from rfl,h1]
   exact (Zuz h2).1 [k]
theorem Zsa (h : Gap t name) : ∀ {l : List (List (List UInt8))},(∀ p ∈ l,p = [dbN] ∨ p = [dbN,name]) → Gap (Zl8 t l) name
 | [],_ => h
 | p :: l,hp => by
  rw [Zl8]
  exact Z1r (hp p (List.mem_cons_self ..)) (Zsa h fun q hq => hp q (List.mem_cons_of_mem _ hq))
theorem Zt1 {z : Int × Tn × List (List (List UInt8))} {nd : Nd} {p : List (List UInt8)} (h : (Za8 n z nd p).1 ≠ 0) : (Za8 n z nd p).2 = z.2 := by
 unfold Za8 at h ⊢
 split
 ·rename_i h0
  rw [if_pos h0] at h
  split
  ·rename_i h1; rw [if_pos h1] at h; exact absurd rfl h
  ·rename_i h1; rw [Zoe h1]
 ·rfl
theorem Zwh {z : Int × Tn × List (List (List UInt8))} {nd : Nd} {p : List (List UInt8)} (h : (Za8 n z nd p).1 = 0) : z.1 = 0 ∧ (Zbs n z.2.1 nd p).1 = 0 ∧ (Za8 n z nd p).2.1 = (Zbs n z.2.1 nd p).2 := by
 unfold Za8 at h ⊢
 split
 ·rename_i h0
  rw [if_pos h0] at h
  split
  ·rename_i h1; exact ⟨h0,h1,rfl⟩
  ·rename_i h1; rw [if_neg h1] at h; exact absurd h h1
 ·rename_i h0; rw [if_neg h0] at h; exact absurd h h0
theorem Ztn {z : Int × Tn × List (List (List UInt8))} {p : List (List UInt8)} (hp : p = [dbN] ∨ p = [dbN,name]) (h : Gap z.2.1 name) : Gap (Za8 n z Zkb p).2.1 name := by
 unfold Za8
 split
 ·split
  ·exact Zsc hp h
  ·exact Zsc hp h
 ·exact h
theorem Zlk (h : Gap t name) : ∀ (k : Nat) (l : List (List (List UInt8))),l.length = k → (∀ p ∈ l,p = [dbN] ∨ p = [dbN,name]) → Gap (Zb1 n t l).2.1 name
 | 0,l,hl,_ => by
  obtain rfl := List.eq_nil_of_length_eq_zero hl
  exact h
 | k + 1,l,hl,hp => by
  rcases List.eq_nil_or_concat l with rfl | ⟨l,p,rfl⟩
  ·cases hl
  rw [List.concat_eq_append] at hl hp ⊢
  rw [List.length_append,List.length_singleton] at hl
  rw [Zgr]
  exact Ztn (hp p (by simp)) (Zlk h k l (by omega) fun q hq => hp q (List.mem_append_left _ hq))
theorem Z20 (hn : nameOk name) : Zbh [dbN,name] := ⟨by simp,fun s hs => by
 simp only [List.mem_cons,List.not_mem_nil,or_false] at hs
 rcases hs with rfl | rfl
 ·decide
 ·exact hn⟩
theorem Zzp (hn : nameOk name) {key : List UInt8} (hk : nameOk key) : Zbh [dbN,name,key] := ⟨by simp,fun s hs => by
 simp only [List.mem_cons,List.not_mem_nil,or_false] at hs
 rcases hs with rfl | rfl | rfl
 ·decide
 ·exact hn
 ·exact hk⟩
theorem Zyt (ht : TreeOk n t) (hn : nameOk name) {ms : List (List (List UInt8))} (hw : Zdc t (wayL name) = some ms) (hm : ms ≠ []) : Gap t name := by
 unfold wayL at hw
 by_cases h1 : Zci t [dbN] = -1
 ·obtain ⟨e,he⟩ := Zoj ht (by decide) h1
  exact Zvt (p := [dbN]) (r := [name]) (fun _ => rfl) he
 ·rw [Zdc] at hw
  split at hw
  ·rw [Zdc] at hw
   split at hw
   ·rw [Zdc] at hw
    injection hw with hw
    exact absurd hw.symm hm
   ·split at hw
    ·rename_i h2
     obtain ⟨e,he⟩ := Zoj ht (Z20 hn) h2
     exact Zvt (p := [dbN,name]) (r := []) (fun _ => rfl) he
    ·cases hw
  ·first | cases hw | (rw [if_neg h1] at hw; cases hw)
theorem Zxm (ht : TreeOk n t) (hn : nameOk name) (key : List UInt8) (v : Mv) (hf : fitM v) : ((Zhu n t name key v).1 = 0 → Zbu (Zhu n t name key v).2 name key = .ok v) ∧ ∀ k,((Zhu n t name key v).1 ≠ 0 ∨ k ≠ key) → Zbu (Zhu n t name key v).2 name k = Zbu t name k := by
 unfold Zhu
 by_cases hk : nameOk key
 case neg => rw [if_pos hk]; exact ⟨fun h => (by cases h),fun _ _ => rfl⟩
 rw [if_neg (by simpa using hk)]
 by_cases hc : chkM 8 v = 0
 case neg => rw [if_pos hc]; exact ⟨fun h => absurd h hc,fun _ _ => rfl⟩
 rw [if_neg (by simpa using hc)]
 by_cases h5 : 512 < (encM v).length
 ·rw [if_pos h5]; exact ⟨fun h => (by cases h),fun _ _ => rfl⟩
 rw [if_neg h5]
 have hR := Zzp hn hk
 cases hw : Zdc t (wayL name) with
 | none => exact ⟨fun h => (by cases h),fun _ _ => rfl⟩
 | some ms =>
  simp only
  by_cases h0 : Zci t [dbN,name,key] = 0
  ·rw [if_pos h0]
   obtain ⟨u,hu,hku⟩ := Zry (t := t) hR (fun h => by omega)
   unfold Zp8
   have hgo : goR t [dbN,name,key] = .ok (u.no,u.nd) := by unfold goR; rw [if_pos hR,hu]
   have hk0 : u.st.kind = 0 := by omega
   rw [hgo]
   simp only
   rw [if_neg (show ¬ u.nd.st.kind = 1 from fun h => by have h : u.st.kind = 1 := h; omega),if_neg h5]
   refine ⟨fun _ => ?_,fun k hkk => ?_⟩
   ·unfold Zbu
    have h2 : goT (updT [dbN,name,key] (datF (encM v)) t) [dbN,name,key] = .ok (datF (encM v) u) := by
     have := Zlj (Zv8 (encM v)) [] [dbN,name,key] t
     rw [hu] at this
     exact this
    have hnd : shN (datF (encM v) u).nd = ⟨u.st,encM v⟩ := by
     rw [Zv9 (by omega)]
     unfold shN
     rw [if_neg (show ¬ u.st.kind = 1 by omega)]
    rw [if_pos hk,Zmu hR h2,hnd]
    simp only
    rw [if_pos hk0,Zm1 hc hf]
   ·have hkk : k ≠ key := hkk.resolve_left fun h => h rfl
    refine Zji (Zzw (Zv8 _) _ _ _ (fun h => ?_) fun h => ?_)
    ·have := h.eq_of_length rfl
     simp at this
     exact hkk this.symm
    ·have := h.eq_of_length rfl
     simp at this
     exact hkk this
  ·rw [if_neg h0]
   by_cases h12 : Zci t [dbN,name,key] = 1 ∨ Zci t [dbN,name,key] = 2
   ·rw [if_pos h12]; exact ⟨fun h => (by cases h),fun _ _ => rfl⟩
   rw [if_neg h12]
   have hmem : ∀ p ∈ ms,p = [dbN] ∨ p = [dbN,name] := fun p hp => by
    have := (Zgx hw).1 p hp
    simpa [wayL] using this
   generalize hz : Zb1 n t ms = z
   have hzg : ms ≠ [] → Gap t name ∧ Gap z.2.1 name := fun hm => by
    have h1 := Zyt ht hn hw hm
    refine ⟨h1,?_⟩
    rw [← hz]
    exact Zlk h1 _ ms rfl hmem
   have hz0 : ms = [] → z = (0,t,[]) := fun hm => by rw [← hz,hm]; rfl
   have hzd : ∀ p ∈ z.2.2,p ∈ ms := by rw [← hz]; exact (Zhn ht _ ms rfl).2.2
   by_cases hb : (Za8 n z (Zch (encM v)) [dbN,name,key]).1 = 0
   ·rw [if_pos hb]
    obtain ⟨_,hm,he⟩ := Zwh hb
    simp only
    rw [he]
    obtain ⟨u,i,_,_,_,_,h1,h2⟩ := Zqf (p := [dbN,name]) hm
    refine ⟨fun _ => ?_,fun k hkk => ?_⟩
    ·unfold Zbu
     have h3 : goT (Zbs n z.2.1 (Zch (encM v)) [dbN,name,key]).2 [dbN,name,key] = .ok (.mk key i ⟨0,384,0,0⟩ (encM v) []) := h1 []
     rw [if_pos hk,Zmu hR h3]
     show (if (0 : Int) = 0 then (match decM (encM v) with | some v => .ok v | none => .error 3) else .error 3 : Except Int Mv) = _
     rw [if_pos rfl,Zm1 hc hf]
    ·have hkk : k ≠ key := hkk.resolve_left fun h => h rfl
     have h3 : goT (Zbs n z.2.1 (Zch (encM v)) [dbN,name,key]).2 [dbN,name,k] = goT z.2.1 [dbN,name,k] := h2 k [] hkk
     rw [Zji h3]
     by_cases hms : ms = []
     ·rw [hz0 hms]
     ·exact Zsb (hzg hms).1 (hzg hms).2
   ·rw [if_neg hb]
    refine ⟨fun h => absurd h hb,fun k _ => ?_⟩
    have he := Zt1 hb
    simp only
    rw [he]
    by_cases hms : ms = []
    ·rw [hz0 hms]; rfl
    ·exact Zsb (hzg hms).1 (Zsa (hzg hms).2 fun p hp => hmem p (hzd p hp))
def Zeg (t : Tn) (name : List UInt8) : List (List UInt8) → Nat × Tn
 | [] => (0,t)
 | k :: l => if Zci t [dbN,name,k] = 0 ∧ (Zd6 t [dbN,name,k]).1 = 0 then ((Zeg (Zd6 t [dbN,name,k]).2 name l).1 + 1,(Zeg (Zd6 t [dbN,name,k]).2 name l).2) else
  if Zci t [dbN,name,k] = 0 then Zeg (Zd6 t [dbN,name,k]).2 name l else Zeg t name l
theorem Zy0 (ht : TreeOk n t) (name : List UInt8) : ∀ l : List (List UInt8),TreeOk n (Zeg t name l).2 := by
 intro l
 induction l generalizing t with
 | nil => exact ht
 | cons k l ih =>
  rw [Zeg]
  split
  ·exact ih (Zg5 ht _)
  ·split
   ·exact ih (Zg5 ht _)
   ·exact ih ht
theorem Zun (ht : TreeOk n t) (hn : nameOk name) (key : List UInt8) (hk : nameOk key) : (∃ e,Zbu (Zeg t name [key]).2 name key = .error e) ∧ ∀ k,k ≠ key → Zbu (Zeg t name [key]).2 name k = Zbu t name k := by
 have hR := Zzp hn hk
 by_cases h0 : Zci t [dbN,name,key] = 0
 ·obtain ⟨u,hu,hku⟩ := Zry (t := t) hR (fun h => by omega)
  have hk0 : u.st.kind = 0 := by omega
  have hkids := ((ht.node u (Zb6 hu)).leaf (by omega)).1
  have hsn := Zi5 [dbN,name] t key
  rw [show [dbN,name] ++ [key] = [dbN,name,key] from rfl,hu] at hsn
  cases hp : goT t [dbN,name] with
  | error e => rw [hp] at hsn; cases hsn
  | ok d =>
   rw [hp] at hsn
   have hd : Za9 d key = .ok u := hsn.symm
   have hd1 := (Zhi hd).1
   have hr : Zd6 t [dbN,name,key] = (0,updT [dbN,name] (rmF key) t) := by
    unfold Zd6
    have hl : Zc7 t [dbN,name,key] = .ok (d,key) := by
     have := Zlh (t := t) (q := [dbN,name]) (s := key) hR
     rw [hp] at this
     rw [show [dbN,name,key] = [dbN,name] ++ [key] from rfl,this]
     simp only
     rw [if_pos hd1]
    rw [hl]
    simp only
    rw [hd]
    simp only
    rw [if_neg (by simp [hkids])]
    rfl
   have he : (Zeg t name [key]).2 = updT [dbN,name] (rmF key) t := by
    rw [Zeg,hr,if_pos ⟨h0,rfl⟩]; rfl
   rw [he]
   obtain ⟨h1,h2⟩ := Zuz (s := key) hp
   refine ⟨?_,fun k hkk => Zji (h2 k [] hkk)⟩
   obtain ⟨e,h3⟩ := h1 []
   exact ⟨_,Zi0 hk h3⟩
 ·have he : (Zeg t name [key]).2 = t := by
   rw [Zeg,if_neg fun h => h0 h.1,if_neg h0]; rfl
  rw [he]
  refine ⟨?_,fun _ _ => rfl⟩
  unfold Zbu
  unfold Zci at h0
  rw [if_pos hk]
  cases hg : getR t [dbN,name,key] with
  | error e => exact ⟨_,rfl⟩
  | ok x =>
   rw [hg] at h0
   simp only
   rw [if_neg h0]
   exact ⟨_,rfl⟩
end
end Cr
namespace Cr
open Go Go.Proofs
set_option maxRecDepth 100000
set_option maxHeartbeats 8000000
attribute [local irreducible] Calls

theorem Z32 (s : List UInt8) (W : World) : Calls Tryz.prog 54 #[.string (str s)] W (Ret fun v w => v = .bool (decide (¬ nameOk s)) ∧ St W noF [] w) := by
 have hS := St.start W
 have hN := fun W => Zve s W
 by_cases hk : nameOk s
 ·simp only [decide_eq_true hk] at hN
  rw [decide_eq_false (fun h => h hk)]
  refine Zab Tryz.func54 rfl Tryz.ntmps54 rfl ?_
  repeat (first|refine Yd0 ?_|(refine X_id ?_;first|(refine Zae 42 rfl rfl rfl rfl rfl hS (hN _) ?_;rintro _ _ rfl hS)|refine Yaf ?_|refine Yag ?_|refine Ybb ?_)|refine Yed ?_|refine Yd2 ?_)
  exact ⟨rfl,hS.drops⟩
 ·simp only [decide_eq_false hk] at hN
  rw [decide_eq_true hk]
  refine Zab Tryz.func54 rfl Tryz.ntmps54 rfl ?_
  repeat (first|refine Yd0 ?_|(refine X_id ?_;first|(refine Zae 42 rfl rfl rfl rfl rfl hS (hN _) ?_;rintro _ _ rfl hS)|refine Yaf ?_|refine Yag ?_|refine Ybo ?_)|refine Yed ?_|refine Yd2 ?_)
  exact ⟨rfl,hS.drops⟩
theorem Z1k (a : Option Addr) (l : List (List UInt8)) (lc : Nat) (W : World) (hl : Ro W noF (row a (strV l))) (hll : l.length ≤ 1048576) :
  Calls Tryz.prog 104 #[.slice a l.length lc,.func (.func 54) #[] #[]] W (Ret fun v w => St W noF [] w ∧ ((v = .int .i64 (-1) ∧ ∀ x ∈ l,nameOk x) ∨ ∃ i : Nat,v = .int .i64 (i : Nat) ∧ ∃ x ∈ l,¬ nameOk x)) := by
 have hS := St.start W
 refine Zab Tryz.func104 rfl Tryz.ntmps104 rfl ?_
 repeat (first|refine Yd0 ?_|refine Yev ?_|refine Yd3 ?_|refine Yab ?_)
 refine Zak (α := Nat) (fun i => [(0,.slice a l.length lc),(1,.func (.func 54) #[] #[]),(7,.int .i64 (l.length : Nat)),(8,.int .i64 (i : Nat))])
  (fun i w => i ≤ l.length ∧ (∀ j,j < i → ∀ y,l[j]? = some y → nameOk y) ∧ St W noF [] w) (fun i => l.length - i) 0 ⟨rfl,rfl,rfl,rfl,trivial⟩ ⟨Nat.zero_le _,fun j hj => absurd hj (by simp),hS⟩ ?_
 clear hS
 rintro i w ⟨hi,hne,hS2⟩
 by_cases hlt : i < l.length
 ·have hx0 : l[i]? = some l[i] := List.getElem?_eq_getElem hlt
  generalize l[i] = s at hx0
  have hr := hl
  have hx : (strV l)[i]? = some (.string (str s)) := by unfold strV; rw [List.getElem?_map,hx0]; rfl
  obtain ⟨xb,xo,rfl⟩ := (hr.rd hS2).base (by intro e; rw [e] at hx; simp at hx)
  have hS := hS2
  repeat (first|refine Yd0 ?_|refine Ye0 ?_|refine Yd4 ?_|refine Yab ?_)
  refine Zaa _ rfl rfl rfl rfl rfl (Z32 s _) ?_
  rintro _ w ⟨rfl,hS'⟩
  replace hS := hS.plus hS'
  clear hS'
  by_cases hk : nameOk s
  ·rw [decide_eq_false (fun h => h hk)]
   repeat (first|refine Yd0 ?_|refine Yd5 ?_|refine Yer ?_|refine Yd8 ?_)
   refine Zaf (i + 1) ⟨rfl,rfl,rfl,rfl,trivial⟩ ⟨hlt,fun j hj y hy => ?_,hS.drops⟩ (by omega)
   by_cases hji : j = i
   ·subst hji; rw [hx0] at hy; cases hy; exact hk
   ·exact hne j (by omega) y hy
  ·rw [decide_eq_true hk]
   repeat (first|refine Yd0 ?_|refine Yee ?_|refine Yeh ?_|refine Yel ?_)
   exact ⟨hS.drops,.inr ⟨i,rfl,s,List.mem_of_getElem? hx0,hk⟩⟩
 ·obtain rfl : i = l.length := by omega
  have hS := hS2
  repeat (first|refine Yd0 ?_|refine Yag ?_|refine Ya3 ?_|refine Yd9 ?_|refine Yez ?_)
  exact ⟨hS.drops,.inl ⟨rfl,fun x hx => (by
   obtain ⟨j,hj,he⟩ := List.mem_iff_getElem.1 hx
   exact hne j hj x (by rw [List.getElem?_eq_getElem hj,he]))⟩⟩
def Zva (l : List (List UInt8)) : Bool := !decide (∀ x ∈ l,nameOk x)
theorem Zu9 {l : List (List UInt8)} (h : ∀ x ∈ l,nameOk x) : Zva l = false := by unfold Zva; rw [decide_eq_true h]; rfl
theorem Zu8 {l : List (List UInt8)} (h : ¬ ∀ x ∈ l,nameOk x) : Zva l = true := by unfold Zva; rw [decide_eq_false h]; rfl
theorem Zy3 (a : Option Addr) (l : List (List UInt8)) (lc : Nat) (W : World) (hl : Ro W noF (row a (strV l))) (hll : l.length ≤ 1048576) :
  Calls Tryz.prog 53 #[.slice a l.length lc,.func (.func 54) #[] #[]] W (Ret fun v w => v = .bool (Zva l) ∧ St W noF [] w) := by
 have hS := St.start W
 refine Zab Tryz.func53 rfl Tryz.ntmps53 rfl ?_
 repeat (first|refine Yd0 ?_|refine Yee ?_|refine Yd1 ?_|refine Yab ?_)
 refine Zaa _ rfl rfl rfl rfl rfl (Z1k a l lc _ (hl.rd hS).ro hll) ?_
 rintro v w ⟨hS',h⟩
 replace hS := hS.plus hS'
 clear hS'
 rcases h with ⟨rfl,h⟩ | ⟨i,rfl,x,hx,hn⟩
 ·rw [Zu9 h]
  repeat (first|refine Yd0 ?_|refine Yag ?_|refine Yb9 ?_|refine Yah ?_|refine Yd2 ?_)
  exact ⟨rfl,hS.drops⟩
 ·rw [Zu8 fun e => hn (e x hx)]
  repeat (first|refine Yd0 ?_|refine Yag ?_|refine Yb7 ?_|refine Yah ?_|refine Yd2 ?_)
  exact ⟨rfl,hS.drops⟩
section
variable {c f tp n : Nat} {b : Int} {T : Int → Option Nd} {t : Tn} {X : List RowD}
theorem Z2q (ht : TreeOk n t) (tb : Nat) (name : List UInt8) (a : Option Addr) (l : List (List UInt8)) (lc : Nat) (W : World) (F : Nat → Prop) (hT : TreeRo W F f tp n b T) (hG : Lg W F) (htb : Ro W F (pts tb (.cells (List.toArray [.pointer (some ⟨c,0,none⟩),.string (str name)]) 107 (0,0)))) (hl : Ro W F (row a (strV l))) (hll : l.length ≤ 1048576) (hS : St W F [chR c f b T (Nt t) X] W) :
  Calls Tryz.prog 13 #[.pointer (some ⟨tb,0,none⟩),.slice a l.length lc] W (Ret fun v w => ∃ X',(∀ x ∈ X,x ∈ X') ∧ (((∀ x ∈ l,nameOk x) ∧ v = .tuple #[.int .i64 ((Zeg t name l).1 : Nat),.int .i64 0] ∧ St W F [chR c f b T (Nt (Zeg t name l).2) X'] w) ∨
   ((¬ ∀ x ∈ l,nameOk x) ∧ v = .tuple #[.int .i64 0,.int .i64 10] ∧ St W F [chR c f b T (Nt t) X'] w))) := by
 have hc := htb
 have hro := hl
 have hC := fun W h => Zy3 a l lc W h hll
 by_cases hk : ∀ x ∈ l,nameOk x
 case neg =>
  simp only [Zu8 hk] at hC
  refine Zab Tryz.func13 rfl Tryz.ntmps13 rfl ?_
  repeat (first|refine Yd0 ?_|refine Yaf ?_|refine Yag ?_|refine Ybr ?_|refine Yeb ?_|refine Yab ?_)
  obtain ⟨_,hcc,_,hw,hbk⟩ := hS.call []
  refine Zaa _ rfl rfl rfl rfl rfl (hC _ (hl.rd hS).ro) ?_
  rintro _ w ⟨rfl,hS'⟩
  replace hS := hbk hS'.more
  clear hbk hw hcc
  repeat (first|refine Yd0 ?_|refine Yag ?_|refine Yeh ?_|refine Yab ?_|refine Yaq ?_|refine Ybv ?_)
  exact ⟨X,fun _ h => h,.inr ⟨hk,rfl,hS.took⟩⟩
 simp only [Zu9 hk] at hC
 refine Zab Tryz.func13 rfl Tryz.ntmps13 rfl ?_
 repeat (first|refine Yd0 ?_|refine Yaf ?_|refine Yag ?_|refine Ybr ?_|refine Yeb ?_|refine Yab ?_)
 obtain ⟨_,hcc,_,hw,hbk⟩ := hS.call []
 refine Zaa _ rfl rfl rfl rfl rfl (hC _ (hl.rd hS).ro) ?_
 rintro _ w ⟨rfl,hS'⟩
 replace hS := hbk hS'.more
 clear hbk hw hcc
 repeat (first|refine Yd0 ?_|refine Yev ?_|refine Yex ?_|refine Yab ?_)
 refine Zak (α := Nat × Nat × Tn × List RowD) (fun z => [(0,.pointer (some ⟨tb,0,none⟩)),(6,.int .i64 (z.2.1 : Nat)),(13,.slice a l.length lc),(14,.int .i64 (l.length : Nat)),(15,.int .i64 (z.1 : Nat))])
  (fun z w => z.1 ≤ l.length ∧ z.2.1 ≤ z.1 ∧ TreeOk n z.2.2.1 ∧ Zeg t name l = (z.2.1 + (Zeg z.2.2.1 name (l.drop z.1)).1,(Zeg z.2.2.1 name (l.drop z.1)).2) ∧ (∀ x ∈ X,x ∈ z.2.2.2) ∧ St W F [chR c f b T (Nt z.2.2.1) z.2.2.2] w) (fun z => l.length - z.1) (0,0,t,X) ⟨rfl,rfl,rfl,rfl,rfl,trivial⟩ ⟨Nat.zero_le _,Nat.le_refl _,ht,by simp,fun _ h => h,hS.took⟩ ?_
 clear hS
 rintro ⟨i,k,u,X1⟩ w ⟨hi,hki,hu,hd,hX1,hS2⟩
 simp only at hi hki hu hd hX1 hS2 ⊢
 by_cases hlt : i < l.length
 ·have hx0 : l[i]? = some l[i] := List.getElem?_eq_getElem hlt
  have hdr : l.drop i = l[i] :: l.drop (i + 1) := List.drop_eq_getElem_cons hlt
  generalize l[i] = s at hx0 hdr
  rw [hdr,Zeg] at hd
  have hr := hro
  have hx : (strV l)[i]? = some (.string (str s)) := by unfold strV; rw [List.getElem?_map,hx0]; rfl
  obtain ⟨xb,xo,rfl⟩ := (hr.rd hS2).base (by intro e; rw [e] at hx; simp at hx)
  have hS := hS2
  repeat (first|refine Yd0 ?_|refine Yag ?_|refine Ya2 ?_|refine Ybc ?_|refine Yb5 ?_|refine Yd4 ?_|refine Yab ?_)
  refine Zao (.s 0 (.s 1 (.s 2 (.s 3 (.s 4 (.s 5 (.s 6 (.s 7 (.s 8 (.h 9 (.h 10 (.s 11 (.s 12 (.s 13 (.s 14 (.s 15 (.s 16 (.s 17 (.s 18 (.s 19 (.s 20 (.s 21 (.h 22 (.h 23 (.s 24 (.s 25 .nil)) .no) .no)))))))))))) .no) .no)))))))))) mixed (by kernel_rfl) rfl ?_
  have hS := hS.drew
  repeat (first|refine Ybf (fun _ _ hS _ => ?_)|(refine Zad ?_;first|refine Ya0 ?_|refine Ybq ?_|refine Ybj ?_|refine Yas ?_|refine Yc2 ?_)|(refine Zac ?_;first|refine Ycc ?_))
  obtain ⟨_,hcc,hr1,hw,hbk⟩ := hS.call [false,true]
  refine Zaa _ rfl rfl rfl rfl rfl (Zum hu _ [dbN,name,s] _ _ _ (hT.mono hw) (hG.mono hw) (hr1 _ (List.mem_cons_self ..)).own_row (by simp) hcc) ?_
  rintro _ w ⟨rfl,X2,hX2,hS⟩
  replace hS := hbk hS
  clear hbk hw hcc hr1
  by_cases h0 : Zci u [dbN,name,s] = 0
  ·rw [h0]
   repeat (first|refine Ybf (fun _ _ hS _ => ?_)|(refine Zad ?_;first|refine Ya0 ?_|refine Ydo ?_|refine Yce ?_|refine Ycw ?_|refine Ycu ?_|refine Ydb ?_|refine Ydj ?_)|(refine Zac ?_;first|refine Ycc ?_))
   obtain ⟨_,hcc,hr1,hw,hbk⟩ := hS.call [false,true]
   refine Zaa _ rfl rfl rfl rfl rfl (Z37 hu _ [dbN,name,s] _ _ _ (hT.mono hw) (hG.mono hw) (hr1 _ (List.mem_cons_self ..)).own_row (by simp) (by simp) hcc) ?_
   rintro _ w ⟨X3,hX3,rfl,hS⟩
   replace hS := hbk hS
   clear hbk hw hcc hr1
   by_cases h1 : (Zd6 u [dbN,name,s]).1 = 0
   ·rw [if_pos ⟨h0,h1⟩] at hd
    rw [h1]
    repeat (first|refine Yd0 ?_|refine Yef ?_|refine Yad ?_|refine Yaj ?_|refine Yd8 ?_|(refine Zad ?_;first|refine Yay ?_|refine Ycd ?_|refine Zcb rfl rfl rfl rfl (fun _ => Zne rfl rfl rfl (by omega)) rfl rfl ?_)|(refine Zac ?_;first|refine Ycc ?_))
    refine Zaf (z := (i,k,u,X1)) (i + 1,k + 1,(Zd6 u [dbN,name,s]).2,X3) ⟨rfl,rfl,rfl,rfl,rfl,trivial⟩ ⟨hlt,by dsimp only; omega,Zg5 hu _,by rw [hd]; simp only; congr 1; omega,fun x hx => hX3 x (hX2 x (hX1 x hx)),hS.took⟩ (by dsimp only; omega)
   ·rw [if_neg (fun e => h1 e.2),if_pos h0] at hd
    generalize (Zd6 u [dbN,name,s]).1 = e at h1
    repeat (first|refine Yd0 ?_|refine Yd5 ?_|refine Yer ?_|refine Yd8 ?_|(refine Zad ?_;first|refine Yay ?_|refine Ycd ?_|refine Zcb rfl rfl rfl rfl (fun _ => Zjc rfl rfl rfl (by omega)) rfl rfl ?_)|(refine Zac ?_;first|refine Ycc ?_))
    exact Zaf (z := (i,k,u,X1)) (i + 1,k,(Zd6 u [dbN,name,s]).2,X3) ⟨rfl,rfl,rfl,rfl,rfl,trivial⟩ ⟨hlt,by dsimp only; omega,Zg5 hu _,hd,fun x hx => hX3 x (hX2 x (hX1 x hx)),hS.took⟩ (by dsimp only; omega)
  ·rw [if_neg (fun e => h0 e.1),if_neg h0] at hd
   generalize Zci u [dbN,name,s] = e at h0
   repeat (first|refine Yd0 ?_|refine Yd5 ?_|refine Yer ?_|refine Yd8 ?_|(refine Zad ?_;first|refine Yay ?_|refine Ya0 ?_|refine Ycf ?_|refine Ydv ?_|refine Yc6 ?_|refine Ycj ?_)|(refine Zac ?_;first|refine Ycc ?_))
   exact Zaf (z := (i,k,u,X1)) (i + 1,k,u,X2) ⟨rfl,rfl,rfl,rfl,rfl,trivial⟩ ⟨hlt,by dsimp only; omega,hu,hd,fun x hx => hX2 x (hX1 x hx),hS.took⟩ (by dsimp only; omega)
 ·obtain rfl : i = l.length := by omega
  have hS := hS2
  rw [List.drop_length,Zeg] at hd
  repeat (first|refine Yd0 ?_|refine Yey ?_|refine Yd9 ?_|refine Yab ?_|refine Ya9 ?_|refine Yba ?_|refine Ybv ?_)
  refine ⟨X1,hX1,.inl ⟨hk,?_,?_⟩⟩
  ·rw [hd]; simp
  ·rw [hd]; exact hS.took
def okE {α : Type} : Except Int α → Bool
 | .ok _ => true
 | .error _ => false
theorem Z2o (ht : TreeOk n t) (tb : Nat) (name key : List UInt8) (W : World) (F : Nat → Prop) (hT : TreeRo W F f tp n b T) (hG : Lg W F) (htb : Ro W F (pts tb (.cells (List.toArray [.pointer (some ⟨c,0,none⟩),.string (str name)]) 107 (0,0)))) (hS : St W F [chR c f b T (Nt t) X] W) :
  Calls Tryz.prog 17 #[.pointer (some ⟨tb,0,none⟩),.string (str key)] W (Ret fun v w => v = .bool (okE (Zbu t name key)) ∧ ∃ X',(∀ x ∈ X,x ∈ X') ∧ St W F [chR c f b T (Nt t) X'] w) := by
 refine Zab Tryz.func17 rfl Tryz.ntmps17 rfl ?_
 repeat (first|refine Yd0 ?_|refine Yee ?_|refine Yd1 ?_|refine Yab ?_)
 obtain ⟨_,hcc,hr1,hw,hbk⟩ := hS.call [true]
 refine Zaa _ rfl rfl rfl rfl rfl (Z2p ht tb name key _ _ (hT.mono hw) (hG.mono hw) (hw _ htb) hcc) ?_
 rintro v w ⟨X2,hX2,hS,hR⟩
 replace hS := hbk hS
 clear hbk hw hcc hr1
 cases hg : Zbu t name key with
 | error e =>
  rw [hg] at hR
  obtain ⟨he,rfl⟩ := hR
  repeat (first|refine Yd0 ?_|(refine X_id ?_;first|refine Yaf ?_|refine Yag ?_|refine Ya1 ?_|refine Ybh ?_|refine Yao (fun _ hS _ => ?_)|refine Yar (fun _ _ hS _ => ?_))|refine Yed ?_|refine Yd2 ?_)
  exact ⟨rfl,X2,hX2,hS.took⟩
 | ok x =>
  rw [hg] at hR
  obtain ⟨cs,rfl,hM⟩ := hR
  obtain ⟨a1,c1,a2,c2,rows,rfl,_⟩ := hM.lit
  repeat (first|refine Yd0 ?_|(refine X_id ?_;first|refine Yaf ?_|refine Yag ?_|refine Ya1 ?_|refine Ybi ?_|refine Yao (fun _ hS _ => ?_)|refine Yar (fun _ _ hS _ => ?_))|refine Yed ?_|refine Yd2 ?_)
  exact ⟨rfl,X2,hX2,hS.took⟩
end
end Cr
namespace Cr
open Go Go.Proofs
set_option maxRecDepth 100000
set_option maxHeartbeats 16000000
attribute [local irreducible] Calls

end Cr
namespace Cr
open Go Go.Proofs
set_option maxRecDepth 100000
set_option maxHeartbeats 16000000
attribute [local irreducible] Calls

theorem Zvu : Zcs [] = zero64 := by simp [Zcs,zero64]
theorem Zgv : zero64.length = 64 := by simp [zero64]
theorem Z1t (rd fs : List Int) {dat : List (List UInt8)} {n nb : Nat} (hd : dat.length = 1 + n + nb) (hz : ∀ i,i < n → dat.getD (1 + i) [] = zero64) : Enc rd fs (Zby dat [(0,Zce rd fs n)]) n nb [] := by
 have hg : ∀ k,k < dat.length → (Zby dat [(0,Zce rd fs n)]).getD k [] = if k = 0 then Zce rd fs n else dat.getD k [] := fun k hk => by
  rw [Zc1 _ _ _ hk (fun v hv => by rw [List.mem_singleton] at hv; rw [hv]; exact Int.le_refl _),Zdn]
  by_cases h : k = 0
  ·subst h; simp [Zcg]
  ·rw [if_neg h,if_neg (by simp only; omega)]; simp [Zcg]
 refine ⟨by rw [Zat]; exact hd,by rw [hg 0 (by omega),if_pos rfl],fun k hk => by simp [Zas] at hk,by simp [Zas],fun i hi => ?_,fun x hx => by simp at hx,fun x hx => by simp at hx,by simp [Zau]⟩
 rw [hg _ (by omega),if_neg (by omega),hz i hi]
 rfl
theorem Z0o (n : Nat) : tabOf [] n = List.replicate n none := by
 apply List.ext_getElem
 ·simp [tabOf]
 ·intro i h1 h2
  simp [tabOf,getA]
theorem Z1s (lp p j m n nb : Nat) (dat : List (List UInt8)) (rd fs : List Int) (W : World) (F : Nat → Prop) (hG : Gl W F rd fs) (hd : dat.length = 1 + n + nb) (h1 : 1 ≤ n) (h4 : n ≤ 400) (hnb : 1 ≤ nb) (hj : 2 ≤ j) (hm : (m : Int) < last)
  (h0 : dat.getD 0 [] = zero64) (hz : ∀ i,i < n → dat.getD (1 + i) [] = zero64) (hS : St W F [qlog lp p j m dat] W) :
  Calls Tryz.prog 38 #[.pointer (some ⟨lp,0,none⟩),.int .i64 (n : Nat)] W (Ret fun v w => ∃ tp,v = .tuple #[.pointer (some ⟨tp,0,none⟩),.int .i64 0] ∧ St W F [itab rd fs tp lp p j (m + 1) n nb (List.replicate n none)] w) := by
 have hqr : ∀ w rs,St W F (qlog lp p j m dat :: rs) w → Rd w (qlog lp p j m dat) := fun w rs h => h.rd (List.mem_cons_self ..)
 have hrd := fun w rs (h : St W F (qlog lp p j m dat :: rs) w) => Z21 lp p j m dat 0 w (hqr _ _ h) (by omega)
 rw [h0] at hrd
 have heq := fun w a c p h1 h2 => Zsg a (some ⟨p,0,none⟩) 64 64 c 64 zero64 zero64 w h1 h2 Zgv Zgv
 rw [decide_eq_true rfl] at heq
 refine Zab Tryz.func38 rfl Tryz.ntmps38 rfl ?_
 repeat (first|refine Yd0 ?_|refine Yaf ?_|refine Yag ?_|refine Ybr ?_|refine Yem ?_|refine Yab ?_)
 refine Zae _ rfl rfl rfl rfl rfl hS (may_ lp p j m n dat _ (hqr _ _ hS) h1 h4 (by omega)) ?_
 rintro _ w rfl hS
 repeat (first|refine Yd0 ?_|refine Yaf ?_|refine Yag ?_|refine Ybb ?_|refine Yeb ?_|refine Yd8 ?_)
 refine Zaa _ rfl rfl rfl rfl rfl (hrd _ _ hS) ?_
 rintro _ w ⟨a,c,rfl,hc,hS'⟩
 replace hS := hS.plus hS'
 clear hS'
 repeat (first|refine Yd0 ?_|refine Yaf ?_|refine Yag ?_|refine Ya1 ?_|refine Ybd ?_|refine Yeb ?_|refine Yab ?_)
 refine Zaa _ rfl rfl rfl rfl rfl (Zmx none 0 [] _ (Zl0 _ _)) ?_
 rintro _ w ⟨q,rfl,hS'⟩
 replace hS := hS.plus hS'
 clear hS'
 rw [Zvu] at hS
 repeat (first|refine Yd0 ?_|(refine X_id ?_;first|(refine Zaa 57 rfl rfl rfl rfl rfl (heq _ a c q (hS.rd (by simp)) (hS.rd (by simp))) ?_;rintro _ _ ⟨rfl,rfl⟩)|refine Yaf ?_|refine Ybb ?_)|refine Yeb ?_|refine Yab ?_)
 refine Zaa _ rfl rfl rfl rfl rfl (Z0m n rd fs _ (hG.mono fun r hr => (hr.rd hS).ro)) ?_
 rintro _ w ⟨q2,rfl,hS'⟩
 replace hS := hS.plus hS'
 clear hS'
 repeat (first|refine Yaa ?_|refine Ybk ?_|refine Ybf (fun _ _ hS _ => ?_))
 rename_i bw _ _
 obtain ⟨_,hc4,hr4,hw4,hbk4⟩ := hS.call [false,false,false,false,true]
 have hck : Zb3 [((0 : Int),Zce rd fs n)] = 0 := by
  have : (Zce rd fs n).length = 64 := Zbl _
  simp [Zb3,badW,Zba,this]
 refine Zaa _ rfl rfl rfl rfl rfl (Zrm lp p j m dat (some ⟨bw,0,none⟩) 1 [⟨0,⟨some ⟨q2,0,none⟩,64,Zce rd fs n⟩⟩] rd fs _ _ (hG.mono hw4) ⟨?_,fun v hv => ?_⟩ (by simp) hm hck ?_ hc4) ?_
 ·have h := (hr4 (own 185 2 (some ⟨bw,0,none⟩) 1 [.int .i64 0,.slice (some ⟨q2,0,none⟩) 64 64]) (by simp)).own_row
  have e : (List.flatMap Wr.cells [⟨0,⟨some ⟨q2,0,none⟩,64,Zce rd fs n⟩⟩]) = [.int .i64 0,.slice (some ⟨q2,0,none⟩) 64 64] := by
   have : (Zce rd fs n).length = 64 := Zbl _
   simp [Wr.cells,this]
  rw [e]; exact h
 ·rw [List.mem_singleton] at hv
  rw [hv]
  exact hr4 (bytes (some ⟨q2,0,none⟩) (Zce rd fs n)) (by simp)
 ·simp [hasM,Wr.data]; omega
 rintro _ w (⟨hfull,_,_⟩ | ⟨_,rfl,hS⟩)
 ·simp only [List.length_cons,List.length_nil] at hfull; omega
 replace hS := hbk4 hS
 clear hc4 hr4 hw4 hbk4
 repeat (first|refine Yd0 ?_|refine Yaf ?_|refine Yag ?_|refine Ybd ?_|refine Yeb ?_|refine Yab ?_)
 refine Zeo (Value.int .i64) rfl rfl rfl hS (fun r w hS => ?_)
 repeat (first|refine Yd0 ?_|refine Yag ?_|refine Ybk ?_|refine Ya6 (fun _ _ hS _ => ?_)|refine Yah ?_|refine Yeo ?_)
 rename_i tp _ _
 refine ⟨tp,rfl,?_⟩
 have h := (hS.bagNil).took (out := [Zhw tp lp n r,mapq (Value.int .i64) r [],bag [],qlog lp p j (m + 1) (Zby dat (List.map Wr.data [⟨0,⟨some ⟨q2,0,none⟩,64,Zce rd fs n⟩⟩]))])
 exact St.shutItab (A := []) (dat := Zby dat [(0,Zce rd fs n)]) ⟨Z0o n,Z1t rd fs hd hz,h1,h4,hnb⟩ h
end Cr
namespace Cr
open Go Go.Proofs
set_option maxRecDepth 100000
set_option maxHeartbeats 16000000
attribute [local irreducible] Calls

end Cr
namespace Cr
open Go Go.Proofs
set_option maxRecDepth 100000
set_option maxHeartbeats 16000000
attribute [local irreducible] Calls

end Cr
namespace Cr
open Go Go.Proofs
set_option maxRecDepth 100000
set_option maxHeartbeats 16000000
attribute [local irreducible] Calls

theorem St.sorted {W : World} {F : Nat → Prop} {rs : List Res} {w : World} {T : TypeId} {b c : Nat} {P : List Int} (Q : List Int) (hQ : Q.length = P.length) (hpos : 0 < P.length) (n : Nat) (os : Array Obj) (hS : St W F (own T 1 (some ⟨b,0,none⟩) c (ints .i64 P) :: rs) w) :
  St W F (own T 1 (some ⟨b,0,none⟩) c (ints .i64 Q) :: rs) (Sort.grow (Sort.putRow (Value.int .i64) (Sort.ahead w n) b 0 Q.toArray) os) := by
 obtain ⟨g,⟨g1,g2,hown,hrest,hdj,hun⟩,s⟩ := hS
 obtain ⟨hle,hcm,⟨rfl,_⟩ | ⟨b',cells,hbe,rfl,hcz,ht⟩⟩ := hown
 ·rw [Nat.zero_mul,ints_length] at hle; omega
 ·obtain rfl : b = b' := by simpa using hbe
  have hb : w.heap[b]? = some (.cells cells T (0,0)) := s.agrees b _ (by rw [hun,Zal]; rfl)
  have hS2 : St W F (pts b (.cells cells T (0,0)) :: rs) w := ⟨g,⟨_,g2,rfl,hrest,hdj,hun⟩,s⟩
  have u : SetBlock w (Sort.putRow (Value.int .i64) (Sort.ahead w n) b 0 Q.toArray) b (.cells (Sort.putCells (Value.int .i64) 0 Q.toArray cells) T (0,0)) := by
   refine ⟨by simp,?_,fun k hk => ?_,rfl,rfl,rfl⟩
   ·simp only [Sort.putRow,Sort.mapBlock,Sort.heap_ahead]
    rw [Array.getElem?_modify,if_pos rfl,hb]; rfl
   ·simp only [Sort.putRow,Sort.mapBlock,Sort.heap_ahead]
    rw [Array.getElem?_modify,if_neg (Ne.symm hk)]
  have hS3 := hS2.set u
  have hbel : RowKit.Below (Sort.putRow (Value.int .i64) (Sort.ahead w n) b 0 Q.toArray).heap.size (Sort.putRow (Value.int .i64) (Sort.ahead w n) b 0 Q.toArray) (Sort.grow (Sort.putRow (Value.int .i64) (Sort.ahead w n) b 0 Q.toArray) os) :=
   ⟨rfl,rfl,rfl,by simp [Sort.grow],fun k hk => by
    simp only [Sort.grow]
    rw [Array.getElem?_append_left hk]⟩
  refine (hS3.below hbel).head fun h hh => ?_
  have hPl : P.length ≤ cells.size := by rw [ints_length] at hle; omega
  have key := Za2 (T := T) (e := 1) (c := c) (b := b) (l := (Sort.putCells (Value.int .i64) 0 Q.toArray cells).toList) (cs := ints .i64 Q) (by simp [Sort.putCells,hcz]) hcm (by
   apply List.ext_getElem?
   intro k
   rw [List.getElem?_take,ints_length]
   by_cases hk : k < Q.length
   ·rw [if_pos hk]
    simp only [Sort.putCells,Array.toList_mapIdx,List.getElem?_mapIdx]
    have hkc : k < cells.toList.length := by simp; omega
    rw [List.getElem?_eq_getElem hkc]
    simp [ints,hk]
   ·rw [if_neg hk,List.getElem?_eq_none (by rw [ints_length]; omega)])
  exact key h (by simpa using hh)
theorem St.ownHolds {W : World} {F : Nat → Prop} {rs : List Res} {w : World} {T b c : Nat} {P : List Int} (hS : St W F (own T 1 (some ⟨b,0,none⟩) c (ints .i64 P) :: rs) w) (hpos : 0 < P.length) : Sort.Holds (Value.int .i64) w b 0 P.toArray ∧ b < w.heap.size := by
 obtain ⟨g,⟨g1,g2,hown,hrest,hdj,hun⟩,s⟩ := hS
 obtain ⟨hle,hcm,⟨rfl,_⟩ | ⟨b',cells,hbe,rfl,hcz,ht⟩⟩ := hown
 ·rw [Nat.zero_mul,ints_length] at hle; omega
 ·obtain rfl : b = b' := by simpa using hbe
  have hb : w.heap[b]? = some (.cells cells T (0,0)) := s.agrees b _ (by rw [hun,Zal]; rfl)
  refine ⟨fun j hj => ?_,Zbx hb⟩
  have hj : j < P.length := by simpa using hj
  rw [Nat.zero_add]
  refine ⟨?_,frozen_of_row w b j cells T hb⟩
  rw [cell_of_row w b j cells T (0,0) hb]
  have h1 := congrArg (fun l => l[j]?) ht
  simp only [List.getElem?_take,ints_length,hj,if_true] at h1
  rw [ints_get hj] at h1
  have e : P.toArray[j]! = P.getD j 0 := by
   rw [getElem!_pos _ j (by simpa using hj)]
   simp [List.getD_eq_getElem?_getD,hj]
  rw [e]
  simpa using h1
theorem Z3l (l bx r : Nat) (A : AV) (T : TypeId) (w : World) (W : World) (F : Nat → Prop) (S : List Int → List Res) (hm : Ro W F (mapq (Value.int .i64) r A.vals)) (hbx : Ro W F (pts bx (.cells #[.map (some r)] T)))
  (hstep : ∀ (P : List Int) (k : Int) (it : Nat) (o : Obj) (w : World),P.length < A.length → St W F (pts it o :: S P) w → ∃ rc : Loop,rc.params.size = 1 ∧ w.heap[l]? = some (.loop rc) ∧
   RoundIn Fence.wide 0 Tryz.prog l rc.fn ((rc.params.zip #[.int .i64 k]).foldl (fun tmps (t,a) => tmps.setIfInBounds t a) rc.tmps) rc.assign rc.body w (Ret fun v w' => v = .bool true ∧ St W F (pts it o :: S (P ++ [k])) w'))
  (hS : St W F (S []) w) :
  CallsIn Fence.wide 0 Tryz.prog 247 #[.func (.yield l) #[] #[],.pointer (some ⟨bx,0,none⟩)] w (Ret fun _ w' => ∃ P it o,P.Perm (Zas A) ∧ St W F (pts it o :: S P) w') := by
 refine callsIn_wide.2 ?_
 obtain ⟨es,clock,hes,hst,hmp⟩ := hm.openMap
 refine Zab Tryz.func247 rfl Tryz.ntmps247 rfl ?_
 repeat (first|refine Yaa ?_|refine Yd1 ?_)
 refine X_yl (Zar rfl rfl ((cell_of_row _ bx 0 #[.map (some r)] T (0,0) (hbx.rd hS).pts).trans rfl)) rfl rfl ?_
 repeat (first|refine Yaa ?_)
 refine Zly rfl rfl (hmp.rd hS) rfl rfl hS (fun it w hS _ => ?_)
 repeat (first|refine Yac ?_|refine Yal ?_|refine Yab ?_)
 refine Zak (α := Array Nat × List Int) (fun _ => [(0,.func (.yield l) #[] #[]),(5,.pointer (some ⟨it,0,none⟩))])
  (fun z w => (z.2.map (Value.int .i64) ++ (Zc0 es z.1).map (·.key)).Perm (es.toList.map (·.key)) ∧ St W F (pts it (.mapIter (some r) clock z.1 clock) :: S z.2) w) (fun z => (Zc0 es z.1).length) (#[],[]) ⟨rfl,rfl,trivial⟩ ⟨by rw [Zjx]; exact List.Perm.refl _,hS⟩ ?_
 clear hS
 rintro ⟨seen,P⟩ w ⟨hp,hS⟩
 simp only at hp hS ⊢
 have hek : es.toList.map (·.key) = (Zas A).map (Value.int .i64) := by
  have e1 : es.toList.map (·.key) = (kvs es).map (·.1) := by simp [kvs,Function.comp_def]
  rw [e1,hes]
  simp [AV.vals,Zas,Function.comp_def]
 repeat (first|refine Yaa ?_|refine Yd1 ?_)
 refine Zpo rfl rfl hst (hmp.rd hS) rfl rfl hS (fun h0 => ?_) (fun e he w hS => ?_)
 ·repeat (first|refine Yd0 ?_|refine Ya1 ?_|refine Yae ?_|refine Ya8 ?_|refine Yai ?_|refine Yab ?_|refine Ya9 ?_|refine Yba ?_|refine Ybs ?_)
  rw [h0,List.map_nil,List.append_nil,hek] at hp
  have hp2 := hp.map (fun v => match v with | Value.int _ i => i | _ => 0)
  simp only [List.map_map,Function.comp_def,List.map_id'] at hp2
  exact ⟨P,it,_,hp2,hS⟩
 ·have hel : e ∈ es.toList := (List.mem_filter.1 he).1
  have hstep2 := Zlg hst he
  obtain ⟨x,hxA,hk,hv⟩ := Zsj hes hel
  have hlt : (Zc0 es (seen.push e.born)).length < (Zc0 es seen).length := by rw [hstep2.length_eq]; simp
  have hp3 : ((P ++ [x.1]).map (Value.int .i64) ++ (Zc0 es (seen.push e.born)).map (·.key)).Perm (es.toList.map (·.key)) := by
   refine List.Perm.trans ?_ hp
   rw [List.map_append,List.append_assoc]
   refine List.Perm.append_left _ ?_
   have := (hstep2.map (·.key)).symm
   rw [List.map_cons,hk] at this
   exact this
  repeat (first|refine Yd0 ?_|refine Ya1 ?_|refine Yd4 ?_|refine Yab ?_)
  refine X_yl (Zs0 rfl rfl hst hel hS.has (hmp.rd hS).pts) rfl rfl ?_
  rw [hk]
  iterate 12 (first | (refine G_id ?_; first | refine Zpr ?_ | refine Zfl rfl rfl ?_) | (refine X_id ?_; first | refine X_yl (Zcn rfl rfl) rfl rfl ?_ | refine X_yl (Zbq rfl rfl) rfl rfl ?_ | refine X_yl (Zem rfl rfl) rfl rfl ?_) | (refine C_id ?_; first | refine Zc4 ?_ | refine Zav ?_) | (refine E_id ?_; first | refine Zdv ?_))
  have hPl : P.length < A.length := by
   have h1 := hp3.length_eq
   rw [hek] at h1
   simp [Zas] at h1
   omega
  obtain ⟨rc,hps,hl,hr⟩ := hstep P x.1 it _ w hPl hS
  refine Zq2 rfl rfl rfl rfl rfl rfl hl (by rw [hps]; rfl) hr ?_
  rintro v w' ⟨rfl,hS⟩
  repeat (first|refine Yd0 ?_|refine Ybb ?_|refine Yak ?_|refine Yai ?_|refine Yd8 ?_)
  exact Zaf (z := (seen,P)) (seen.push e.born,P ++ [x.1]) ⟨rfl,rfl,trivial⟩ ⟨hp3,hS⟩ hlt
theorem Fr.round1 {σ : Env} {N : Nat} {tm : Array Value} (hsz : tm.size = N) (h : ∀ n v,look σ n = some v → tm[n]? = some v) (l : Nat) {a : Nat} (x : Value) (ha : a < N) :
  Fr ((a,x) :: σ) N ⟨[],some l⟩ { tmps := (#[a].zip #[x]).foldl (fun tmps (t,v) => tmps.setIfInBounds t v) tm,defers := [] } := by
 have := (Fr.round (σ := σ) (N := N) hsz h l).put ha x
 simpa [Act.put] using this
def seqR (b : Nat) (P : List Int) : Res := fun h => ∃ a c,P.length ≤ c ∧ Sep [pts b (.cells #[.slice a P.length c] 64),own 3 1 a c (ints .i64 P)] h
theorem St.openSeq {W : World} {F : Nat → Prop} {b : Nat} {P : List Int} {rs : List Res} {w : World} (hS : St W F (seqR b P :: rs) w) : ∃ a c,P.length ≤ c ∧ St W F (pts b (.cells #[.slice a P.length c] 64) :: own 3 1 a c (ints .i64 P) :: rs) w := by
 obtain ⟨h,⟨h1,h2,⟨a,c,hc,hs⟩,hr,hd,hu⟩,s⟩ := hS
 exact ⟨a,c,hc,h,Sep.append_mk hs hr hd hu,s⟩
theorem St.shutSeq {W : World} {F : Nat → Prop} {b c : Nat} {a : Option Addr} {P : List Int} {rs : List Res} {w : World} (hc : P.length ≤ c) (hS : St W F (pts b (.cells #[.slice a P.length c] 64) :: own 3 1 a c (ints .i64 P) :: rs) w) : St W F (seqR b P :: rs) w :=
 St.shutR (rs' := [pts b (.cells #[.slice a P.length c] 64),own 3 1 a c (ints .i64 P)]) hS fun _ hh => ⟨a,c,hc,hh⟩
theorem Zt8 (bx r : Nat) (A : AV) (T : TypeId) (W : World) (hm : Rd W (mapq (Value.int .i64) r A.vals)) (hbx : Rd W (pts bx (.cells #[.map (some r)] T))) (hAl : A.length ≤ 1000) :
  Calls Tryz.prog 270 #[.slice none 0 0,.func (.func 247) #[] #[.pointer (some ⟨bx,0,none⟩)]] W (Ret fun v w => ∃ P a c,v = .slice a P.length c ∧ P.length ≤ c ∧ P.Perm (Zas A) ∧ St W noF [own 3 1 a c (ints .i64 P)] w) := by
 have hmo := hm.ro
 have hbo := hbx.ro
 have hS := St.start W
 refine Zab Tryz.func270 rfl Tryz.ntmps270 rfl ?_
 repeat (first|refine Yd0 ?_|refine Yee ?_|refine Ya6 (fun _ _ hS _ => ?_)|refine Yd3 ?_|refine Yab ?_)
 rename_i b2 _ _
 have hS := hS.own_none 3 1 none
 have hS : St W noF [seqR b2 []] _ := (hS.pick [1,0]).shutSeq (Nat.le_refl _)
 refine Zgu (first := []) (captured := [.pointer (some ⟨bx,0,none⟩)])
  (fun l rr j w => j = none ∧ ∃ P it o lo,P.Perm (Zas A) ∧ St W noF [pts l lo,pts rr (.deferred (some [])),pts it o,seqR b2 P] w) rfl rfl hS ?_ ?_ ?_
 ·intro Aa B hA hB fn tm l rr w1 htm hlook hS
  refine Zfh (Z3l l bx r A T w1 W noF (fun P => [pts l (.loop (recd fn tm #[7] Aa B rr .ready none)),pts rr (.deferred (some [])),seqR b2 P]) hmo hbo ?_ hS) ?_
  ·intro P k it o w hPl hS
   refine ⟨_,rfl,hS.has (b := l),?_⟩
   show RoundIn Fence.wide 0 Tryz.prog l fn ((#[7].zip _).foldl _ tm) Aa B w _
   refine Zp6 (Fr.round1 (a := 7) htm hlook l (.int .i64 k) (by decide)) ?_
   refine C_eq hA ?_
   repeat (first|refine Yd0 ?_|refine Yag ?_|refine Yad ?_)
   refine Zno (hS.has (b := l)) (fun w hset => ?_)
   replace hS := hS.upd hset
   refine C_eq hB ?_
   obtain ⟨a,c,hc,hS⟩ := (hS.pick [3,0,0,0]).openSeq
   repeat (first|refine Yaa ?_|refine Yaf ?_|refine Yap ?_|refine Ybf (fun _ _ hS _ => ?_)|refine Yad ?_|refine Yal ?_)
   refine Zap (m := 1) rfl rfl rfl rfl rfl hS (by rw [ints_length,Nat.mul_one]) hc ((hS.rd (List.mem_cons_self ..)).own_row) (by simp) (by simp [Value.oneCell']) (by omega) (by simp only [maxLen]; omega) (fun a' c' w hS hc' _ => ?_)
   repeat (first|refine Yd0 ?_|refine Yao (fun _ hS _ => ?_)|refine Yat ?_)
   refine Zko (hS.has (b := l)) (fun w hset => ⟨_,rfl,rfl,?_⟩)
   replace hS := hS.upd hset
   have h := hS.took (out := [pts b2 (.cells #[.slice a' (P.length + 1) c'] 64),own 3 1 a' c' (ints .i64 P ++ [.int .i64 k]),pts it o,pts l (.loop (recd fn tm #[7] Aa B rr .ready none)),pts rr (.deferred (some []))])
   have h2 : St W noF [seqR b2 (P ++ [k]),pts it o,pts l (.loop (recd fn tm #[7] Aa B rr .ready none)),pts rr (.deferred (some []))] w := St.shutSeq (b := b2) (P := P ++ [k]) (a := a') (c := c') (by simpa using hc') (by rw [Zjz,List.length_append]; exact h)
   exact h2.pick [1,1,1,0]
  ·rintro _ w3 ⟨P,it,o,hp,hS⟩
   exact ⟨_,_,by simp,hS.has (b := l),fun w4 hset => ⟨rfl,P,it,o,_,hp,(hS.upd hset).pick [1,1,0,0]⟩⟩
 ·rintro l rr w4 ⟨_,P,it,o,lo,hp,hS⟩
  obtain ⟨a,c,hc,hS⟩ := (hS.pick [3,0,0,0]).openSeq
  repeat (first|refine Yd0 ?_|refine Yag ?_|refine Yap ?_|refine Yed ?_|refine Yab ?_|refine Znn rfl ?_|refine Yat ?_)
  refine Zs3 (.inl rfl) hS.has (fun w hset => ?_)
  replace hS := hS.upd hset
  repeat (first|refine Yam ?_)
  exact ⟨P,a,c,rfl,hc,hp,hS.took⟩
 ·rintro l rr c w4 hJ
  cases hJ.1
theorem Zy4 (bx r : Nat) (A : AV) (T : TypeId) (W : World) (hm : Rd W (mapq (Value.int .i64) r A.vals)) (hbx : Rd W (pts bx (.cells #[.map (some r)] T))) (hAl : A.length ≤ 1000) :
  Calls Tryz.prog 245 #[.func (.func 247) #[] #[.pointer (some ⟨bx,0,none⟩)]] W (Ret fun v w => ∃ P a c,v = .slice a P.length c ∧ P.length ≤ c ∧ P.Perm (Zas A) ∧ St W noF [own 3 1 a c (ints .i64 P)] w) := by
 have hmo := hm.ro
 have hbo := hbx.ro
 have hS := St.start W
 refine Zab Tryz.func245 rfl Tryz.ntmps245 rfl ?_
 repeat (first|refine Yd0 ?_|refine Yee ?_|refine Yd1 ?_|refine Yab ?_)
 refine Zaa _ rfl rfl rfl rfl rfl (Zt8 bx r A T _ (hmo.rd hS) (hbo.rd hS) hAl) ?_
 rintro _ w ⟨P,a,c,rfl,hc,hp,hS'⟩
 replace hS := hS.plus hS'
 clear hS'
 repeat (first|refine Yd0 ?_|refine Yag ?_|refine Yah ?_|refine Yd2 ?_)
 exact ⟨P,a,c,rfl,hc,hp,hS.took⟩
theorem Z2s (a : Option Addr) (c : Nat) (w : World) : Calls Tryz.prog 246 #[.slice a 0 c] w (Ret fun _ w' => w' = w) :=
 (Tryz.slices_Sort_int_none a c w).mono fun _ _ h => ⟨_,h.1,h.2⟩
theorem Z2r (b c : Nat) (P : List Int) (w : World) (hH : Sort.Holds (Value.int .i64) w b 0 P.toArray) (hlt : b < w.heap.size) (hl : P.length < 4611686018427387904) :
  Calls Tryz.prog 246 #[.slice (some ⟨b,0,none⟩) P.length c] w (Ret fun _ w' => ∃ n os,w' = Sort.grow (Sort.putRow (Value.int .i64) (Sort.ahead w n) b 0 (P.mergeSort fun x y => decide (x ≤ y)).toArray) os) :=
 (Tryz.slices_Sort_int b 0 c P w hH hlt hl).mono fun _ _ h => ⟨_,h.1,h.2⟩
theorem Z0t (bx r : Nat) (A : AV) (T : TypeId) (W : World) (hm : Rd W (mapq (Value.int .i64) r A.vals)) (hbx : Rd W (pts bx (.cells #[.map (some r)] T))) (hAl : A.length ≤ 1000) :
    Calls Tryz.prog 215 #[.func (.func 247) #[] #[.pointer (some ⟨bx,0,none⟩)]] W (Ret fun v w => ∃ P a c,v = .slice a P.length c ∧ P.length ≤ c ∧ P.Perm (Zas A) ∧ P.Pairwise (· ≤ ·) ∧ St W noF [own 3 1 a c (ints .i64 P)] w) := by
  have hmo := hm.ro
  have hbo := hbx.ro
  have hS := St.start W
  refine Zab Tryz.func215 rfl Tryz.ntmps215 rfl ?_
  repeat (first|refine Yd0 ?_|refine Yee ?_|refine Yd1 ?_|refine Yab ?_)
  refine Zaa _ rfl rfl rfl rfl rfl (Zy4 bx r A T _ (hmo.rd hS) (hbo.rd hS) hAl) ?_
  rintro _ w ⟨P,a,c,rfl,hc,hp,hS'⟩
  replace hS := hS.plus hS'
  clear hS'
  repeat (first|refine Yd0 ?_|refine Yee ?_|refine Yd1 ?_|refine Yab ?_)
  by_cases h0 : P.length = 0
  · obtain rfl : P = [] := List.length_eq_zero_iff.1 h0
    refine Zaa _ rfl rfl rfl rfl rfl (Z2s a c _) ?_
    rintro v w' rfl
    repeat (first|refine Yd0 ?_|refine Yee ?_|refine Yed ?_|refine Yd2 ?_)
    exact ⟨[],a,c,rfl,hc,hp,List.Pairwise.nil,hS.took⟩
  · obtain ⟨b,rfl⟩ := hS.ownBase (by intro e; exact h0 (by simpa [ints] using congrArg List.length e))
    obtain ⟨hH,hlt⟩ := hS.ownHolds (by omega)
    have hlen := hp.length_eq
    rw [show (Zas A).length = A.length by simp [Zas]] at hlen
    refine Zaa _ rfl rfl rfl rfl rfl (Z2r b c P _ hH hlt (by omega)) ?_
    rintro v w' ⟨n,os,rfl⟩
    have hPm : (P.mergeSort fun x y => decide (x ≤ y)).length = P.length := List.length_mergeSort _
    replace hS := hS.sorted (P.mergeSort fun x y => decide (x ≤ y)) hPm (by omega) n os
    repeat (first|refine Yd0 ?_|refine Yee ?_|refine Yed ?_|refine Yd2 ?_)
    refine ⟨P.mergeSort fun x y => decide (x ≤ y),_,c,by rw [hPm],by rw [hPm]; exact hc,(List.mergeSort_perm _ _).trans hp,?_,hS.took⟩
    have := List.pairwise_mergeSort (le := fun x y => decide (x ≤ y)) (fun a b c h1 h2 => by simp only [decide_eq_true_eq] at h1 h2 ⊢; omega) (fun a b => by simp only [Bool.or_eq_true,decide_eq_true_eq]; omega) P
    exact this.imp (fun h => by simpa using h)
theorem Z3d (r : Nat) (W : World) : Calls Tryz.prog 216 #[.map (some r)] W (Ret fun v w => ∃ bx,v = .func (.func 247) #[] #[.pointer (some ⟨bx,0,none⟩)] ∧ St W noF [pts bx (.cells #[.map (some r)] 186)] w) := by
 have hS := St.start W
 refine Zab Tryz.func216 rfl Tryz.ntmps216 rfl ?_
 repeat (first|refine Yd0 ?_|refine Yag ?_|refine Yci ?_|refine Ya6 (fun _ _ hS _ => ?_)|refine Yed ?_|refine Yd2 ?_)
 exact ⟨_,rfl,hS.took⟩
def Znv (T : Tb) : List Int := ((List.range T.length).filter fun i => (T.getD i none).isSome).map fun i => ((i : Nat) : Int)
theorem Znu (T : Tb) : (Znv T).Pairwise (· < ·) := by
  unfold Znv
  rw [List.pairwise_map]
  exact (List.pairwise_lt_range.sublist List.filter_sublist).imp (fun h => by omega)
theorem Zk7 : ∀ {P Q : List Int},P.Pairwise (· < ·) → Q.Pairwise (· < ·) → (∀ x,x ∈ P ↔ x ∈ Q) → P = Q
  | [],[],_,_,_ => rfl
  | [],y :: Q,_,_,h => absurd ((h y).2 (List.mem_cons_self ..)) (List.not_mem_nil)
  | x :: P,[],_,_,h => absurd ((h x).1 (List.mem_cons_self ..)) (List.not_mem_nil)
  | x :: P,y :: Q,hP,hQ,h => by
    have hP' := List.pairwise_cons.1 hP
    have hQ' := List.pairwise_cons.1 hQ
    have e : x = y := by
      rcases List.mem_cons.1 ((h x).1 (List.mem_cons_self ..)) with e | hx
      · exact e
      · rcases List.mem_cons.1 ((h y).2 (List.mem_cons_self ..)) with e | hy
        · exact e.symm
        · have h1 := hQ'.1 x hx
          have h2 := hP'.1 y hy
          omega
    subst e
    congr 1
    refine Zk7 hP'.2 hQ'.2 fun z => ⟨fun hz => ?_,fun hz => ?_⟩
    · rcases List.mem_cons.1 ((h z).1 (List.mem_cons_of_mem _ hz)) with e | hz'
      · subst e; exact absurd (hP'.1 z hz) (by omega)
      · exact hz'
    · rcases List.mem_cons.1 ((h z).2 (List.mem_cons_of_mem _ hz)) with e | hz'
      · subst e; exact absurd (hQ'.1 z hz) (by omega)
      · exact hz'
section
variable {rd fs : List Int} {tp lp p j m n nb : Nat} {T : Tb}
theorem Zs5 {A : AV} {dat : List (List UInt8)} (h : TabOk rd fs n nb T A dat) {P : List Int} (hp : P.Perm (Zas A)) (hs : P.Pairwise (· ≤ ·)) : P = Znv T := by
  have hn : P.Nodup := hp.nodup_iff.2 (by rw [← Zol]; exact h.enc.nodup)
  refine Zk7 ?_ (Znu T) fun x => ?_
  · have := hs.and hn
    exact this.imp (fun h => by omega)
  · rw [hp.mem_iff]
    have hat := h.at_ x
    have hk : x ∈ Zas A ↔ (atT T x).isSome = true := by
      rw [← hat,Option.isSome_map]
      have := getA_none (k := x) (l := A)
      cases hg : getA x A with
      | none => simp [this.1 hg]
      | some v =>
        simp only [Option.isSome_some,iff_true]
        exact Decidable.byContradiction fun q => by rw [this.2 q] at hg; cases hg
    rw [hk]
    unfold Znv atT
    constructor
    · intro hx
      split at hx
      · rename_i h0
        have hlt : x.toNat < T.length := by
          rcases Nat.lt_or_ge x.toNat T.length with h | h
          · exact h
          · rw [List.getD_eq_getElem?_getD,List.getElem?_eq_none h] at hx; cases hx
        exact List.mem_map.2 ⟨x.toNat,List.mem_filter.2 ⟨List.mem_range.2 hlt,hx⟩,by omega⟩
      · cases hx
    · intro hx
      obtain ⟨i,hi,rfl⟩ := List.mem_map.1 hx
      rw [if_pos (by omega),Int.toNat_natCast]
      exact (List.mem_filter.1 hi).2
theorem Z44 {r : Nat} {A : AV} {dat : List (List UInt8)} (W : World) (hI : ItabRd W rd fs tp lp p j m n nb T r A dat) : Calls Tryz.prog 155 #[.pointer (some ⟨tp,0,none⟩)] W (Ret fun v w => ∃ a c,v = .slice a (Znv T).length c ∧ (Znv T).length ≤ c ∧ St W noF [own 3 1 a c (ints .i64 (Znv T))] w) := by
 have hc := hI.t.ro
 have hmo := hI.mp.ro
 have hAl : A.length ≤ 1000 := by
  have h1 := hI.ok.enc.nodup
  have h2 := hI.ok.enc.keys
  have h4 := hI.ok.n4
  have h3 : (Zas A.ents).length ≤ ((List.range n).map fun i => ((i : Nat) : Int)).length := h1.length_le_of_subset fun k hk => by
   have := h2 k hk
   exact List.mem_map.2 ⟨k.toNat,List.mem_range.2 (by omega),by omega⟩
  simp [Zas,AV.ents] at h3
  omega
 have hS := St.start W
 refine Zab Tryz.func155 rfl Tryz.ntmps155 rfl ?_
 repeat (first|refine Yd0 ?_|(refine X_id ?_;first|refine Yaf ?_|refine Yag ?_|refine Yau ?_|refine Yan ?_|refine Ybr ?_|refine Yca ?_)|refine Yeb ?_|refine Yab ?_)
 refine Zaa _ rfl rfl rfl rfl rfl (Z3d r _) ?_
 rintro _ w ⟨bx,rfl,hS'⟩
 replace hS := hS.plus hS'
 clear hS'
 repeat (first|refine Yaa ?_)
 refine Zaa _ rfl rfl rfl rfl rfl (Z0t bx r A _ _ (hmo.rd hS) (hS.rd (List.mem_cons_self ..)) hAl) ?_
 rintro _ w ⟨P,a,c,rfl,hc2,hp,hs,hS'⟩
 replace hS := hS.plus hS'
 clear hS'
 obtain rfl := Zs5 hI.ok hp hs
 repeat (first|refine Yd0 ?_|refine Yag ?_|refine Yah ?_|refine Yd2 ?_)
 exact ⟨a,c,rfl,hc2,hS.took⟩
end
end Cr
namespace Cr
open Go Go.Proofs
set_option maxRecDepth 100000
set_option maxHeartbeats 8000000
attribute [local irreducible] Calls

section
open Go.MapKept
variable {α : Type} [DecidableEq α]
variable {P : Program} {o : Oper} {σ : Env} {w : World} {x y : Operand} {t kt et : TypeId} {N : Nat} {ds : Md} {K : Env → World → Prop} {mk : α → Value} {dd : TypeDesc}
theorem Zw4 {r : Nat} {L : List (α × Value)} {k : α} {v : Value} {W : World} {F : Nat → Prop} {rs : List Res} {z : Operand} (ho : o.op = .insert t x y z) (hx : ev σ x = some (.map (some r))) (hy : ev σ y = some (mk k)) (hz : ev σ z = some v) [hu : Und P t (.map kt et)] [hkt : Und P kt dd] [hK : Key dd mk]
  (hd : o.dst = none) (hS : St W F (mapq mk r L :: rs) w) (hk : ∀ w',St W F (mapq mk r (setM k v L) :: rs) w' → K σ w') : X P o N ds σ w K := ⟨fun f ha K' Q' hKK => by
 obtain ⟨es,clock,hes,hst,hS2⟩ := hS.openMap
 have hb : w.heap[r]? = some (.map es clock) := hS2.get
 obtain ⟨q,g1,g2,_⟩ := Zct (hk := hK) k L es.toList 0 hes
 have hc := run_checkKey (P := P) (w := w) hkt.und (hK.isKey k) false 9999
 have hf := run_findKey (P := P) (w := w) hkt.und g1
 have hg : (getObj r).run P w = .ok (.map es clock) w := by simp [getObj,Sem.run,hb]
 have hset : ∀ o',(setObj r o').run P w = .ok () { w with heap := w.heap.setIfInBounds r o' } := fun o' => run_setObj_map o' hb
 unfold Oper.wp
 have key : ∃ es' clock',(execOp f.eval o).run P w = .ok .skip { w with heap := w.heap.setIfInBounds r (.map es' clock') } ∧ kvs es' = (setM k v L).map (fun x => (mk x.1,x.2)) ∧ StampOk es' clock' := by
  cases hq : q with
  | none =>
   subst hq
   refine ⟨es.push { key := mk k,val := v,born := clock },clock + 1,?_,?_,Zk5 hst _ _⟩
   ·simp only [execOp,ho,ha.eval hx,ha.eval hy,ha.eval hz,Instr.mapUpdate,Sem.run_bind,run_underlying hu.und,hg,hc,hf,hset,Result.andThen_ok,Sem.run_pure]
   ·rw [Zg3 (by rw [← g2]; rfl)]
    have hes' : es.toList.map (fun e => (e.key,e.val)) = L.map (fun x => (mk x.1,x.2)) := hes
    simp [kvs,hes']
  | some p =>
   obtain ⟨j,u⟩ := p
   subst hq
   obtain ⟨g4,g5,g6⟩ := Zg2 (v := v) L es.toList 0 hes j u g1
   simp only [Nat.sub_zero] at g4 g6
   have hek : ((es[j]?).map (·.key)).getD (mk k) = mk k := by
    rw [← Array.getElem?_toList,g6]; rfl
   refine ⟨es.modify j fun e => { e with key := mk k,val := v },clock,?_,?_,Zih hst _ _ (fun _ => rfl)⟩
   ·simp only [execOp,ho,ha.eval hx,ha.eval hy,ha.eval hz,Instr.mapUpdate,Sem.run_bind,run_underlying hu.und,hg,hc,hf,hset,Result.andThen_ok,Sem.run_pure,hek,Instr.keyThatStays,hK.bits,if_true]
   ·simpa [kvs,Array.toList_modify] using g4
 obtain ⟨es',clock',hexec,hes',hst'⟩ := key
 rw [hexec]
 have u := Zaz (o' := .map es' clock') hb
 refine hKK _ _ _ (?_ : Fr σ N ds _) (hk _ ((hS2.set u).head fun h hh => ⟨es',clock',hes',hst',hh⟩))
 rw [hd]; exact ha⟩
end
section
open Go.MapKept
variable {α : Type}
variable {P : Program} {o : Oper} {σ : Env} {w : World} {x : Operand} {t kt et : TypeId} {mk : α → Value}
theorem Zww {r : Nat} {L : List (α × Value)} (ho : o.op = .call { callee := .builtin .len,args := #[x],argTypes := #[t] }) (hx : ev σ x = some (.map (some r))) [h : Und P t (.map kt et)] (hr : Rd w (mapr mk r L)) : Yl P o σ w (.int .i64 L.length) := ⟨fun N ds f ha => by
 obtain ⟨g,⟨es,clock,hes,rfl⟩,hag⟩ := hr
 have hb : w.heap[r]? = some (.map es clock) := hag r _ (Zal _ _)
 have hg : (getObj r).run P w = .ok (.map es clock) w := by simp [getObj,Sem.run,hb]
 have hl : es.size = L.length := by
  have := congrArg List.length hes
  simpa using this
 simp [execOp,ho,resolve,invoke,builtin,Builtin.len_,ha.eval hx,run_underlying h.und,goInt,hg,hl]⟩
end
theorem Zhv {rd fs : List Int} {tp lp p j m n nb : Nat} {T : Tb} {W : World} {F : Nat → Prop} (h : Ro W F (itab rd fs tp lp p j m n nb T)) : TabOf W F tp n (atT T) := by
 refine ⟨fun w hw => ?_,fun w no hw => ?_⟩
 ·obtain ⟨r,A,dat,hI⟩ := (hw _ h).itab
  exact Z3a w hI
 ·obtain ⟨r,A,dat,hI⟩ := (hw _ h).itab
  cases hT : atT T no with
  | none => exact Zyr no hT w hI
  | some x => exact Zyq no x hT w hI
def rootNd : Nd := ⟨⟨1,493,0,0⟩,wrD []⟩
theorem Ztc (W : World) (a : Option Addr) (c : Nat) : Calls Tryz.prog 154 #[.slice a 0 c] W (Ret fun v w => v = .bool true ∧ St W noF [] w) := by
 have hS := St.start W
 refine Zab Tryz.func154 rfl Tryz.ntmps154 rfl ?_
 repeat (first|refine Yd0 ?_|refine Yev ?_|refine Yd3 ?_|refine Yab ?_)
 refine Zak (α := Unit) (fun _ => [(6,.int .i64 0),(7,.int .i64 0)]) (fun _ w => St W noF [] w) (fun _ => 0) () ⟨rfl,rfl,trivial⟩ hS ?_
 clear hS
 rintro _ w hS
 repeat (first|refine Yd0 ?_|refine Yag ?_|refine Ya3 ?_|refine Yd9 ?_|refine Yez ?_)
 exact ⟨rfl,hS⟩
theorem Zta {rd fs : List Int} {tp lp p j m n nb : Nat} {T : Tb} (W : World) (hIt : Ro W noF (itab rd fs tp lp p j m n nb T)) (hG : Lg W noF) (h0 : atT T 0 = some rootNd) (hu : (Znv T).length = 1) :
  Calls Tryz.prog 89 #[.pointer (some ⟨tp,0,none⟩)] W (Ret fun v w => v = .bool true ∧ St W noF [] w) := by
 have hS := St.start W
 have htab := Zhv hIt
 have hrl : rootNd.data.length = 2 := by show (wrD []).length = 2; rw [Zpt]; rfl
 have hrd : rdD rootNd.data = [] := Zu1 (l := []) fun x hx => by cases hx
 refine Zab Tryz.func89 rfl Tryz.ntmps89 rfl ?_
 repeat (first|refine Yd0 ?_|refine Yag ?_|refine Yd1 ?_|refine Yab ?_)
 refine Zeo (Value.int .i64) rfl rfl rfl hS (fun mr w hS => ?_)
 repeat (first|refine Yaa ?_)
 refine Zw4 (mk := Value.int .i64) (k := 0) rfl rfl rfl rfl rfl hS (fun w hS => ?_)
 repeat (first|refine Yd0 ?_|refine Yee ?_|refine Ybf (fun _ _ hS _ => ?_)|refine Yd3 ?_|refine Yab ?_)
 have hS1 : St W noF [mapq (Value.int .i64) mr [((0 : Int),Value.bool true)]] _ := hS.drop
 rename_i lb _ _
 have hS0 : St W noF [own 3 1 (some ⟨lb,0,none⟩) 1 [.int .i64 0],mapq (Value.int .i64) mr [((0 : Int),Value.bool true)]] _ := hS
 clear hS hS1
 refine Zak (α := Nat × Option Addr × Nat × Nat) (fun z => [(0,.pointer (some ⟨tp,0,none⟩)),(3,.map (some mr)),(4,.slice z.2.1 z.2.2.1 z.2.2.2),(5,.int .i64 (z.1 : Nat))])
  (fun z w => (z = (0,some ⟨lb,0,none⟩,1,1) ∧ St W noF [own 3 1 (some ⟨lb,0,none⟩) 1 [.int .i64 0],mapq (Value.int .i64) mr [((0 : Int),Value.bool true)]] w) ∨ (z = (1,none,0,0) ∧ St W noF [mapq (Value.int .i64) mr [((0 : Int),Value.bool true)]] w)) (fun z => z.2.2.1) (0,some ⟨lb,0,none⟩,1,1) ⟨rfl,rfl,rfl,rfl,trivial⟩ (.inl ⟨rfl,hS0⟩) ?_
 clear hS0
 rintro z w (⟨rfl,hS⟩ | ⟨rfl,hS⟩)
 ·simp only
  repeat (first|refine Yd0 ?_|refine Yaf ?_|refine Yag ?_|refine Yav ?_|refine Ybx ?_|refine Yd4 ?_|refine Yab ?_)
  refine Zak (α := Nat) (fun i => [(0,.pointer (some ⟨tp,0,none⟩)),(3,.map (some mr)),(5,.int .i64 (0 : Nat)),(6,.slice none 0 0),(22,.slice (some ⟨lb,0,none⟩) 1 1),(23,.int .i64 (1 : Nat)),(24,.int .i64 (i : Nat))]) (fun i w => i ≤ 1 ∧ St W noF [own 3 1 (some ⟨lb,0,none⟩) 1 [.int .i64 0],mapq (Value.int .i64) mr [((0 : Int),Value.bool true)]] w) (fun i => 1 - i) 0 ⟨rfl,rfl,rfl,rfl,rfl,rfl,rfl,trivial⟩ ⟨Nat.zero_le _,hS⟩ ?_
  clear hS
  rintro i w ⟨hi,hS⟩
  by_cases hi0 : i = 0
  ·subst hi0
   have hr := (hS.rd (List.mem_cons_self ..)).own_row
   have hx : ([Value.int .i64 0] : List Value)[0]? = some (.int .i64 0) := rfl
   repeat (first|refine Yd0 ?_|refine Ye0 ?_|refine Yd4 ?_|refine Yab ?_)
   clear hr
   refine Zaa _ rfl rfl rfl rfl rfl (htab.get _ 0 fun r h => h.rd hS) ?_
   rintro v w hV
   rw [h0] at hV
   obtain ⟨a,q,rfl,hq,hS'⟩ := hV
   replace hS := hS.plus hS'
   clear hS'
   repeat (first|refine Yeg ?_|(refine X_id ?_;first|refine Yaf ?_|refine Yag ?_|refine Yan ?_|refine Ya1 ?_|refine Ya4 ?_|refine Ybd ?_|refine X_yl (Zsw rfl rfl rfl) rfl rfl ?_|refine X_yl (Zpi rfl rfl rfl) rfl rfl ?_|refine Yap ?_|refine Yao (fun _ hS _ => ?_)|refine Yar (fun _ _ hS _ => ?_))|refine Yeb ?_|refine Yab ?_)
   refine Zaa _ rfl rfl rfl rfl rfl (Zzj a rootNd.data q _ ((hS.rd (r := own 5 1 a q (bv rootNd.data)) (by simp)).own_row.ro) hq (by rw [hrl]; decide) (hG.at_ hS)) ?_
   rintro _ w ⟨nb,nc,rfl,hS'⟩
   replace hS := hS.plus hS'
   clear hS'
   rw [hrd] at hS ⊢
   simp only [List.length_nil]
   repeat (first|refine Yd0 ?_|refine Yag ?_|refine Yae ?_|refine Yab ?_)
   refine Zao (.s 0 (.s 2 (.s 3 (.h 1 (.h 4 (.s 5 (.s 6 (.s 7 (.h 8 (.s 9 (.s 10 (.s 11 (.s 12 (.s 13 (.s 14 (.s 15 (.s 16 (.s 17 (.s 18 (.s 19 .nil))))))))))) .no)))) .no) .no)))) mixed (by kernel_rfl) rfl ?_
   have hS := hS.drew
   repeat (first|(refine Zad ?_;first|refine Ya0 ?_|refine Ybj ?_|refine Ybm ?_|refine Yas ?_))
   refine Zaa _ rfl rfl rfl rfl rfl (Zjh nb [] nc _ (Zge _ _ _) ⟨by decide,fun _ h => (by cases h)⟩ (hG.at_ hS)) ?_
   rintro _ w ⟨b3,q3,rfl,hq3,hS'⟩
   replace hS := hS.plus hS'
   clear hS'
   repeat (first|(refine Zad ?_;first|refine Yas ?_)|(refine Zac ?_;first|refine Yaz ?_))
   refine Zaa _ rfl rfl rfl rfl rfl (Zwk b3 a (wrD []).length rootNd.data.length q3 q (wrD []) rootNd.data _ ((hS.rd (r := own 5 1 b3 q3 (bv (wrD []))) (by simp)).own_row) ((hS.rd (r := own 5 1 a q (bv rootNd.data)) (by simp)).own_row) rfl rfl) ?_
   rintro _ _ ⟨rfl,rfl⟩
   rw [decide_eq_true (show wrD [] = rootNd.data from rfl)]
   repeat (first|(refine Zad ?_;first|refine Ya0 ?_|refine Zaj rfl rfl (fun _ => Zi8 rfl rfl) rfl rfl ?_|refine Yce ?_|refine Ydb ?_)|(refine Zac ?_;first|refine Yaz ?_))
   refine Zaa _ rfl rfl rfl rfl rfl (Ztc _ nb nc) ?_
   rintro _ w ⟨rfl,hS'⟩
   replace hS := hS.plus hS'
   clear hS'
   repeat (first|refine Yd0 ?_|refine Yaf ?_|refine Yav ?_|refine Yex ?_|refine Yab ?_|(refine Zad ?_;first|refine Yay ?_|refine Ya0 ?_|refine Ycf ?_|refine Yce ?_|refine Zcb rfl rfl rfl rfl (fun _ => Zho rfl rfl rfl) rfl rfl ?_|refine Zcb rfl rfl rfl rfl (fun _ => Zi8 rfl rfl) rfl rfl ?_|refine Ydw ?_|refine Zcb rfl rfl rfl rfl (fun _ => Znc rfl rfl rfl (by omega)) rfl rfl ?_|refine Ycj ?_)|(refine Zac ?_;first|refine Yaz ?_))
   have hS : St W noF [own 3 1 (some ⟨lb,0,none⟩) 1 [.int .i64 0],mapq (Value.int .i64) mr [((0 : Int),Value.bool true)]] _ := hS.took
   refine Zak (α := Unit) (fun _ => [(0,.pointer (some ⟨tp,0,none⟩)),(3,.map (some mr)),(5,.int .i64 (0 : Nat)),(6,.slice none 0 0),(22,.slice (some ⟨lb,0,none⟩) 1 1),(23,.int .i64 (1 : Nat)),(24,.int .i64 (0 : Nat)),(70,.int .i64 0),(71,.int .i64 0)]) (fun _ w => St W noF [own 3 1 (some ⟨lb,0,none⟩) 1 [.int .i64 0],mapq (Value.int .i64) mr [((0 : Int),Value.bool true)]] w) (fun _ => 0) () ⟨rfl,rfl,rfl,rfl,rfl,rfl,rfl,rfl,rfl,trivial⟩ hS ?_
   clear hS
   rintro _ w hS
   repeat (first|refine Yd0 ?_|refine Yaf ?_|refine Ya3 ?_|refine Yax ?_|refine Yec ?_|refine Yab ?_|refine Ya9 ?_|refine Yba ?_|refine Yat ?_)
   exact Zaf (z := 0) 1 ⟨rfl,rfl,rfl,rfl,rfl,rfl,rfl,trivial⟩ ⟨Nat.le_refl _,hS⟩ (by omega)
  ·obtain rfl : i = 1 := by omega
   repeat (first|refine Yd0 ?_|refine Yaf ?_|refine Yag ?_|refine Ya3 ?_|refine Yax ?_|refine Yec ?_|refine Yab ?_|refine Ya9 ?_|refine Yba ?_|refine Yat ?_)
   exact Zaf (z := (0,some ⟨lb,0,none⟩,1,1)) (1,none,0,0) ⟨rfl,rfl,rfl,rfl,trivial⟩ (.inr ⟨rfl,hS.drop⟩) (by simp)
 ·simp only
  repeat (first|refine Yd0 ?_|refine Yaf ?_|refine Yav ?_|refine Ybu ?_|refine Yec ?_|refine Yd6 ?_)
  refine X_yl (Zww (mk := Value.int .i64) (L := [((0 : Int),Value.bool true)]) rfl rfl ((hS.rd (List.mem_cons_self ..)).mapq_r)) rfl rfl ?_
  repeat (first|refine Yaa ?_|refine Yaf ?_)
  obtain ⟨r,A,dat,hI⟩ := (hIt.rd hS).itab
  refine Zaa _ rfl rfl rfl rfl rfl (Z44 _ hI) ?_
  rintro _ w ⟨ua,uc,rfl,_,hS'⟩
  replace hS := hS.plus hS'
  clear hS'
  rw [hu]
  repeat (first|refine Yd0 ?_|refine Yag ?_|refine Yav ?_|refine Yb8 ?_|refine Yah ?_|refine Yd2 ?_)
  exact ⟨rfl,hS.drops⟩
end Cr
