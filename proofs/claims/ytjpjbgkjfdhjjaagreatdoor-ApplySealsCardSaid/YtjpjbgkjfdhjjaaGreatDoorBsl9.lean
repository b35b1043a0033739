/-
  Package codec: a reader takes a number and the byte behind it.
  Package codec,lists in lists too: a reader reads a list,given that it reads values.
  Package codec: a reader reads a value,lists in lists too: the parse in plain words (pvM) is what it does.
  Package codec: Next and Decode: what bytes say (decM).
  Package codec,lists in lists too: values made and copied.
  Package codec,lists in lists too: what is wrong with a value (chkM).
  Package codec: values made: Text,Int,Of; a leaf copied.
  Package codec: a writer; leaves and lists of leaves are written as encL and encT say.
  Package codec,lists in lists too: a right value is written as encM says; Encode.
  Layer 8 (tree): a directory's bytes written and read.
  Names: what package path and the document call one; path.sign.
-/
import Derived.Test.YtjpjbgkjfdhjjaaGreatDoorBsl8
import Derived.Test.YtjpjbgkjfdhjjaaGreatDoorBsl5
import Derived.Test.YtjpjbgkjfdhjjaaGreatDoorBsl3
import Derived.Test.YtjpjbgkjfdhjjaaGreatDoorBsl4
namespace Cr
open Go Go.Proofs
set_option maxRecDepth 100000
set_option maxHeartbeats 64000000
attribute [local irreducible] Calls

def Z7m (p : Nat) (a : Option Addr) (s : List UInt8) (c : Nat) (W : World) (F : Nat → Prop) (r : Option (Int × List UInt8)) (v : Value) (w : World) : Prop :=
 match r with
 | some (n,t) => v = .int .i64 n ∧ ∃ i,i ≤ s.length ∧ s.drop i = t ∧ St W F [Rdr p a s.length c i 0] w
 | none => v = .int .i64 0 ∧ ∃ i e,i ≤ s.length ∧ e ≠ 0 ∧ St W F [Rdr p a s.length c i e] w
instance : Und Tryz.prog 376 (.interface #[("Error", 382)]) := ⟨Tryz.underlying376⟩
theorem Lg.at_ {W : World} {F : Nat → Prop} {rs : List Res} {w : World} (H : Lg W F) (hS : St W F rs w) : Lg w noF := by
 obtain ⟨h1,tp,p,h2⟩ := H
 exact ⟨(h1.rd hS).ro,tp,p,(h2.rd hS).ro⟩
theorem Z8t (d : List UInt8) : ∀ a,(∀ c ∈ d,dig c = true) → (∃ u,Lib.parseUint10 a d = .ok u) ∨ Lib.parseUint10 a d = .range := by
 induction d with
 | nil => intro a _; exact .inl ⟨a,by rw [Lib.parseUint10]⟩
 | cons c d ih =>
  intro a hd
  rw [Lib.parseUint10,if_pos (dig_iff.1 (hd c (List.mem_cons_self ..)))]
  split
  ·exact .inr rfl
  ·split
   ·exact .inr rfl
   ·exact ih _ fun x hx => hd x (List.mem_cons_of_mem _ hx)
theorem Z1b {d : List UInt8} (h0 : d ≠ []) (hd : ∀ c ∈ d,dig c = true) : (∃ u,Lib.parseMag d = .ok u) ∨ Lib.parseMag d = .range := by
 unfold Lib.parseMag
 rw [if_neg h0];exact Z8t d 0 hd
theorem Zuv {below : Bool} {l : List UInt8} (h : ¬ badN (numS below l)) : (∃ v,Lib.atoiAll (numS below l) = .ok v) ∨ Lib.atoiAll (numS below l) = .range := by
 have key : ∀ (neg : Prop) [Decidable neg] (u : Nat),(∃ v,(if ¬ neg ∧ 9223372036854775808 ≤ u then Lib.NumEnd.range else if neg ∧ 9223372036854775808 < u then .range else .ok (if neg then -(u : Int) else u)) = .ok v) ∨
   (if ¬ neg ∧ 9223372036854775808 ≤ u then Lib.NumEnd.range else if neg ∧ 9223372036854775808 < u then .range else .ok (if neg then -(u : Int) else u)) = .range := fun neg _ u => by
  split
  ·exact .inr rfl
  ·split
   ·exact .inr rfl
   ·exact .inl ⟨_,rfl⟩
 obtain ⟨d,hd,hs | ⟨hs,_⟩⟩ := Zii below l
 ·rw [hs] at h ⊢
  cases d with
  | nil => exact absurd (.inl rfl) h
  | cons c d =>
   have hc := Z20 (hd c (List.mem_cons_self ..))
   unfold Lib.atoiAll
   simp only
   rw [if_neg hc.2];rcases Z1b (by simp) hd with ⟨u,hu⟩ | hu
   ·rw [hu]; exact key _ u
   ·rw [hu]; exact .inr rfl
 ·rw [hs] at h ⊢
  unfold Lib.atoiAll
  simp only
  rw [if_pos (.inr rfl)];rcases Z1b (fun hn => h (.inr (.inl (by rw [hn])))) hd with ⟨u,hu⟩ | hu
  ·rw [hu]; exact key _ u
  ·rw [hu]; exact .inr rfl
theorem Zpg (p : Nat) (a : Option Addr) (s : List UInt8) (c : Nat) (hsc : s.length ≤ c) (i : Nat) (below : Bool) (k : UInt8) (W : World) (F : Nat → Prop) (hS : St W F [Rdr p a s.length c i 0] W) (hb : Ro W F (bytes a s)) (hl : s.length ≤ 1099511627776) (hi : i ≤ s.length) (hG : Lg W F) :
  Calls Tryz.prog 246 #[.pointer (some ⟨p,0,none⟩),.bool below,.int .u8 (k.toNat : Int)] W (Ret fun v w => Z7m p a s c W F (num below k (s.drop i)) v w) := by
 have hdg := Z3n p a s c hsc i 0 below
 have hT := Zhh below (s.drop i)
 have hTl := Z2z below (s.drop i)
 have hsy := Zuv (below := below) (l := s.drop i)
 unfold num
 generalize numS below (s.drop i) = T at hdg hT hTl hsy ⊢;rw [List.length_drop] at hTl;have hz := Zci T
 have hTl' : i + T.length ≤ s.length := by omega
 rw [List.drop_drop];refine Zab Tryz.func246 rfl Tryz.ntmps246 rfl ?_
 repeat (first|refine Yeb ?_|refine Yeq ?_|refine Yec ?_|refine Yab ?_)
 obtain ⟨_,hc,hr,hw,hbk⟩ := hS.call [true]
 refine Zaa _ rfl rfl rfl rfl rfl (hdg _ _ hc (hw _ hb) hl hi) ?_
 rintro _ w ⟨rfl,hS⟩
 replace hS := hbk hS
 clear hc hr hw hbk;repeat (first|refine Yeb ?_|refine Yaf ?_|refine Yag ?_|refine Yau ?_|refine Yan ?_|refine Yec ?_|refine Yab ?_)
 have hm := Ziq p a s.length c (i + T.length) 0
 by_cases hlt : i + T.length < s.length
 ·simp only [decide_eq_true hlt] at hm
  refine Zac 241 rfl rfl rfl rfl rfl hS (hm _ (hS.rd (List.mem_cons_self ..))) ?_
  rintro _ w rfl hS
  have hdr := List.drop_eq_getElem_cons hlt
  generalize hx0 : s[i + T.length] = x at hdr;have hx : s[i + T.length]? = some x := by rw [List.getElem?_eq_getElem hlt,hx0]
  rw [hdr];simp only
  have hq := is_ p a s c (i + T.length) 0 k
  refine Ze9 rfl rfl ?_
  refine X_yl (Zjl rfl rfl) rfl rfl ?_
  refine Zp2 ?_
  refine Zcq ?_
  refine Zbk rfl ?_
  refine Zfd ?_
  refine Zcq ?_
  refine Zc1 ?_
  refine Zc1 ?_
  refine Zti (α := Bool) (fun b => [(0,.pointer (some ⟨p,0,none⟩)),(2,.int .u8 (k.toNat : Int)),(7,.string (str T)),(57,.bool b)]) (fun b w => (b = true ↔ badN T ∨ x ≠ k) ∧ St W F [Rdr p a s.length c (i + T.length) 0] w) ?_ ?_
  ·by_cases h1 : T = []
   ·repeat (first|refine Yac ?_|refine Yaa ?_|refine Ybf ?_|refine Yc1 ?_|refine Yaf ?_|refine Ya9 ?_|refine Ycy ?_|refine Yad ?_)
    exact Zbw true ⟨rfl,rfl,rfl,rfl,trivial⟩ ⟨⟨fun _ => .inl (.inl h1),fun _ => rfl⟩,hS⟩
   ·by_cases h2 : T = [45]
    ·repeat (first|refine Yac ?_|refine Yaa ?_|refine Yav ?_|refine Ybf ?_|refine Yc1 ?_|(refine X_id ?_;first|refine Yaf ?_|refine Ya9 ?_|refine Ya7 ?_|refine Ycy ?_|refine Ycq ?_)|refine Yad ?_)
     exact Zbw true ⟨rfl,rfl,rfl,rfl,trivial⟩ ⟨⟨fun _ => .inl (.inr (.inl h2)),fun _ => rfl⟩,hS⟩
    ·by_cases h3 : T = [45,48]
     ·repeat (first|refine Yac ?_|refine Yaa ?_|refine Yav ?_|refine Ybf ?_|refine Yc1 ?_|(refine X_id ?_;first|refine Yaf ?_|refine Ya9 ?_|refine Ya7 ?_|refine Ycy ?_|refine Ycq ?_)|refine Yad ?_)
      exact Zbw true ⟨rfl,rfl,rfl,rfl,trivial⟩ ⟨⟨fun _ => .inl (.inr (.inr (.inl h3))),fun _ => rfl⟩,hS⟩
     ·obtain ⟨t,r,ht⟩ : ∃ t r,T = t :: r := by
       cases T with
       | nil => exact absurd rfl h1
       | cons t r => exact ⟨t,r,rfl⟩
      have ht0 : T[(0 : Int).toNat]? = some t := by rw [ht]; rfl
      have hth : T.head? = some t := by rw [ht]; rfl
      by_cases h4 : (t.toNat : Int) = 48 ∧ 1 < T.length
      ·obtain ⟨h4,h5⟩ := h4
       repeat (first|refine Yac ?_|refine Yaa ?_|refine Yav ?_|refine Ybf ?_|refine Yc1 ?_|(refine X_id ?_;first|refine Yaf ?_|refine Ya9 ?_|refine Ya7 ?_|refine Ycr ?_|refine Ybg ?_|refine Ybx ?_|refine Ycq ?_|refine Yc4 ?_)|refine Yad ?_)
       refine Zbw true ⟨rfl,rfl,rfl,rfl,trivial⟩ ⟨⟨fun _ => .inl (.inr (.inr (.inr (.inl ⟨?_,h5⟩)))),fun _ => rfl⟩,hS⟩
       rw [hth,show t = 48 from UInt8.toNat_inj.1 (by have : (48 : UInt8).toNat = 48 := rfl; omega)]
      ·by_cases h6 : 2 < T.length ∧ List.take (2 - 0) (List.drop 0 T) = [45,48]
       ·obtain ⟨h6,h7⟩ := h6
        have h4' : ¬ (t.toNat : Int) = 48 := fun h => h4 ⟨h,by omega⟩
        repeat (first|refine Yfb ?_|(refine X_id ?_;first|refine Yaf ?_|refine Ya9 ?_|refine Ya7 ?_|refine Ycr ?_|refine Ybh ?_|refine Ybx ?_|refine Ycy ?_|refine Ycq ?_|refine Yc4 ?_|refine Yd0 ?_)|refine Yad ?_)
        exact Zbw true ⟨rfl,rfl,rfl,rfl,trivial⟩ ⟨⟨fun _ => .inl (.inr (.inr (.inr (.inr ⟨h6,by simpa using h7⟩)))),fun _ => rfl⟩,hS⟩
       ·have hgood : ¬ badN T := by
         rintro (h | h | h | ⟨h,h'⟩ | ⟨h,h'⟩)
         ·exact h1 h
         ·exact h2 h
         ·exact h3 h
         ·rw [hth] at h
          exact h4 ⟨by rw [Option.some.inj h]; rfl,h'⟩
         ·exact h6 ⟨h,by simpa using h'⟩
        have hcase : (¬ (t.toNat : Int) = 48 ∧ 2 < T.length ∧ ¬ List.take (2 - 0) (List.drop 0 T) = [45,48]) ∨ (¬ (t.toNat : Int) = 48 ∧ ¬ 2 < T.length) ∨ ((t.toNat : Int) = 48 ∧ ¬ 1 < T.length) := by
         by_cases q : (t.toNat : Int) = 48
         ·exact .inr (.inr ⟨q,fun h => h4 ⟨q,h⟩⟩)
         ·by_cases q2 : 2 < T.length
          ·exact .inl ⟨q,q2,fun h => h6 ⟨q2,h⟩⟩
          ·exact .inr (.inl ⟨q,q2⟩)
        have hlen : 1 ≤ T.length := by rw [ht]; simp
        clear ht hth;by_cases hxk : s[i + T.length]? = some k
        ·have hxe : x = k := by rw [hx] at hxk; exact Option.some.inj hxk
         simp only [decide_eq_true hxk] at hq
         rcases hcase with ⟨q1,q2,q3⟩ | ⟨q1,q2⟩ | ⟨q1,q2⟩
         all_goals
          repeat (first|refine Yfb ?_|(refine X_id ?_;first|(refine Zac 243 rfl rfl rfl rfl rfl hS (hq _ (hS.rd (List.mem_cons_self ..)) (hb.rd hS)) ?_;rintro _ _ rfl hS)|refine Yaf ?_|refine Yau ?_|refine Yan ?_|refine Ya9 ?_|refine Ya7 ?_|refine Ybb ?_|refine Ycr ?_|refine Ybg ?_|refine Ybh ?_|refine Ybx ?_|refine Ybr ?_|refine Ycq ?_|refine Yc4 ?_|refine Yd0 ?_)|refine Yad ?_)
          exact Zbw false ⟨rfl,rfl,rfl,rfl,trivial⟩ ⟨⟨fun h => (Bool.noConfusion h),fun h => (h.elim hgood (fun q => q hxe)).elim⟩,hS⟩
        ·have hxe : x ≠ k := fun h => hxk (by rw [hx,h])
         simp only [decide_eq_false hxk] at hq
         rcases hcase with ⟨q1,q2,q3⟩ | ⟨q1,q2⟩ | ⟨q1,q2⟩
         all_goals
          repeat (first|refine Yfb ?_|(refine X_id ?_;first|(refine Zac 243 rfl rfl rfl rfl rfl hS (hq _ (hS.rd (List.mem_cons_self ..)) (hb.rd hS)) ?_;rintro _ _ rfl hS)|refine Yaf ?_|refine Yau ?_|refine Yan ?_|refine Ya9 ?_|refine Ya7 ?_|refine Ybo ?_|refine Ycr ?_|refine Ybg ?_|refine Ybh ?_|refine Ybx ?_|refine Ybr ?_|refine Ycq ?_|refine Yc4 ?_|refine Yd0 ?_)|refine Yad ?_)
          exact Zbw true ⟨rfl,rfl,rfl,rfl,trivial⟩ ⟨⟨fun _ => .inr hxe,fun _ => rfl⟩,hS⟩
  ·clear hS
   rintro bad w ⟨hbad,hS⟩
   cases bad with
   | true =>
    rw [if_pos (hbad.1 rfl)];repeat (first|refine Yaa ?_|refine Yaf ?_|refine Yem ?_)
    obtain ⟨_,hc,hr,hw,hbk⟩ := hS.call [true]
    refine Zaa _ rfl rfl rfl rfl rfl (Zjs p a s.length c (i + T.length) 0 3 _ _ hc) ?_
    rintro _ w ⟨rfl,hS⟩
    replace hS := hbk hS
    clear hc hr hw hbk;repeat (first|refine Yeb ?_|refine Yag ?_|refine Yep ?_|refine Yeu ?_)
    exact ⟨rfl,_,3,hTl',by decide,hS⟩
   | false =>
    have hgood : ¬ (badN T ∨ x ≠ k) := fun h => by have := hbad.2 h; cases this
    rw [if_neg hgood];have hxk : x = k := Decidable.not_not.1 fun h => hgood (.inr h)
    have hsyn := hsy (fun h => hgood (.inl h))
    repeat (first|refine Yaa ?_|refine Yaf ?_|refine Yen ?_|refine Yab ?_)
    refine Zac 274 rfl rfl rfl rfl rfl hS (Z9a T _ _ (hG.at_ hS) (by omega) hsyn) ?_
    rintro _ w ⟨n,er,rfl,hres⟩ hS
    rcases hres with ⟨hn,rfl⟩ | ⟨hn,t,pp,rfl⟩
    ·rw [hn]
     repeat (first|refine Yeb ?_|(refine X_id ?_;first|refine Yaf ?_|refine Yag ?_|refine Ya0 ?_|refine X_yl (Zrd rfl rfl) rfl rfl ?_)|refine Yen ?_|refine Yab ?_)
     obtain ⟨_,hc,hr,hw,hbk⟩ := hS.call [true]
     refine Zaa _ rfl rfl rfl rfl rfl (Zy6 p a s c (i + T.length) 0 k _ _ hc (hw _ hb) hl) ?_
     rintro _ w ⟨rfl,hS⟩
     replace hS := hbk hS
     clear hc hr hw hbk;repeat (first|refine Yeb ?_|refine Yeq ?_|refine Yep ?_|refine Yed ?_)
     rw [show Zfe s (i + T.length) 0 k = (i + T.length + 1,0) by unfold Zfe; rw [if_neg (by simp),if_neg (by simpa using hlt),if_pos (by rw [hx,hxk])]] at hS
     exact ⟨rfl,_,by omega,rfl,hS⟩
    ·rw [hn]
     repeat (first|refine Yeb ?_|(refine X_id ?_;first|refine Yaf ?_|refine Yag ?_|refine Ya0 ?_|refine X_yl (Zpp rfl rfl rfl) rfl rfl ?_)|refine Yem ?_|refine Yab ?_)
     obtain ⟨_,hc,hr,hw,hbk⟩ := hS.call [true]
     refine Zaa _ rfl rfl rfl rfl rfl (Zjs p a s.length c (i + T.length) 0 2 _ _ hc) ?_
     rintro _ w ⟨rfl,hS⟩
     replace hS := hbk hS
     clear hc hr hw hbk;repeat (first|refine Yeb ?_|refine Yag ?_|refine Yep ?_|refine Yeu ?_)
     exact ⟨rfl,_,2,hTl',by decide,hS⟩
 ·simp only [decide_eq_false hlt] at hm
  rw [List.drop_of_length_le (by omega)];repeat (first|refine Yeb ?_|(refine X_id ?_;first|(refine Zac 241 rfl rfl rfl rfl rfl hS (hm _ (hS.rd (List.mem_cons_self ..))) ?_;rintro _ _ rfl hS)|refine Yaf ?_|refine Ybo ?_)|refine Yem ?_|refine Yab ?_)
  obtain ⟨_,hc,hr,hw,hbk⟩ := hS.call [true]
  refine Zaa _ rfl rfl rfl rfl rfl (Zjs p a s.length c (i + T.length) 0 4 _ _ hc) ?_
  rintro _ w ⟨rfl,hS⟩
  replace hS := hbk hS
  clear hc hr hw hbk;repeat (first|refine Yeb ?_|refine Yag ?_|refine Yep ?_|refine Yeu ?_)
  exact ⟨rfl,_,4,hTl',by decide,hS⟩
def Z9c (p : Nat) (a : Option Addr) (s : List UInt8) (c : Nat) (W : World) (F : Nat → Prop) (r : Option (Mv × List UInt8)) (v : Value) (w : World) : Prop :=
 match r with
 | some (t,l) => ∃ cs X,v = .agg (List.toArray cs) ∧ Mrd (RX X) t cs ∧ ∃ i,i ≤ s.length ∧ s.drop i = l ∧ St W F [bag X,Rdr p a s.length c i 0] w
 | none => ∃ k n a1 n1 c1 a2 n2 c2,v = .agg (List.toArray [.int .i64 k,.int .i64 n,.slice a1 n1 c1,.slice a2 n2 c2]) ∧ ∃ i e,i ≤ s.length ∧ e ≠ 0 ∧ St W F [Rdr p a s.length c i e] w
def Z9f (p : Nat) (a : Option Addr) (s : List UInt8) (c : Nat) (W : World) (F : Nat → Prop) (r : Option (List Mv × List UInt8)) (v : Value) (w : World) : Prop :=
 match r with
 | some (x,l) => ∃ b q rows X,v = .slice b x.length q ∧ RX X b rows.flatten ∧ Mrds (RX X) x rows ∧ ∃ i,i ≤ s.length ∧ s.drop i = l ∧ St W F [bag X,Rdr p a s.length c i 0] w
 | none => ∃ b m q,v = .slice b m q ∧ ∃ i e,i ≤ s.length ∧ e ≠ 0 ∧ St W F [Rdr p a s.length c i e] w
def Zn1 (p : Nat) (a : Option Addr) (s : List UInt8) (c : Nat) (f : Nat) : Prop :=
 ∀ (i deep : Nat) (W : World) (F : Nat → Prop),i ≤ s.length → deep ≤ 9 → 2 * (s.length - i) + 1 ≤ f → Lg W F → Ro W F (bytes a s) → St W F [Rdr p a s.length c i 0] W →
  Calls Tryz.prog 212 #[.pointer (some ⟨p,0,none⟩),.int .i64 (deep : Nat)] W (Ret fun v w => Z9c p a s c W F (pvM f deep (s.drop i)) v w)
def Zyi (p : Nat) (a : Option Addr) (s : List UInt8) (c : Nat) (f : Nat) : Prop :=
 ∀ (i deep : Nat) (W : World) (F : Nat → Prop),s[i]? = some 40 → deep ≤ 9 → 2 * (s.length - (i + 1)) + 2 ≤ f → Lg W F → Ro W F (bytes a s) → St W F [Rdr p a s.length c i 0] W →
  Calls Tryz.prog 244 #[.pointer (some ⟨p,0,none⟩),.int .i64 (deep : Nat)] W (Ret fun v w => Z9f p a s c W F (if 8 < deep then none else plM f deep (s.drop (i + 1))) v w)

theorem Zv3 (f deep : Nat) : pvM f deep [] = none := by cases f <;> simp [pvM]
theorem Zzn (f deep : Nat) (l : List UInt8) (h : l.head? ≠ some 41) : plM (f + 1) deep l = match pvM f (deep + 1) l with
  | none => none
  | some (t,r') => match plM f deep r' with
   | none => none
   | some (x,r'') => some (t :: x,r'') := by
 cases l with
 | nil => rw [Zv3]; simp [plM]
 | cons c l =>
  rw [plM,if_neg (fun e => h (by rw [e]; rfl))]
  cases pvM f (deep + 1) (c :: l) with
  | none => rfl
  | some q =>
   obtain ⟨t,r'⟩ := q
   simp only
   cases plM f deep r' with
   | none => rfl
   | some q => rfl
def Z37 (top p : Nat) (a : Option Addr) (s : List UInt8) (c : Nat) (deep : Nat) (res : Option (List Mv × List UInt8)) (W : World) (F : Nat → Prop) (z : Nat × Option Addr × Nat × Nat) (w : World) : Prop :=
 (∃ f i x rows X,z.1 = f + 1 ∧ deep ≤ 8 ∧ f ≤ top ∧ z.2.2.1 = x.length ∧ x.length ≤ z.2.2.2 ∧ i ≤ s.length ∧ x.length ≤ i ∧ 2 * (s.length - i) + 2 ≤ f ∧ res = (plM f deep (s.drop i)).map (fun q => (x ++ q.1,q.2)) ∧ Mrds (RX X) x rows ∧
  St W F [own 206 4 z.2.1 z.2.2.2 rows.flatten,bag X,Rdr p a s.length c i 0] w) ∨
 (res = none ∧ ∃ i e,i ≤ s.length ∧ e ≠ 0 ∧ St W F [Rdr p a s.length c i e] w)
def Z9g (p : Nat) (a : Option Addr) (s : List UInt8) (c : Nat) (res : Option (List Mv × List UInt8)) (W : World) (F : Nat → Prop) (z : Option Addr × Nat × Nat) (w : World) : Prop :=
 (∃ i x rows X,z.2.1 = x.length ∧ s[i]? = some 41 ∧ res = some (x,s.drop (i + 1)) ∧ Mrds (RX X) x rows ∧
  St W F [own 206 4 z.1 z.2.2 rows.flatten,bag X,Rdr p a s.length c i 0] w) ∨
 (res = none ∧ ∃ i e,i ≤ s.length ∧ e ≠ 0 ∧ St W F [Rdr p a s.length c i e] w)
theorem Zzz (p : Nat) (a : Option Addr) (s : List UInt8) (c : Nat) (hl : s.length ≤ 1099511627776) (f : Nat) (hv : ∀ g,g < f → Zn1 p a s c g) : Zyi p a s c f := by
 intro i deep W F hi hd hf hG hb hS
 have hil := (List.getElem?_eq_some_iff.1 hi).1
 obtain ⟨res,hres⟩ : ∃ res,res = (if 8 < deep then none else plM f deep (s.drop (i + 1))) := ⟨_,rfl⟩
 rw [← hres];refine Zab Tryz.func244 rfl Tryz.ntmps244 rfl ?_
 repeat (first|refine Yeb ?_|refine Yeq ?_|refine Yec ?_|refine Yab ?_)
 obtain ⟨_,hc,hr,hw,hbk⟩ := hS.call [true]
 refine Zaa _ rfl rfl rfl rfl rfl (Zy6 p a s c i 0 40 _ _ hc (hw _ hb) hl) ?_
 rintro _ w ⟨rfl,hS⟩
 replace hS := hbk hS
 clear hc hr hw hbk;rw [show Zfe s i 0 40 = (i + 1,0) by unfold Zfe; rw [if_neg (by simp),if_neg (by simpa using hil),if_pos hi]] at hS
 simp only at hS
 by_cases h8 : 8 < deep
 case' pos =>
  rw [if_pos h8] at hres;repeat (first|refine Yeb ?_|refine Yaf ?_|refine Ybx ?_|refine Yem ?_|refine Yab ?_)
  obtain ⟨_,hc,hr,hw,hbk⟩ := hS.call [true]
  refine Zaa _ rfl rfl rfl rfl rfl (Zjs p a s.length c (i + 1) 0 18 _ _ hc) ?_
  rintro _ w ⟨rfl,hS⟩
  replace hS := hbk hS
  clear hc hr hw hbk;repeat (first|refine Yeb ?_|refine Yag ?_|refine Yee ?_|refine Yab ?_)
  have hI : ∃ z0,Z37 f p a s c deep res W F (z0,none,0,0) _ := ⟨0,.inr ⟨hres,_,18,hil,by decide,hS⟩⟩
 case' neg =>
  rw [if_neg h8] at hres;repeat (first|refine Yeb ?_|refine Yaf ?_|refine Yag ?_|refine Ybr ?_|refine Yfa ?_|refine Yab ?_)
  have hI : ∃ z0,Z37 f p a s c deep res W F (z0,none,0,0) _ := ⟨f + 1,.inl ⟨f,i + 1,[],[],[],rfl,by omega,Nat.le_refl _,rfl,Nat.le_refl _,hil,Nat.zero_le _,hf,by rw [hres]; cases plM f deep (s.drop (i + 1)) <;> simp,.nil,(hS.bagNil).own_none _ _ _⟩⟩
 all_goals
  obtain ⟨z0,hI⟩ := hI
  clear hS hres;refine Zbq (α := Option Addr × Nat × Nat) (fun z => [(0,.pointer (some ⟨p,0,none⟩)),(5,.slice z.1 z.2.1 z.2.2)]) (Z9g p a s c res W F) ?_ ?_
  ·refine Zaj (α := Nat × Option Addr × Nat × Nat) (fun z => [(0,.pointer (some ⟨p,0,none⟩)),(1,.int .i64 (deep : Nat)),(5,.slice z.2.1 z.2.2.1 z.2.2.2)]) (Z37 f p a s c deep res W F) (fun z => z.1) (z0,none,0,0) ⟨rfl,rfl,rfl,trivial⟩ hI ?_
   clear hI;rintro ⟨m,b,n,q⟩ w (⟨g,j,x,rows,X,hm,hd8,hgf,hn,hnq,hj,hxj,hg,hr,hM,hS⟩ | ⟨hr,j,e,hj,he,hS⟩)
   ·simp only at hm hn hnq hS
    subst hm hn
    have hrl := hM.flat
    have hq41 := is_ p a s c j 0 41
    obtain ⟨g',rfl⟩ : ∃ g',g = g' + 1 := ⟨g - 1,by omega⟩
    by_cases h41 : s[j]? = some 41
    ·simp only [decide_eq_true h41] at hq41
     repeat (first|refine Yes ?_|(refine X_id ?_;first|(refine Zac 243 rfl rfl rfl rfl rfl hS (hq41 _ (hS.rd (List.mem_cons_of_mem _ (List.mem_cons_of_mem _ (List.mem_cons_self ..)))) (hb.rd hS)) ?_;rintro _ _ rfl hS)|refine Yaf ?_|refine Yau ?_|refine Yan ?_|refine Ya9 ?_|refine Ybb ?_|refine Ybg ?_|refine Yaq ?_)|refine Yeo ?_|refine Yeh ?_)
     refine Zbw (b,x.length,q) ⟨rfl,rfl,trivial⟩ (.inl ⟨j,x,rows,X,rfl,h41,?_,hM,hS⟩)
     obtain ⟨hjl,hje⟩ := List.getElem?_eq_some_iff.1 h41
     rw [hr,List.drop_eq_getElem_cons hjl,hje,plM,if_pos rfl];simp
    ·simp only [decide_eq_false h41] at hq41
     rw [Zzn g' deep _ (by rw [List.head?_drop]; exact h41)] at hr
     repeat (first|refine Yes ?_|(refine X_id ?_;first|(refine Zac 243 rfl rfl rfl rfl rfl hS (hq41 _ (hS.rd (List.mem_cons_of_mem _ (List.mem_cons_of_mem _ (List.mem_cons_self ..)))) (hb.rd hS)) ?_;rintro _ _ rfl hS)|refine Yaf ?_|refine Yau ?_|refine Yan ?_|refine Ya9 ?_|refine Ybo ?_|refine Ybg ?_|refine Yaw ?_|refine Yaq ?_)|refine Yef ?_|refine Yab ?_)
     obtain ⟨_,hc,_,hw,hbk⟩ := hS.call [false,false,true]
     refine Zaa _ rfl rfl rfl rfl rfl (hv g' (by omega) j (deep + 1) _ _ hj (by omega) (by omega) (hG.mono hw) (hw _ hb) hc) ?_
     rintro v w hV
     cases hp : pvM g' (deep + 1) (s.drop j) with
     | none =>
      rw [hp] at hV hr;obtain ⟨k1,k2,a1,n1,c1,a2,n2,c2,rfl,j',e',hj',he',hS⟩ := hV
      replace hS := hbk hS
      clear hbk hw hc;simp only at hr
      repeat (first|refine Yaa ?_|refine Ybe (fun _ _ hS _ => ?_))
      have hnw := (hS.rd (List.mem_cons_self ..)).own_row
      refine Zas rfl rfl rfl rfl rfl hS hrl hnq hnw rfl (by simp [Value.oneCell']) (by dsimp only; omega) (by simp only [maxLen]; omega) (fun b' q' w hS hq' _ => ?_)
      repeat (first|refine Yeb ?_|refine Yag ?_|refine Yas ?_)
      exact Zae (z := (g' + 1 + 1,b,x.length,q)) (0,b',x.length + 1,q') ⟨rfl,rfl,rfl,trivial⟩ (.inr ⟨by rw [hr]; rfl,j',e',hj',he',hS.took⟩) (by simp)
     | some u =>
      obtain ⟨t,l⟩ := u
      rw [hp] at hV hr;obtain ⟨cs,Y,rfl,hMt,j',hj',hdl,hS⟩ := hV
      replace hS := hbk hS
      clear hbk hw hc;obtain ⟨a1,c1,a2,c2,rows2,rfl,_⟩ := hMt.lit
      have hlen := (Z55 g').1 _ _ _ _ hp
      rw [← hdl] at hlen hr;simp only [List.length_drop] at hlen
      simp only at hr
      repeat (first|refine Yaa ?_|refine Ybe (fun _ _ hS _ => ?_))
      have hnw := (hS.rd (List.mem_cons_self ..)).own_row
      refine Zas rfl rfl rfl rfl rfl hS hrl hnq hnw rfl (by simp [Value.oneCell']) (by dsimp only; omega) (by simp only [maxLen]; omega) (fun b' q' w hS hq' _ => ?_)
      repeat (first|refine Yeb ?_|refine Yag ?_|refine Yas ?_)
      have hS : St W F [bag X,bag Y,own 206 4 b' q' (rows.flatten ++ [.int .i64 t.kind,.int .i64 t.num,.slice a1 t.txt.length c1,.slice a2 t.lst.length c2]),Rdr p a s.length c j' 0] w := hS.took
      replace hS := hS.bagJoin
      refine Zae (z := (g' + 1 + 1,b,x.length,q)) (g' + 1,b',x.length + 1,q') ⟨rfl,rfl,rfl,trivial⟩ (.inl ⟨g',j',x ++ [t],rows ++ [[.int .i64 t.kind,.int .i64 t.num,.slice a1 t.txt.length c1,.slice a2 t.lst.length c2]],X ++ Y,rfl,hd8,by omega,by simp,by simpa using hq',hj',by simp; omega,by omega,?_,(hM.mono fun _ _ h => h.left).snoc (hMt.mono fun _ _ h => h.right),?_⟩) (by simp)
      ·rw [hr]
       cases plM g' deep (s.drop j') with
       | none => rfl
       | some q => simp
      ·rw [List.flatten_append]
       simpa using hS.took
   ·repeat (first|refine Yev ?_|(refine X_id ?_;first|refine Yaf ?_|refine Yau ?_|refine Yan ?_|refine Ya7 ?_|refine Ybh ?_|refine Yaq ?_)|refine Yeo ?_|refine Yeh ?_)
    exact Zbw (b,n,q) ⟨rfl,rfl,trivial⟩ (.inr ⟨hr,j,e,hj,he,hS⟩)
  ·clear hI
   rintro ⟨b,n,q⟩ w (⟨j,x,rows,X,hn,h41,hr,hM,hS⟩ | ⟨hr,j,e,hj,he,hS⟩)
   ·simp only at hn hS
    subst hn
    have hjl := (List.getElem?_eq_some_iff.1 h41).1
    repeat (first|refine Yaa ?_|refine Yaf ?_|refine Yec ?_)
    obtain ⟨_,hc,hr,hw,hbk⟩ := hS.call [false,false,true]
    refine Zaa _ rfl rfl rfl rfl rfl (Zy6 p a s c j 0 41 _ _ hc (hw _ hb) hl) ?_
    rintro _ w ⟨rfl,hS⟩
    replace hS := hbk hS
    clear hc hr hw hbk;rw [show Zfe s j 0 41 = (j + 1,0) by unfold Zfe; rw [if_neg (by simp),if_neg (by simpa using hjl),if_pos h41]] at hS
    simp only at hS
    repeat (first|refine Yeb ?_|refine Yeq ?_|refine Yep ?_|refine Yed ?_)
    rw [hr];have hS : St W F [own 206 4 b q rows.flatten,bag X,Rdr p a s.length c (j + 1) 0] _ := hS.took
    exact ⟨b,q,rows,_,rfl,.mem (List.mem_cons_self ..),hM.mono fun _ _ h => h.tail,j + 1,hjl,rfl,hS.bagAdd fun _ h => h.row⟩
   ·repeat (first|refine Yaa ?_|refine Yaf ?_|refine Yec ?_)
    obtain ⟨_,hc,hr,hw,hbk⟩ := hS.call [true]
    refine Zaa _ rfl rfl rfl rfl rfl (Zy5 p a s.length c j e 41 _ _ hc he) ?_
    rintro _ w ⟨rfl,hS⟩
    replace hS := hbk hS
    clear hc hr hw hbk;repeat (first|refine Yeb ?_|refine Yeq ?_|refine Yep ?_|refine Yed ?_)
    rw [hr];exact ⟨b,n,q,rfl,j,e,hj,he,hS⟩
theorem Zzk (f deep : Nat) (r : List UInt8) : pvM (f + 1) deep (40 :: r) = (if 8 < deep then none else plM f deep r).map fun q => (liM q.1,q.2) := by
 rw [pvM,if_pos rfl]
 split
 ·rfl
 ·cases plM f deep r <;> rfl
theorem Z2q (f deep : Nat) (r : List UInt8) : pvM (f + 1) deep (105 :: r) = (num true 59 r).map fun q => (nuM q.1,q.2) := by
 rw [pvM,if_neg (by decide),if_pos rfl];cases num true 59 r <;> rfl
theorem Z2p (f deep : Nat) (c : UInt8) (r : List UInt8) (h1 : ¬ c = 40) (h2 : ¬ c = 105) : pvM (f + 1) deep (c :: r) =
  (num false 58 (c :: r)).bind fun q => if q.1.toNat ≤ q.2.length then some (txM (q.2.take q.1.toNat),q.2.drop q.1.toNat) else none := by
 rw [pvM,if_neg h1,if_neg h2];cases num false 58 (c :: r) <;> rfl
theorem Zrn (p : Nat) (a : Option Addr) (n c : Nat) (i : Nat) (k : Int) (W : World) (F : Nat → Prop) (hS : St W F [Rdr p a n c i 0] W) :
  Calls Tryz.prog 242 #[.pointer (some ⟨p,0,none⟩),.int .i64 k] W (Ret fun v w => v = .tuple #[] ∧ St W F [Rdr p a n c i k] w) := Zjs p a n c i 0 k W F hS
theorem Zu9 (p : Nat) (a : Option Addr) (s : List UInt8) (c : Nat) (hsc : s.length ≤ c) (hl : s.length ≤ 1073741824) (f : Nat) (hL : Zyi p a s c f) : Zn1 p a s c (f + 1) := by
 intro i deep W F hi hd hf hG hb hS
 have hm := Ziq p a s.length c i 0
 have q40 := is_ p a s c i 0 40
 have q105 := is_ p a s c i 0 105
 refine Zab Tryz.func212 rfl Tryz.ntmps212 rfl ?_
 by_cases hlt : i < s.length
 ·simp only [decide_eq_true hlt] at hm
  have hdr := List.drop_eq_getElem_cons hlt
  generalize hx0 : s[i] = x at hdr;have hx : s[i]? = some x := by rw [List.getElem?_eq_getElem hlt,hx0]
  rw [hdr];by_cases h40 : x = 40
  ·subst h40
   simp only [decide_eq_true hx] at q40
   have hLi := hL i deep
   rw [Zzk];generalize (if 8 < deep then none else plM f deep (s.drop (i + 1))) = res at hLi ⊢;repeat (first|refine Yeb ?_|(refine X_id ?_;first|(refine Zac 241 rfl rfl rfl rfl rfl hS (hm _ (hS.rd (List.mem_cons_of_mem _ (List.mem_cons_self ..)))) ?_;rintro _ _ rfl hS)|(refine Zac 243 rfl rfl rfl rfl rfl hS (q40 _ (hS.rd (List.mem_cons_of_mem _ (List.mem_cons_self ..))) (hb.rd hS)) ?_;rintro _ _ rfl hS)|refine Yaf ?_|refine Yag ?_|refine Yau ?_|refine Yan ?_|refine Ybb ?_|refine Yar (fun _ _ hS _ => ?_))|refine Yfn ?_|refine Yab ?_)
   obtain ⟨_,hc,_,hw,hbk⟩ := hS.call [false,true]
   refine Zaa _ rfl rfl rfl rfl rfl (hLi _ _ hx hd (by omega) (hG.mono hw) (hw _ hb) hc) ?_
   rintro v w hV
   cases res with
   | none =>
    obtain ⟨b,m,q,rfl,j,e,hj,he,hS⟩ := hV
    replace hS := hbk hS
    clear hbk hw hc;repeat (first|refine Yeb ?_|refine Ybm ?_|refine Yao (fun _ hS _ => ?_)|refine Yah ?_|refine Yab ?_|refine Yap ?_|refine Ya8 ?_|refine Ybw ?_)
    exact ⟨_,_,_,_,_,_,_,_,rfl,j,e,hj,he,hS.took⟩
   | some u =>
    obtain ⟨x,t⟩ := u
    obtain ⟨b,q,rows,X,rfl,hb2,hM,j,hj,hdj,hS⟩ := hV
    replace hS := hbk hS
    clear hbk hw hc;repeat (first|refine Yeb ?_|refine Ybm ?_|refine Yao (fun _ hS _ => ?_)|refine Yah ?_|refine Yab ?_|refine Yap ?_|refine Ya8 ?_|refine Ybw ?_)
    have hS : St W F [bag X,Rdr p a s.length c j 0] _ := hS.took
    exact ⟨_,X,rfl,.mk (k := 2) (n := 0) (b := []) (l := x) (Nat.zero_le _) .nil hb2 hM.1 hM.2,j,hj,hdj,hS⟩
  ·have h40' : ¬ s[i]? = some 40 := fun h => h40 (by rw [hx] at h; exact Option.some.inj h)
   simp only [decide_eq_false h40'] at q40
   by_cases h105 : x = 105
   ·subst h105
    simp only [decide_eq_true hx] at q105
    rw [Z2q];have hN := Zpg p a s c hsc (i + 1) true 59
    generalize num true 59 (s.drop (i + 1)) = res at hN ⊢;repeat (first|refine Yeb ?_|(refine X_id ?_;first|(refine Zac 241 rfl rfl rfl rfl rfl hS (hm _ (hS.rd (List.mem_cons_of_mem _ (List.mem_cons_self ..)))) ?_;rintro _ _ rfl hS)|(refine Zac 243 rfl rfl rfl rfl rfl hS (q40 _ (hS.rd (List.mem_cons_of_mem _ (List.mem_cons_self ..))) (hb.rd hS)) ?_;rintro _ _ rfl hS)|(refine Zac 243 rfl rfl rfl rfl rfl hS (q105 _ (hS.rd (List.mem_cons_of_mem _ (List.mem_cons_self ..))) (hb.rd hS)) ?_;rintro _ _ rfl hS)|refine Yaf ?_|refine Yag ?_|refine Yau ?_|refine Yan ?_|refine Ybb ?_|refine Yar (fun _ _ hS _ => ?_))|refine Yfn ?_|refine Yab ?_)
    obtain ⟨_,hc,hr,hw,hbk⟩ := hS.call [false,true]
    refine Zaa _ rfl rfl rfl rfl rfl (Zy6 p a s c i 0 105 _ _ hc (hw _ hb) (by omega)) ?_
    rintro _ w ⟨rfl,hS⟩
    replace hS := hbk hS
    clear hc hr hw hbk;rw [show Zfe s i 0 105 = (i + 1,0) by unfold Zfe; rw [if_neg (by simp),if_neg (by simpa using hlt),if_pos hx]] at hS
    simp only at hS
    repeat (first|refine Yeb ?_|refine Yaf ?_|refine Yec ?_|refine Yab ?_)
    obtain ⟨_,hc,_,hw,hbk⟩ := hS.call [true,false]
    refine Zaa _ rfl rfl rfl rfl rfl (hN _ _ hc (hw _ hb) (by omega) (by omega) (hG.mono hw)) ?_
    rintro v w hV
    cases res with
    | none =>
     obtain ⟨rfl,j,e,hj,he,hS⟩ := hV
     replace hS := hbk hS
     clear hbk hw hc;repeat (first|refine Yeb ?_|refine Ybm ?_|refine Yao (fun _ hS _ => ?_)|refine Yah ?_|refine Yab ?_|refine Yap ?_|refine Ya8 ?_|refine Ybw ?_)
     exact ⟨_,_,_,_,_,_,_,_,rfl,j,e,hj,he,hS.took⟩
    | some u =>
     obtain ⟨n,t⟩ := u
     obtain ⟨rfl,j,hj,hdj,hS⟩ := hV
     replace hS := hbk hS
     clear hbk hw hc;repeat (first|refine Yeb ?_|refine Ybm ?_|refine Yao (fun _ hS _ => ?_)|refine Yah ?_|refine Yab ?_|refine Yap ?_|refine Ya8 ?_|refine Ybw ?_)
     have hS : St W F [Rdr p a s.length c j 0] _ := hS.took
     exact ⟨_,[],rfl,.mk (k := 0) (n := n) (b := []) (l := []) (rows := []) (Nat.zero_le _) .nil .nil rfl (fun _ _ _ h => by simp at h),j,hj,hdj,hS.bagNil⟩
   ·have h105' : ¬ s[i]? = some 105 := fun h => h105 (by rw [hx] at h; exact Option.some.inj h)
    simp only [decide_eq_false h105'] at q105
    rw [Z2p _ _ _ _ h40 h105,← hdr];have hN := Zpg p a s c hsc i false 58
    have hnn : ∀ n t,num false 58 (s.drop i) = some (n,t) → 0 ≤ n := fun n t h => Zlu h
    generalize num false 58 (s.drop i) = res at hN hnn ⊢;repeat (first|refine Yeb ?_|(refine X_id ?_;first|(refine Zac 241 rfl rfl rfl rfl rfl hS (hm _ (hS.rd (List.mem_cons_of_mem _ (List.mem_cons_self ..)))) ?_;rintro _ _ rfl hS)|(refine Zac 243 rfl rfl rfl rfl rfl hS (q40 _ (hS.rd (List.mem_cons_of_mem _ (List.mem_cons_self ..))) (hb.rd hS)) ?_;rintro _ _ rfl hS)|(refine Zac 243 rfl rfl rfl rfl rfl hS (q105 _ (hS.rd (List.mem_cons_of_mem _ (List.mem_cons_self ..))) (hb.rd hS)) ?_;rintro _ _ rfl hS)|refine Yaf ?_|refine Yag ?_|refine Yau ?_|refine Yan ?_|refine Ybb ?_|refine Yar (fun _ _ hS _ => ?_))|refine Yey ?_|refine Yab ?_)
    obtain ⟨_,hc,_,hw,hbk⟩ := hS.call [false,true]
    refine Zaa _ rfl rfl rfl rfl rfl (hN _ _ hc (hw _ hb) (by omega) (by omega) (hG.mono hw)) ?_
    rintro v w hV
    cases res with
    | none =>
     obtain ⟨rfl,j,e,hj,he,hS⟩ := hV
     replace hS := hbk hS
     clear hbk hw hc;repeat (first|refine Yeb ?_|refine Yag ?_|refine Yae ?_|refine Yab ?_)
     refine Zao (.s 0 (.s 1 (.s 2 (.s 3 (.s 4 (.s 5 (.s 6 (.s 7 (.s 8 (.s 9 (.s 10 (.s 11 (.s 12 (.s 13 (.s 14 (.s 15 (.s 16 (.s 17 (.s 18 (.s 19 (.s 20 .nil))))))))))))))))))))) mixed (by kernel_rfl) rfl ?_
     have hS := hS.drew
     repeat (first|refine Yeb ?_|(refine X_id ?_;first|refine Yaf ?_|refine Yau ?_|refine Yan ?_|refine Ybh ?_|refine Ybm ?_|refine Yaq ?_|refine Yao (fun _ hS _ => ?_))|refine Ye1 ?_|refine Yab ?_|refine Yas ?_|refine Ybw ?_|(refine Zaf ?_;first|refine Ya2 ?_|refine Ya6 ?_|refine Ybs ?_|refine Ybk ?_|refine Ych ?_|refine Zai rfl rfl (fun _ => Zjp rfl rfl rfl (by omega)) rfl rfl ?_|refine Ybn ?_|refine Ycm ?_))
     exact ⟨_,_,_,_,_,_,_,_,rfl,j,e,hj,he,hS.took⟩
    | some u =>
     obtain ⟨n,t⟩ := u
     obtain ⟨rfl,j,hj,hdj,hS⟩ := hV
     replace hS := hbk hS
     clear hbk hw hc;obtain ⟨m,rfl⟩ : ∃ m : Nat,n = m := ⟨n.toNat,by have := hnn n t rfl; omega⟩
     have htl : t.length = s.length - j := by rw [← hdj,List.length_drop]
     simp only [Option.bind_some,Int.toNat_natCast]
     by_cases hmt : m ≤ t.length
     ·rw [if_pos hmt]
      repeat (first|refine Yeb ?_|refine Yag ?_|refine Yae ?_|refine Yab ?_)
      refine Zao (.s 0 (.s 1 (.s 2 (.s 3 (.s 4 (.s 5 (.s 6 (.s 7 (.s 8 (.s 9 (.s 10 (.s 11 (.s 12 (.s 13 (.s 14 (.s 15 (.s 16 (.s 17 (.s 18 (.s 19 (.s 20 .nil))))))))))))))))))))) mixed (by kernel_rfl) rfl ?_
      have hS := hS.drew
      repeat (first|refine Yeb ?_|(refine X_id ?_;first|refine Yaf ?_|refine Yau ?_|refine Yan ?_|refine Ybg ?_|refine Yaw ?_|refine Yaq ?_|refine Yao (fun _ hS _ => ?_))|refine Yfi ?_|refine Yab ?_|(refine Zaf ?_;first|refine Ya2 ?_|refine Ya6 ?_|refine Ybs ?_|refine Ybk ?_|refine Ycn ?_|refine Ydu ?_|refine Ybn ?_|refine Yci ?_|refine Yc2 ?_|refine Ycz ?_|refine Ydz ?_|refine Zco rfl rfl rfl rfl (fun _ => Znv rfl rfl rfl (by omega)) rfl rfl ?_|refine Yd7 ?_|refine Yc3 ?_))
      have hS := hS.conv (rs' := [Rdr p a s.length c (j + m) 0,pts _ (.cells (List.toArray _) _ _)]) rfl
      refine Zao (.s 0 (.s 1 (.s 2 (.s 3 (.s 4 (.s 5 (.s 6 (.s 7 (.s 8 (.s 9 (.s 10 (.s 11 (.s 12 (.s 13 (.s 14 (.s 15 (.s 16 (.s 17 (.h 18 (.s 19 (.h 20 .nil .no)) .no))))))))))))))))))) mixed (by kernel_rfl) rfl ?_
      have hS := hS.drew
      repeat (first|(refine Zaf ?_;first|refine Ya6 ?_|refine Ybs ?_|refine Ybk ?_|refine Yce ?_|refine Ybn ?_))
      have hsb : Ro W F (bytes (Cr.sub a j 1 c) (t.take m)) := by
       have := hb.subBytes (l := j) (h := j + m) (c := c) (by omega) (by omega)
       rwa [show j + m - j = m by omega,hdj] at this
      refine Zai rfl rfl (fun _ => Zaq (l := j) (h := j + m) rfl rfl rfl rfl (.inr ⟨_,_,rfl,by omega,by omega,by omega⟩) (.inr ⟨_,_,rfl,by omega,by omega,by omega⟩)) rfl rfl ?_
      repeat (first|(refine Zaf ?_;first|refine Yax ?_))
      refine Zaa _ rfl rfl rfl rfl rfl (Ze6 _ _ _ (t.take m) _ (hsb.rd hS) (by simp; omega) (by omega)) ?_
      rintro _ w ⟨a',c',rfl,_,hc',hS'⟩
      replace hS := hS.plus hS';clear hS';repeat (first|refine Yao (fun _ hS _ => ?_)|refine Yah ?_|refine Yab ?_|refine Yap ?_|refine Ya8 ?_|refine Ybw ?_|(refine Zaf ?_;first|refine Ya2 ?_|refine Ycd ?_|refine Yax ?_)|(refine Zad ?_;first|refine Yay ?_))
      have hS : St W F [own 5 1 a' c' (bv (t.take m)),Rdr p a s.length c (j + m) 0] _ := hS.took
      have hS := hS.toBag (a := a') (cs := bv (t.take m)) fun _ h => h.row
      have hmt' : (t.take m).length = j + m - j := by simp; omega
      rw [← hmt'];exact ⟨_,_,rfl,.mk (k := 1) (n := 0) (b := t.take m) (l := []) (rows := []) (by rw [hmt']; omega) (.mem (List.mem_cons_self ..)) .nil rfl (fun _ _ _ h => by simp at h),j + m,by omega,by rw [← hdj,List.drop_drop],hS⟩
     ·rw [if_neg hmt]
      repeat (first|refine Yeb ?_|refine Yag ?_|refine Yae ?_|refine Yab ?_)
      refine Zao (.s 0 (.s 1 (.s 2 (.s 3 (.s 4 (.s 5 (.s 6 (.s 7 (.s 8 (.s 9 (.s 10 (.s 11 (.s 12 (.s 13 (.s 14 (.s 15 (.s 16 (.s 17 (.s 18 (.s 19 (.s 20 .nil))))))))))))))))))))) mixed (by kernel_rfl) rfl ?_
      have hS := hS.drew
      repeat (first|refine Yaa ?_|refine Yaf ?_|refine Yad ?_|refine Yaj ?_|refine Yab ?_|(refine Zaf ?_;first|refine Ya2 ?_|refine Ya6 ?_|refine Ybs ?_|refine Ybk ?_|refine Ycn ?_|refine Ydu ?_|refine Ybn ?_|refine Yci ?_|refine Yc2 ?_|refine Ycz ?_|refine Ydz ?_|refine Zco rfl rfl rfl rfl (fun _ => Zta rfl rfl rfl (by omega)) rfl rfl ?_|refine Yd7 ?_|refine Yc3 ?_))
      obtain ⟨_,hc,hr,hw,hbk⟩ := hS.call [true,false]
      refine Zaa _ rfl rfl rfl rfl rfl (Zrn p a s.length c j 4 _ _ hc) ?_
      rintro _ w ⟨rfl,hS⟩
      replace hS := hbk hS
      clear hc hr hw hbk;repeat (first|refine Yeb ?_|(refine X_id ?_;first|refine Yaf ?_|refine Yau ?_|refine Yan ?_|refine Ybh ?_|refine Ybm ?_|refine Yaq ?_|refine Yao (fun _ hS _ => ?_))|refine Ye1 ?_|refine Yab ?_|refine Yas ?_|refine Ybw ?_)
      exact ⟨_,_,_,_,_,_,_,_,rfl,j,4,hj,by decide,hS.took⟩
 ·simp only [decide_eq_false hlt] at hm
  rw [List.drop_of_length_le (by omega)];repeat (first|refine Yeb ?_|(refine X_id ?_;first|(refine Zac 241 rfl rfl rfl rfl rfl hS (hm _ (hS.rd (List.mem_cons_of_mem _ (List.mem_cons_self ..)))) ?_;rintro _ _ rfl hS)|refine Yaf ?_|refine Yag ?_|refine Yau ?_|refine Yan ?_|refine Ybo ?_|refine Yar (fun _ _ hS _ => ?_))|refine Yfh ?_|refine Yab ?_)
  obtain ⟨_,hc,hr,hw,hbk⟩ := hS.call [false,true]
  refine Zaa _ rfl rfl rfl rfl rfl (Zrn p a s.length c i 4 _ _ hc) ?_
  rintro _ w ⟨rfl,hS⟩
  replace hS := hbk hS
  clear hc hr hw hbk;repeat (first|refine Yeb ?_|refine Ybm ?_|refine Yao (fun _ hS _ => ?_)|refine Yep ?_|refine Yab ?_|refine Yas ?_|refine Ybw ?_)
  rw [Zv3];exact ⟨_,_,_,_,_,_,_,_,rfl,i,4,hi,by decide,hS.took⟩
theorem Z11 (p : Nat) (a : Option Addr) (s : List UInt8) (c : Nat) (hsc : s.length ≤ c) (hl : s.length ≤ 1073741824) (f : Nat) : Zn1 p a s c f := by
 induction f using Nat.strongRecOn with
 | _ f ih =>
  cases f with
  | zero => intro i deep W F hi hd hf; omega
  | succ f => exact Zu9 p a s c hsc hl f (Zzz p a s c (by omega) f fun g hg => ih g (by omega))
def Z9e (W : World) (r : Option (Mv × List UInt8)) (v : Value) (w : World) : Prop :=
 match r with
 | some (t,l) => ∃ cs X b q,v = .tuple #[.agg (List.toArray cs),.slice b l.length q,.int .i64 0] ∧ Mrd (RX X) t cs ∧ St W noF [bag X] w
 | none => ∃ e,v = .tuple #[.agg (List.toArray [.int .i64 0,.int .i64 0,.slice none 0 0,.slice none 0 0]),.slice none 0 0,.int .i64 e] ∧ e ≠ 0 ∧ St W noF [] w
theorem Z6e (a : Option Addr) (s : List UInt8) (c : Nat) (hsc : s.length ≤ c) (hl : s.length ≤ 131072) (W : World) (hG : Lg W noF) (hb : Ro W noF (bytes a s)) :
  Calls Tryz.prog 179 #[.slice a s.length c] W (Ret fun v w => Z9e W (pvM (2 * s.length + 1) 1 s) v w) := by
 have hS := St.start W
 refine Zab Tryz.func179 rfl Tryz.ntmps179 rfl ?_
 repeat (first|refine Yeb ?_|(refine X_id ?_;first|refine Yaf ?_|refine Yag ?_|refine Yat ?_|refine Ybr ?_|refine Ybm ?_|refine Yba (fun _ _ hS _ => ?_)|refine Yar (fun _ _ hS _ => ?_))|refine Yen ?_|refine Yab ?_)
 rename_i r _ _;have hv := Z11 r a s c hsc (by omega) (2 * s.length + 1) 0 1
 rw [List.drop_zero] at hv;generalize pvM (2 * s.length + 1) 1 s = res at hv ⊢;obtain ⟨_,hc,_,hw,hbk⟩ := hS.call [true,false]
 refine Zaa _ rfl rfl rfl rfl rfl (hv _ _ (Nat.zero_le _) (by omega) (by omega) (hG.mono hw) (hw _ hb) hc) ?_
 rintro v w hV
 cases res with
 | none =>
  obtain ⟨k,n,a1,n1,c1,a2,n2,c2,rfl,j,e,hj,he,hS⟩ := hV
  replace hS := hbk hS
  clear hbk hw hc;repeat (first|refine Yeb ?_|(refine X_id ?_;first|refine Yaf ?_|refine Yau ?_|refine Yan ?_|refine Ybj ?_|refine Yaq ?_|refine Yao (fun _ hS _ => ?_)|refine Yar (fun _ _ hS _ => ?_))|refine Yem ?_|refine Yab ?_)
  refine Zao (.s 0 (.s 1 (.s 2 (.s 3 (.s 4 (.h 5 (.s 6 (.s 7 .nil)) .no)))))) mixed (by kernel_rfl) rfl ?_
  have hS := hS.drew
  repeat (first|refine Yao (fun _ hS _ => ?_)|refine Yah ?_|refine Yab ?_|refine Yap ?_|refine Yd6 ?_|(refine Zaf ?_;first|refine Ya2 ?_|refine Ya6 ?_|refine Ybl ?_|refine Ybs ?_|refine Ybk ?_|refine Ycd ?_|refine Ybn ?_|refine Yax ?_)|(refine Zad ?_;first|refine Yay ?_))
  exact ⟨e,rfl,he,hS.took⟩
 | some u =>
  obtain ⟨t,l⟩ := u
  obtain ⟨cs,X,rfl,hM,j,hj,hdj,hS⟩ := hV
  replace hS := hbk hS
  clear hbk hw hc;obtain ⟨a1,c1,a2,c2,rows2,rfl,_⟩ := hM.lit
  have hsb : Ro W noF (bytes (Cr.sub a j 1 c) l) := by
   have := hb.subBytes (l := j) (h := s.length) (c := c) (by omega) (by omega)
   rwa [hdj,List.take_of_length_le (by rw [← hdj]; simp)] at this
  have hll : l.length = s.length - j := by rw [← hdj,List.length_drop]
  repeat (first|refine Yeb ?_|(refine X_id ?_;first|refine Yaf ?_|refine Yau ?_|refine Yan ?_|refine Ybc ?_|refine Yaq ?_|refine Yao (fun _ hS _ => ?_)|refine Yar (fun _ _ hS _ => ?_))|refine Yen ?_|refine Yab ?_)
  refine Zao (.s 0 (.s 1 (.s 2 (.s 3 (.s 4 (.s 5 (.s 6 (.s 7 (.h 8 (.h 9 (.s 10 (.s 11 .nil)) .no) .no))))))))) mixed (by kernel_rfl) rfl ?_
  have hS := hS.drew
  repeat (first|(refine Zaf ?_;first|refine Ya6 ?_|refine Ybs ?_|refine Ybk ?_|refine Ybn ?_|refine Yb0 ?_))
  refine Zai rfl rfl (fun _ => Zaq (l := j) (h := s.length) rfl rfl rfl rfl (.inl ⟨rfl,rfl⟩) (.inr ⟨_,_,rfl,by omega,by omega,by omega⟩)) rfl rfl ?_
  repeat (first|(refine Zaf ?_;first|refine Yax ?_))
  refine Zaa _ rfl rfl rfl rfl rfl (Ze6 _ _ _ l _ (hsb.rd hS) hll (by omega)) ?_
  rintro _ w ⟨a',c',rfl,_,_,hS'⟩
  replace hS := hS.plus hS';clear hS';rw [← hll];repeat (first|refine Yao (fun _ hS _ => ?_)|refine Yah ?_|refine Yab ?_|refine Yd6 ?_|(refine Zaf ?_;first|refine Ya2 ?_|refine Ybl ?_|refine Yax ?_)|(refine Zad ?_;first|refine Yay ?_))
  exact ⟨_,X,a',c',rfl,hM,hS.took⟩
def Z9i (W : World) (r : Option Mv) (v : Value) (w : World) : Prop :=
 match r with
 | some t => ∃ cs X,v = .tuple #[.agg (List.toArray cs),.int .i64 0] ∧ Mrd (RX X) t cs ∧ St W noF [bag X] w
 | none => ∃ e,v = .tuple #[.agg (List.toArray [.int .i64 0,.int .i64 0,.slice none 0 0,.slice none 0 0]),.int .i64 e] ∧ e ≠ 0 ∧ St W noF [] w
theorem Z0m (a : Option Addr) (s : List UInt8) (c : Nat) (hsc : s.length ≤ c) (hl : s.length ≤ 131072) (W : World) (hG : Lg W noF) (hb : Ro W noF (bytes a s)) :
  Calls Tryz.prog 139 #[.slice a s.length c] W (Ret fun v w => Z9i W (decM s) v w) := by
 have hS := St.start W
 have hN := Z6e a s c hsc hl
 unfold decM
 generalize pvM (2 * s.length + 1) 1 s = res at hN ⊢;refine Zab Tryz.func139 rfl Tryz.ntmps139 rfl ?_
 repeat (first|refine Yeb ?_|refine Yeq ?_|refine Yar (fun _ _ hS _ => ?_)|refine Yec ?_|refine Yab ?_)
 obtain ⟨_,hc,_,hw,hbk⟩ := hS.call [false]
 refine Zaa _ rfl rfl rfl rfl rfl (hN _ ((hG.mono hw).at_ hc) ((hw _ hb).rd hc).ro) ?_
 rintro v w hV
 cases res with
 | none =>
  obtain ⟨e,rfl,he,hS'⟩ := hV
  replace hS := hS.plus hS';clear hbk hw hc;repeat (first|refine Yeb ?_|(refine X_id ?_;first|refine Yaf ?_|refine Yag ?_|refine Ya0 ?_|refine Ybj ?_|refine Ybm ?_|refine Yao (fun _ hS _ => ?_)|refine Yar (fun _ _ hS _ => ?_))|refine Yez ?_|refine Yab ?_|refine Yap ?_|refine Ya8 ?_|refine Ybz ?_)
  exact ⟨e,rfl,he,hS.took⟩
 | some u =>
  obtain ⟨t,l⟩ := u
  obtain ⟨cs,X,b,q,rfl,hM,hS'⟩ := hV
  replace hS := hS.plus hS';clear hbk hw hc;obtain ⟨a1,c1,a2,c2,rows2,rfl,_⟩ := hM.lit
  cases l with
  | nil =>
   simp only [List.length_nil]
   repeat (first|refine Yeb ?_|(refine X_id ?_;first|refine Yaf ?_|refine Yag ?_|refine Ya0 ?_|refine Yat ?_|refine Ybc ?_|refine Ybr ?_|refine Ybi ?_|refine Yao (fun _ hS _ => ?_)|refine Yar (fun _ _ hS _ => ?_))|refine Ye2 ?_|refine Yab ?_|refine Yas ?_|refine Ybz ?_)
   exact ⟨_,X,rfl,hM,hS.took⟩
  | cons x l =>
   simp only [List.length_cons]
   repeat (first|refine Yeb ?_|(refine X_id ?_;first|refine Yaf ?_|refine Yag ?_|refine Ya0 ?_|refine Yat ?_|refine Ybc ?_|refine Ybx ?_|refine Ybm ?_|refine Yao (fun _ hS _ => ?_)|refine Yar (fun _ _ hS _ => ?_))|refine Yew ?_|refine Yab ?_|refine Yap ?_|refine Ya8 ?_|refine Ybz ?_)
   exact ⟨3,rfl,by decide,hS.took⟩
theorem Z4h (s : List UInt8) (W : World) : Calls Tryz.prog 99 #[.string (str s)] W (Ret fun v w => ∃ b c X,v = .agg (List.toArray [.int .i64 1,.int .i64 0,.slice b s.length c,.slice none 0 0]) ∧ Mrd (RX X) (txM s) [.int .i64 1,.int .i64 0,.slice b s.length c,.slice none 0 0] ∧ St W noF [bag X] w) := by
 have hS := St.start W
 refine Zab Tryz.func99 rfl Tryz.ntmps99 rfl ?_
 repeat (first|refine Yeb ?_|(refine X_id ?_;first|refine Yaf ?_|refine Ybm ?_|refine Yao (fun _ hS _ => ?_)|refine Yar (fun _ _ hS _ => ?_)|refine Zis rfl rfl rfl rfl hS (fun _ _ _ hS _ => ?_))|refine Yep ?_|refine Yab ?_|refine Ybw ?_)
 have hS := hS.pick [0]
 exact ⟨_,_,_,rfl,.mk (rows := []) (by assumption) (.mem (List.mem_cons_self ..)) .nil rfl (fun _ _ _ h => by simp at h),hS.toBag fun _ h => h⟩
theorem Z83 (n : Int) (W : World) : Calls Tryz.prog 100 #[.int .i64 n] W (Ret fun v w => v = .agg (List.toArray [.int .i64 0,.int .i64 n,.slice none 0 0,.slice none 0 0]) ∧ St W noF [] w) := by
 have hS := St.start W
 refine Zab Tryz.func100 rfl Tryz.ntmps100 rfl ?_
 repeat (first|refine Yeb ?_|refine Yaf ?_|refine Ybm ?_|refine Yao (fun _ hS _ => ?_)|refine Yar (fun _ _ hS _ => ?_)|refine Yep ?_|refine Yab ?_|refine Ybw ?_)
 exact ⟨rfl,hS.took⟩
theorem Z6b {R : Option Addr → List Value → Prop} (h0 : ∀ a,R a []) (n : Int) : Mrd R (nuM n) [.int .i64 0,.int .i64 n,.slice none 0 0,.slice none 0 0] :=
 .mk (b := []) (l := []) (rows := []) (Nat.zero_le _) (h0 _) (h0 _) rfl (fun _ _ _ h => by simp at h)
theorem Z0o : ∀ (d : Nat) (v : Mv) (cs : List Value) (W : World) (F : Nat → Prop),Mrd (RoR W F) v cs → wM v ≤ 1048576 → d ≤ 8 →
  Calls Tryz.prog 149 #[.agg (List.toArray cs),.int .i64 (d : Nat)] W (Ret fun u w => ∃ cs' X,u = .agg (List.toArray cs') ∧ Mrd (RX X) (Zei d v) cs' ∧ St W noF [bag X] w) := by
 intro d
 induction d with
 | zero =>
  intro v cs W F hv hw hd
  have hS := St.start W
  obtain ⟨k,n,b,l⟩ := v
  rw [Zoa] at hw;obtain ⟨a1,c1,a2,c2,rows,rfl,hc1,hb,hr,hM⟩ := hv.lit
  simp only [Mv.kind,Mv.num,Mv.txt,Mv.lst] at *
  replace hb : Ro W noF (bytes a1 b) := hb.start.ro
  refine Zab Tryz.func149 rfl Tryz.ntmps149 rfl ?_
  repeat (first|refine Yeb ?_|refine Yan ?_|refine Yaq ?_|refine Yba (fun _ _ hS _ => ?_)|refine Yar (fun _ _ hS _ => ?_)|refine Yec ?_|refine Yab ?_)
  refine Zaa _ rfl rfl rfl rfl rfl (Ze6 _ _ _ b _ (hb.rd hS) rfl (by omega)) ?_
  rintro _ w ⟨a',c',rfl,_,hca,hS'⟩
  replace hS := hS.plus hS';clear hS';repeat (first|refine Yeb ?_|(refine X_id ?_;first|refine Yaf ?_|refine Yag ?_|refine Yan ?_|refine Ybr ?_|refine Yaq ?_|refine Ybi ?_|refine Yao (fun _ hS _ => ?_))|refine Ye1 ?_|refine Yab ?_|refine Ybw ?_)
  have hS : St W noF [own 5 1 a' c' (bv b)] _ := hS.took
  exact ⟨_,_,rfl,.mk' (rows := []) rfl rfl hca (.mem (List.mem_cons_self ..)) .nil rfl (fun _ _ _ h => by simp at h),hS.toBag fun _ h => h.row⟩
 | succ d ih =>
  intro v cs W F hv hw hd
  have hS := St.start W
  obtain ⟨k,n,b,l⟩ := v
  rw [Zoa] at hw;obtain ⟨a1,c1,a2,c2,rows,rfl,hc1,hb,hr,hM⟩ := hv.lit
  simp only [Mv.kind,Mv.num,Mv.txt,Mv.lst] at *
  have hwl := Zjy l
  replace hb : Ro W noF (bytes a1 b) := hb.start.ro
  replace hr : Ro W noF (row a2 rows.flatten) := hr.start.ro
  replace hM : Mrds (RoR W noF) l rows := hM.mono fun _ _ h => h.start.ro
  refine Zab Tryz.func149 rfl Tryz.ntmps149 rfl ?_
  repeat (first|refine Yeb ?_|refine Yan ?_|refine Yaq ?_|refine Yba (fun _ _ hS _ => ?_)|refine Yar (fun _ _ hS _ => ?_)|refine Yec ?_|refine Yab ?_)
  rename_i b2 _ _ _ b4 _ _;refine Zaa _ rfl rfl rfl rfl rfl (Ze6 _ _ _ b _ (hb.rd hS) rfl (by omega)) ?_
  rintro _ w ⟨a',c',rfl,_,hca,hS'⟩
  replace hS := hS.plus hS';clear hS';repeat (first|refine Yeb ?_|(refine X_id ?_;first|refine Yaf ?_|refine Yag ?_|refine Yan ?_|refine Yat ?_|refine Ybx ?_|refine Yaq ?_|refine Yao (fun _ hS _ => ?_))|refine Yfh ?_|refine Yab ?_)
  have hS : St W noF [own 5 1 a' c' (bv b),pts b4 (.cells (List.toArray [.int .i64 0,.int .i64 0,.slice none 0 0,.slice none 0 0]) 206 (0,0)),pts b2 (.cells (List.toArray [.int .i64 k,.int .i64 n,.slice a' b.length c',.slice none 0 0]) 206 (0,0))] _ := hS.took
  refine Zaj (α := Nat × Option Addr × Nat) (fun z => [(1,.int .i64 ((d + 1 : Nat) : Int)),(2,.pointer (some ⟨b2,0,none⟩)),(4,.pointer (some ⟨b4,0,none⟩)),(17,.slice a2 l.length c2),(18,.int .i64 (l.length : Nat)),(19,.int .i64 (z.1 : Nat))])
   (fun z w => z.1 ≤ l.length ∧ z.1 ≤ z.2.2 ∧ ∃ rows' X,Mrds (RX X) ((l.take z.1).map (Zei d)) rows' ∧ St W noF [own 206 4 z.2.1 z.2.2 rows'.flatten,bag X,own 5 1 a' c' (bv b),pts b4 (.cells (List.toArray [.int .i64 0,.int .i64 0,.slice none 0 0,.slice none 0 0]) 206 (0,0)),pts b2 (.cells (List.toArray [.int .i64 k,.int .i64 n,.slice a' b.length c',.slice z.2.1 z.1 z.2.2]) 206 (0,0))] w)
   (fun z => l.length - z.1) (0,none,0) ⟨rfl,rfl,rfl,rfl,rfl,rfl,trivial⟩ ⟨Nat.zero_le _,Nat.le_refl _,[],[],.nil,(hS.bagNil).own_none _ _ _⟩ ?_
  clear hS;rintro ⟨i,q,qc⟩ w ⟨hi,hiq,rows',X,hMs,hS2⟩
  simp only at hi hiq hMs hS2
  have hrl : rows'.flatten.length = i * 4 := by rw [hMs.flat,List.length_map,List.length_take,Nat.min_eq_left hi]
  by_cases hlt : i < l.length
  ·obtain ⟨y,hyx⟩ : ∃ y,y = l[i] := ⟨_,rfl⟩
   have hy0 : l[i]? = some y := by rw [hyx]; exact List.getElem?_eq_getElem hlt
   have hyw := Zjx (List.mem_of_getElem? hy0)
   obtain ⟨cs,hxs,hy⟩ := hM.at_ hy0
   obtain ⟨d1,e1,d2,e2,rows2,rfl,_⟩ := hy.lit
   obtain ⟨ab,ao,rfl⟩ := hr.start.base (by
    intro e
    rw [e] at hxs;simp at hxs)
   have hS := hS2
   repeat (first|refine Yeb ?_|(refine X_id ?_;first|refine Ya1 ?_|refine Ybd ?_|refine Ybq ?_|refine Yao (fun _ hS _ => ?_)|refine Yar (fun _ _ hS _ => ?_))|refine Yef ?_|refine Yab ?_)
   refine Zao (.s 0 (.s 1 (.s 2 (.s 3 (.s 4 (.h 5 (.h 6 (.h 7 (.s 8 (.h 9 .nil .no)) .no) .no) .no)))))) mixed (by kernel_rfl) rfl ?_
   have hS := hS.drew
   repeat (first|(refine Zaf ?_;first|refine Ya6 ?_|refine Ybk ?_|refine Yce ?_|refine Ybn ?_|refine Yb0 ?_|refine Yax ?_))
   rw [show (((d + 1 : Nat) : Int) - 1) = ((d : Nat) : Int) by omega]
   refine Zaa _ rfl rfl rfl rfl rfl (ih y _ _ noF (hy.mono fun _ _ h => (h.rd hS).ro) (by omega) (by omega)) ?_
   rintro _ w ⟨cs',Y,rfl,hY,hS'⟩
   replace hS := hS.plus hS';clear hS';obtain ⟨g1,h1,g2,h2,rows3,rfl,_⟩ := hY.lit
   repeat (first|refine Ybe (fun _ _ hS _ => ?_)|(refine Zaf ?_;first|refine Yax ?_)|(refine Zad ?_;first|refine Yay ?_))
   have hnw := (hS.rd (List.mem_cons_self ..)).own_row
   refine Zas rfl rfl rfl rfl rfl hS hrl hiq hnw rfl (by simp [Value.oneCell']) (by omega) (by simp only [maxLen]; omega) (fun b' q' w hS hq' _ => ?_)
   repeat (first|refine Yeb ?_|refine Yeg ?_|refine Yao (fun _ hS _ => ?_)|refine Yad ?_|refine Yej ?_|(refine Zaf ?_;first|refine Ya2 ?_|refine Ybk ?_|refine Yax ?_)|(refine Zad ?_;first|refine Yay ?_))
   refine Zae (z := (i,q,qc)) (i + 1,b',q') ⟨rfl,rfl,rfl,rfl,rfl,rfl,trivial⟩ ⟨hlt,hq',rows' ++ [[.int .i64 (Zei d y).kind,.int .i64 (Zei d y).num,.slice g1 (Zei d y).txt.length h1,.slice g2 (Zei d y).lst.length h2]],X ++ Y,?_,?_⟩ (by dsimp only; omega)
   ·rw [List.take_succ_eq_append_getElem hlt,← hyx,List.map_append]
    exact (hMs.mono fun _ _ h => h.left).snoc (hY.mono fun _ _ h => h.right)
   ·have hS : St W noF [bag X,bag Y,own 206 4 b' q' (rows'.flatten ++ [.int .i64 (Zei d y).kind,.int .i64 (Zei d y).num,.slice g1 (Zei d y).txt.length h1,.slice g2 (Zei d y).lst.length h2]),own 5 1 a' c' (bv b),pts b4 (.cells (List.toArray [.int .i64 0,.int .i64 0,.slice none 0 0,.slice none 0 0]) 206 (0,0)),pts b2 (.cells (List.toArray [.int .i64 k,.int .i64 n,.slice a' b.length c',.slice b' (i + 1) q']) 206 (0,0))] _ := hS.took
    have hS := hS.bagJoin
    rw [List.flatten_append]
    simpa using hS.took
  ·obtain rfl : i = l.length := by omega
   have hS := hS2
   repeat (first|refine Yeb ?_|refine Yaz ?_|refine Ybi ?_|refine Yao (fun _ hS _ => ?_)|refine Yek ?_|refine Yel ?_)
   rw [List.take_length] at hMs;have hS : St W noF [own 206 4 q qc rows'.flatten,own 5 1 a' c' (bv b),bag X] _ := hS.took
   have hS := (hS.second (r' := own 5 1 a' c' (bv b)) fun _ h => h)
   have hS : St W noF [own 5 1 a' c' (bv b),bag X,own 206 4 q qc rows'.flatten] _ := hS.took
   have hS := hS.bagAdd (a := a') (cs := bv b) fun _ h => h.row
   have hS : St W noF [own 206 4 q qc rows'.flatten,bag ((a',bv b) :: X)] _ := hS.took
   have hS := hS.bagAdd (a := q) (cs := rows'.flatten) fun _ h => h.row
   exact ⟨_,_,rfl,.mk' rfl (by rw [List.length_map]) hca (.mem (List.mem_cons_of_mem _ (List.mem_cons_self ..))) (.mem (List.mem_cons_self ..)) hMs.1 (fun i y cs h1 h2 => (hMs.2 i y cs h1 h2).mono fun _ _ h => h.tail.tail),hS⟩
theorem of_M (a : Option Addr) (l : List Mv) (c : Nat) (rows : List (List Value)) (W : World) (hr : Ro W noF (row a rows.flatten)) (hM : Mrds (RoR W noF) l rows) (hw : wMs l ≤ 1048576) :
  Calls Tryz.prog 98 #[.slice a l.length c] W (Ret fun v w => ∃ b q rows' X,v = .agg (List.toArray [.int .i64 2,.int .i64 0,.slice none 0 0,.slice b l.length q]) ∧ l.length ≤ q ∧ Mrds (RX X) (l.map (Zei 8)) rows' ∧ St W noF [own 206 4 b q rows'.flatten,bag X] w) := by
 have hS := St.start W
 have hwl := Zjy l
 refine Zab Tryz.func98 rfl Tryz.ntmps98 rfl ?_
 repeat (first|refine Yeb ?_|(refine X_id ?_;first|refine Yaf ?_|refine Yat ?_|refine Ybm ?_|refine Yao (fun _ hS _ => ?_)|refine Yar (fun _ _ hS _ => ?_))|refine Yee ?_|refine Yab ?_)
 rename_i b2 _ _ _ b3 _ _ _ _ _;refine Zaj (α := Nat × Option Addr × Nat) (fun z => [(2,.pointer (some ⟨b2,0,none⟩)),(3,.pointer (some ⟨b3,0,none⟩)),(7,.slice a l.length c),(8,.int .i64 (l.length : Nat)),(9,.int .i64 (z.1 : Nat))])
  (fun z w => z.1 ≤ l.length ∧ z.1 ≤ z.2.2 ∧ ∃ rows' X,Mrds (RX X) ((l.take z.1).map (Zei 8)) rows' ∧ St W noF [own 206 4 z.2.1 z.2.2 rows'.flatten,bag X,pts b3 (.cells (List.toArray [.int .i64 2,.int .i64 0,.slice none 0 0,.slice z.2.1 z.1 z.2.2]) 206 (0,0)),pts b2 (.cells (List.toArray [.int .i64 0,.int .i64 0,.slice none 0 0,.slice none 0 0]) 206 (0,0))] w)
  (fun z => l.length - z.1) (0,none,0) ⟨rfl,rfl,rfl,rfl,rfl,trivial⟩ ⟨Nat.zero_le _,Nat.le_refl _,[],[],.nil,(hS.bagNil).own_none _ _ _⟩ ?_
 clear hS;rintro ⟨i,b,q⟩ w ⟨hi,hiq,rows',X,hMs,hS2⟩
 simp only at hi hiq hMs hS2
 have hrl : rows'.flatten.length = i * 4 := by rw [hMs.flat,List.length_map,List.length_take,Nat.min_eq_left hi]
 by_cases hlt : i < l.length
 ·obtain ⟨y,hyx⟩ : ∃ y,y = l[i] := ⟨_,rfl⟩
  have hy0 : l[i]? = some y := by rw [hyx]; exact List.getElem?_eq_getElem hlt
  have hyw := Zjx (List.mem_of_getElem? hy0)
  obtain ⟨cs,hxs,hy⟩ := hM.at_ hy0
  obtain ⟨d1,e1,d2,e2,rows2,rfl,_⟩ := hy.lit
  obtain ⟨ab,ao,rfl⟩ := hr.start.base (by
   intro e
   rw [e] at hxs;simp at hxs)
  have hS := hS2
  repeat (first|refine Yeb ?_|(refine X_id ?_;first|refine Ya1 ?_|refine Ybd ?_|refine Ybq ?_|refine Yao (fun _ hS _ => ?_)|refine Yar (fun _ _ hS _ => ?_))|refine Yef ?_|refine Yab ?_)
  refine Zao (.s 0 (.s 1 (.s 2 (.h 3 (.h 4 (.h 5 (.s 6 (.h 7 .nil .no)) .no) .no) .no)))) mixed (by kernel_rfl) rfl ?_
  have hS := hS.drew
  repeat (first|(refine Zaf ?_;first|refine Ybk ?_|refine Ybn ?_|refine Yb0 ?_|refine Yax ?_))
  refine Zaa _ rfl rfl rfl rfl rfl (Z0o 8 y _ _ noF (hy.mono fun _ _ h => (h.rd hS).ro) (by omega) (by omega)) ?_
  rintro _ w ⟨cs',Y,rfl,hY,hS'⟩
  replace hS := hS.plus hS';clear hS';obtain ⟨g1,h1,g2,h2,rows3,rfl,_⟩ := hY.lit
  repeat (first|refine Ybe (fun _ _ hS _ => ?_)|(refine Zaf ?_;first|refine Yax ?_)|(refine Zad ?_;first|refine Yay ?_))
  have hnw := (hS.rd (List.mem_cons_self ..)).own_row
  refine Zas rfl rfl rfl rfl rfl hS hrl hiq hnw rfl (by simp [Value.oneCell']) (by omega) (by simp only [maxLen]; omega) (fun b' q' w hS hq' _ => ?_)
  repeat (first|refine Yeb ?_|refine Yeg ?_|refine Yao (fun _ hS _ => ?_)|refine Yad ?_|refine Yej ?_|(refine Zaf ?_;first|refine Ya2 ?_|refine Ybk ?_|refine Yax ?_)|(refine Zad ?_;first|refine Yay ?_))
  refine Zae (z := (i,b,q)) (i + 1,b',q') ⟨rfl,rfl,rfl,rfl,rfl,trivial⟩ ⟨hlt,hq',rows' ++ [[.int .i64 (Zei 8 y).kind,.int .i64 (Zei 8 y).num,.slice g1 (Zei 8 y).txt.length h1,.slice g2 (Zei 8 y).lst.length h2]],X ++ Y,?_,?_⟩ (by dsimp only; omega)
  ·rw [List.take_succ_eq_append_getElem hlt,← hyx,List.map_append]
   exact (hMs.mono fun _ _ h => h.left).snoc (hY.mono fun _ _ h => h.right)
  ·have hS : St W noF [bag X,bag Y,own 206 4 b' q' (rows'.flatten ++ [.int .i64 (Zei 8 y).kind,.int .i64 (Zei 8 y).num,.slice g1 (Zei 8 y).txt.length h1,.slice g2 (Zei 8 y).lst.length h2]),
    pts b3 (.cells (List.toArray [.int .i64 2,.int .i64 0,.slice none 0 0,.slice b' (i + 1) q']) 206 (0,0)),pts b2 (.cells (List.toArray [.int .i64 0,.int .i64 0,.slice none 0 0,.slice none 0 0]) 206 (0,0))] _ := hS.took
   have hS := hS.bagJoin
   rw [List.flatten_append]
   simpa using hS.took
 ·obtain rfl : i = l.length := by omega
  have hS := hS2
  repeat (first|refine Yeb ?_|refine Yaz ?_|refine Ybi ?_|refine Yao (fun _ hS _ => ?_)|refine Yek ?_|refine Yel ?_)
  rw [List.take_length] at hMs;exact ⟨b,q,rows',X,rfl,hiq,hMs,hS.took⟩
theorem Z1e (k n : Int) (b : List UInt8) (l : List Mv) (a1 a2 : Option Addr) (c1 c2 : Nat) (W : World) :
  Calls Tryz.prog 191 #[.agg (List.toArray [.int .i64 k,.int .i64 n,.slice a1 b.length c1,.slice a2 l.length c2])] W (Ret fun v w => v = .bool (kdM k n b l) ∧ St W noF [] w) := by
 have hS := St.start W
 by_cases h0 : k = 0
 ·subst h0
  cases b with
  | cons x b =>
   simp only [List.length_cons]
   refine Zab Tryz.func191 rfl Tryz.ntmps191 rfl ?_
   repeat (first|refine Yev ?_|(refine X_id ?_;first|refine Yaf ?_|refine Yag ?_|refine Yan ?_|refine Ya7 ?_|refine Yat ?_|refine Ybg ?_|refine Ybh ?_|refine Yaq ?_|refine Yba (fun _ _ hS _ => ?_))|refine Yez ?_|refine Yex ?_)
   refine ⟨?_,hS.drops⟩
   simp [kdM, *]
  | nil =>
   cases l with
   | cons x l =>
    simp only [List.length_cons]
    refine Zab Tryz.func191 rfl Tryz.ntmps191 rfl ?_
    repeat (first|refine Yes ?_|(refine X_id ?_;first|refine Yaf ?_|refine Yag ?_|refine Yan ?_|refine Ya9 ?_|refine Yat ?_|refine Ybg ?_|refine Ybh ?_|refine Ycx ?_|refine Yaq ?_|refine Yba (fun _ _ hS _ => ?_))|refine Yez ?_|refine Yex ?_)
    refine ⟨?_,hS.drops⟩
    simp [kdM, *]
   | nil =>
    refine Zab Tryz.func191 rfl Tryz.ntmps191 rfl ?_
    repeat (first|refine Yes ?_|(refine X_id ?_;first|refine Yaf ?_|refine Yag ?_|refine Yan ?_|refine Ya9 ?_|refine Yat ?_|refine Ybg ?_|refine Ycx ?_|refine Yaq ?_|refine Yba (fun _ _ hS _ => ?_))|refine Yez ?_|refine Yex ?_)
    refine ⟨?_,hS.drops⟩
    simp [kdM, *]
 ·by_cases h1 : k = 1
  ·subst h1
   by_cases hn : n = 0
   ·subst hn
    cases l with
    | cons x l =>
     simp only [List.length_cons]
     refine Zab Tryz.func191 rfl Tryz.ntmps191 rfl ?_
     repeat (first|refine Yes ?_|(refine X_id ?_;first|refine Yaf ?_|refine Yag ?_|refine Yan ?_|refine Ya9 ?_|refine Yat ?_|refine Ybg ?_|refine Ybh ?_|refine Yaq ?_|refine Yba (fun _ _ hS _ => ?_))|refine Yew ?_|refine Yex ?_)
     refine ⟨?_,hS.drops⟩
     simp [kdM, *]
    | nil =>
     refine Zab Tryz.func191 rfl Tryz.ntmps191 rfl ?_
     repeat (first|refine Yes ?_|(refine X_id ?_;first|refine Yaf ?_|refine Yag ?_|refine Yan ?_|refine Ya9 ?_|refine Yat ?_|refine Ybg ?_|refine Ybh ?_|refine Ycx ?_|refine Yaq ?_|refine Yba (fun _ _ hS _ => ?_))|refine Yew ?_|refine Yex ?_)
     refine ⟨?_,hS.drops⟩
     simp [kdM, *]
   ·skip
    refine Zab Tryz.func191 rfl Tryz.ntmps191 rfl ?_
    repeat (first|refine Yev ?_|(refine X_id ?_;first|refine Yaf ?_|refine Yag ?_|refine Yan ?_|refine Ya7 ?_|refine Ybg ?_|refine Ybh ?_|refine Yaq ?_|refine Yba (fun _ _ hS _ => ?_))|refine Yew ?_|refine Yex ?_)
    refine ⟨?_,hS.drops⟩
    simp [kdM, *]
  ·by_cases h2 : k = 2
   ·subst h2
    by_cases hn : n = 0
    ·subst hn
     cases b with
     | cons x b =>
      simp only [List.length_cons]
      refine Zab Tryz.func191 rfl Tryz.ntmps191 rfl ?_
      repeat (first|refine Yes ?_|(refine X_id ?_;first|refine Yaf ?_|refine Yag ?_|refine Yan ?_|refine Ya9 ?_|refine Yat ?_|refine Ybg ?_|refine Ybh ?_|refine Yaq ?_|refine Yba (fun _ _ hS _ => ?_))|refine Yew ?_|refine Yex ?_)
      refine ⟨?_,hS.drops⟩
      simp [kdM, *]
     | nil =>
      refine Zab Tryz.func191 rfl Tryz.ntmps191 rfl ?_
      repeat (first|refine Yes ?_|(refine X_id ?_;first|refine Yaf ?_|refine Yag ?_|refine Yan ?_|refine Ya9 ?_|refine Yat ?_|refine Ybg ?_|refine Ybh ?_|refine Ycx ?_|refine Yaq ?_|refine Yba (fun _ _ hS _ => ?_))|refine Yew ?_|refine Yex ?_)
      refine ⟨?_,hS.drops⟩
      simp [kdM, *]
    ·skip
     refine Zab Tryz.func191 rfl Tryz.ntmps191 rfl ?_
     repeat (first|refine Yev ?_|(refine X_id ?_;first|refine Yaf ?_|refine Yag ?_|refine Yan ?_|refine Ya7 ?_|refine Ybg ?_|refine Ybh ?_|refine Yaq ?_|refine Yba (fun _ _ hS _ => ?_))|refine Yew ?_|refine Yex ?_)
     refine ⟨?_,hS.drops⟩
     simp [kdM, *]
   ·skip
    refine Zab Tryz.func191 rfl Tryz.ntmps191 rfl ?_
    repeat (first|refine Yeb ?_|(refine X_id ?_;first|refine Yag ?_|refine Yan ?_|refine Ybh ?_|refine Yaq ?_|refine Yba (fun _ _ hS _ => ?_))|refine Ye2 ?_|refine Yab ?_|refine Yas ?_|refine Yam ?_)
    refine ⟨?_,hS.drops⟩
    simp [kdM, *]
theorem Zgy {f : Mv → Int} : ∀ {l : List Mv} {i : Nat},(∀ j,j < i → ∀ y,l[j]? = some y → f y = 0) → Zhx (l.map f) = Zhx ((l.drop i).map f)
 | [],i,_ => by simp
 | x :: l,0,_ => rfl
 | x :: l,i + 1,h => by
  have h0 := h 0 (by omega) x rfl
  rw [List.map_cons,Zhx,if_pos h0,List.drop_succ_cons];exact Zgy fun j hj y hy => h (j + 1) (by omega) y (by simpa using hy)
theorem Z3r : ∀ (m : Nat) (v : Mv) (cs : List Value) (deep : Nat) (W : World) (F : Nat → Prop),deep + m = 9 → Mrd (RoR W F) v cs → wM v ≤ 1048576 →
  Calls Tryz.prog 150 #[.agg (List.toArray cs),.int .i64 (deep : Nat)] W (Ret fun u w => u = .int .i64 (chkM m v) ∧ St W noF [] w) := by
 intro m
 induction m with
 | zero =>
  intro v cs deep W F hd hv hw
  have hS := St.start W
  obtain ⟨k,n,b,l⟩ := v
  obtain ⟨a1,c1,a2,c2,rows,rfl,hc1,hb,hr,hM⟩ := hv.lit
  simp only [Mv.kind,Mv.num,Mv.txt,Mv.lst] at *
  have hk := fun W => Z1e k n b l a1 a2 c1 c2 W
  rw [chkM];obtain rfl : deep = 9 := by omega
  by_cases hkd : kdM k n b l = true
  ·rw [if_pos hkd]
   simp only [hkd] at hk
   by_cases h2 : k = 2
   ·subst h2
    rw [if_pos rfl];refine Zab Tryz.func150 rfl Tryz.ntmps150 rfl ?_
    repeat (first|refine Yes ?_|(refine X_id ?_;first|(refine Zac 191 rfl rfl rfl rfl rfl hS (hk _) ?_;rintro _ _ rfl hS)|refine Yaf ?_|refine Yag ?_|refine Yan ?_|refine Ya9 ?_|refine Ybb ?_|refine Ybg ?_|refine Ybx ?_|refine Yaq ?_|refine Ybi ?_|refine Yba (fun _ _ hS _ => ?_))|refine Yew ?_|refine Yex ?_)
    exact ⟨rfl,hS.drops⟩
   ·rw [if_neg h2]
    have hl0 : l = [] := by
     rcases Zox hkd with ⟨_,_,h⟩ | ⟨_,_,h⟩ | ⟨h,_,_⟩
     ·exact h
     ·exact h
     ·exact absurd h h2
    subst hl0
    refine Zab Tryz.func150 rfl Tryz.ntmps150 rfl ?_
    repeat (first|refine Yev ?_|(refine X_id ?_;first|(refine Zac 191 rfl rfl rfl rfl rfl hS (hk _) ?_;rintro _ _ rfl hS)|refine Yaf ?_|refine Yag ?_|refine Yan ?_|refine Ya7 ?_|refine Ybb ?_|refine Yat ?_|refine Ybh ?_|refine Yaq ?_|refine Ybi ?_|refine Yba (fun _ _ hS _ => ?_))|refine Yfa ?_|refine Yej ?_)
    refine Zaj (α := Unit) (fun _ => [(22,.int .i64 0),(23,.int .i64 0)]) (fun _ w => St W noF [] w) (fun _ => 0) () ⟨rfl,rfl,trivial⟩ hS.drops ?_
    clear hS;rintro _ w hS
    repeat (first|refine Yeb ?_|refine Yag ?_|refine Yaz ?_|refine Yek ?_|refine Yfd ?_)
    exact ⟨rfl,hS⟩
  ·rw [if_neg hkd]
   simp only [eq_false_of_ne_true hkd] at hk
   refine Zab Tryz.func150 rfl Tryz.ntmps150 rfl ?_
   repeat (first|refine Yeb ?_|(refine X_id ?_;first|(refine Zac 191 rfl rfl rfl rfl rfl hS (hk _) ?_;rintro _ _ rfl hS)|refine Yag ?_|refine Ybo ?_|refine Ybi ?_|refine Yba (fun _ _ hS _ => ?_))|refine Yez ?_|refine Yex ?_)
   exact ⟨rfl,hS.drops⟩
 | succ m ih =>
  intro v cs deep W F hd hv hw
  have hS := St.start W
  obtain ⟨k,n,b,l⟩ := v
  obtain ⟨a1,c1,a2,c2,rows,rfl,hc1,hb,hr,hM⟩ := hv.lit
  simp only [Mv.kind,Mv.num,Mv.txt,Mv.lst] at *
  rw [Zoa] at hw;have hwl := Zjy l
  replace hr : Ro W noF (row a2 rows.flatten) := hr.start.ro
  replace hM : Mrds (RoR W noF) l rows := hM.mono fun _ _ h => h.start.ro
  have hk := fun W => Z1e k n b l a1 a2 c1 c2 W
  rw [chkM];by_cases hkd : kdM k n b l = true
  ·rw [if_pos hkd]
   simp only [hkd] at hk
   refine Zab Tryz.func150 rfl Tryz.ntmps150 rfl ?_
   by_cases h2 : k = 2
   case' pos =>
    subst h2
    repeat (first|refine Yes ?_|(refine X_id ?_;first|(refine Zac 191 rfl rfl rfl rfl rfl hS (hk _) ?_;rintro _ _ rfl hS)|refine Yaf ?_|refine Yag ?_|refine Yan ?_|refine Ya9 ?_|refine Ybb ?_|refine Yat ?_|refine Ybg ?_|refine Ybr ?_|refine Yaq ?_|refine Ybi ?_|refine Yba (fun _ _ hS _ => ?_))|refine Yfa ?_|refine Yej ?_)
   case' neg =>
    repeat (first|refine Yev ?_|(refine X_id ?_;first|(refine Zac 191 rfl rfl rfl rfl rfl hS (hk _) ?_;rintro _ _ rfl hS)|refine Yaf ?_|refine Yag ?_|refine Yan ?_|refine Ya7 ?_|refine Ybb ?_|refine Yat ?_|refine Ybh ?_|refine Yaq ?_|refine Ybi ?_|refine Yba (fun _ _ hS _ => ?_))|refine Yfa ?_|refine Yej ?_)
   all_goals
    refine Zaj (α := Nat) (fun i => [(1,.int .i64 (deep : Nat)),(21,.slice a2 l.length c2),(22,.int .i64 (l.length : Nat)),(23,.int .i64 (i : Nat))]) (fun i w => i ≤ l.length ∧ (∀ j,j < i → ∀ y,l[j]? = some y → chkM m y = 0) ∧ St W noF [] w) (fun i => l.length - i) 0 ⟨rfl,rfl,rfl,rfl,trivial⟩ ⟨Nat.zero_le _,fun j hj => absurd hj (by omega),hS.drops⟩ ?_
    clear hS;rintro i w ⟨hi,hz,hS2⟩
    by_cases hlt : i < l.length
    ·obtain ⟨y,hyx⟩ : ∃ y,y = l[i] := ⟨_,rfl⟩
     have hy0 : l[i]? = some y := by rw [hyx]; exact List.getElem?_eq_getElem hlt
     have hyw := Zjx (List.mem_of_getElem? hy0)
     obtain ⟨cs,hxs,hy⟩ := hM.at_ hy0
     obtain ⟨d1,e1,d2,e2,rows2,rfl,_⟩ := hy.lit
     obtain ⟨ab,ao,rfl⟩ := hr.start.base (by
      intro e
      rw [e] at hxs;simp at hxs)
     have hdr : (l.drop i).map (chkM m) = chkM m y :: (l.drop (i + 1)).map (chkM m) := by rw [List.drop_eq_getElem_cons hlt,← hyx]; rfl
     have ihy := fun W h => ih y [.int .i64 y.kind,.int .i64 y.num,.slice d1 y.txt.length e1,.slice d2 y.lst.length e2] (deep + 1) W noF (by omega) h (by omega)
     obtain ⟨e,he⟩ : ∃ e,e = chkM m y := ⟨_,rfl⟩
     rw [← he] at ihy hdr;have hS := hS2
     repeat (first|refine Yeb ?_|(refine X_id ?_;first|refine Yaf ?_|refine Ya1 ?_|refine Ybd ?_|refine Yaw ?_|refine Ybi ?_|refine Ybq ?_|refine Yao (fun _ hS _ => ?_)|refine Yar (fun _ _ hS _ => ?_))|refine Yef ?_|refine Yab ?_)
     rw [show ((deep : Nat) : Int) + 1 = ((deep + 1 : Nat) : Int) by omega]
     refine Zac 150 rfl rfl rfl rfl rfl hS (ihy _ (hy.mono fun _ _ h => (h.rd hS).ro)) ?_
     rintro _ w rfl hS
     by_cases h0 : e = 0
     ·subst h0
      repeat (first|refine Yeb ?_|refine Yaf ?_|refine Yag ?_|refine Ybc ?_|refine Yaw ?_|refine Yen ?_|refine Yej ?_)
      exact Zae (i + 1) ⟨rfl,rfl,rfl,rfl,trivial⟩ ⟨hlt,fun j hj z hzj => by
       by_cases hji : j = i
       ·subst hji
        rw [hy0] at hzj;cases hzj
        exact he.symm
       ·exact hz j (by omega) z hzj,hS.drops⟩ (by omega)
     ·repeat (first|refine Yeb ?_|refine Yaf ?_|refine Yag ?_|refine Ybj ?_|refine Yet ?_|refine Yex ?_)
      rw [Zgy hz,hdr,Zhx,if_neg h0];exact ⟨rfl,hS.drops⟩
    ·obtain rfl : i = l.length := by omega
     have hS := hS2
     repeat (first|refine Yeb ?_|refine Yag ?_|refine Yaz ?_|refine Yek ?_|refine Yfd ?_)
     rw [Zgy hz,List.drop_length];exact ⟨rfl,hS⟩
  ·rw [if_neg hkd]
   simp only [eq_false_of_ne_true hkd] at hk
   refine Zab Tryz.func150 rfl Tryz.ntmps150 rfl ?_
   repeat (first|refine Yeb ?_|(refine X_id ?_;first|(refine Zac 191 rfl rfl rfl rfl rfl hS (hk _) ?_;rintro _ _ rfl hS)|refine Yag ?_|refine Ybo ?_|refine Ybi ?_|refine Yba (fun _ _ hS _ => ?_))|refine Yez ?_|refine Yex ?_)
   exact ⟨rfl,hS.drops⟩
abbrev Wt (p : Nat) (b : Option Addr) (q : Nat) (s : List UInt8) : List Res := [pts p (.cells (List.toArray [.slice b s.length q,.bool false]) 273 (0,0)),own 5 1 b q (bv s)]
theorem Zpf (p : Nat) (b : Option Addr) (q : Nat) (s : List UInt8) (a : Option Addr) (t : List UInt8) (c m : Nat) (W : World) (F : Nat → Prop) (hq : s.length ≤ q) (hm : t.length = m) (hS : St W F (Wt p b q s) W) (ht : Ro W F (bytes a t)) (hl : s.length + t.length ≤ 131072) :
  Calls Tryz.prog 192 #[.pointer (some ⟨p,0,none⟩),.slice a m c] W (Ret fun v w => (v = .tuple #[] ∧ ∃ b' q',(s ++ t).length ≤ q' ∧ St W F (Wt p b' q' (s ++ t)) w)) := by
 subst hm
 refine Zab Tryz.func192 rfl Tryz.ntmps192 rfl ?_
 repeat (first|refine Yes ?_|(refine X_id ?_;first|refine Yaf ?_|refine Yau ?_|refine Yan ?_|refine Ya7 ?_|refine Ybo ?_|refine Yat ?_|refine Ybr ?_|refine Yaw ?_|refine Yaq ?_|refine Yao (fun _ hS _ => ?_))|refine Yem ?_|refine Yab ?_)
 refine Zas rfl rfl rfl rfl rfl hS (by simp) hq (ht.rd hS) (by simp) Zdb (by omega) (by simp only [maxLen]; omega) (fun b' q' w hS hq' _ => ?_)
 repeat (first|refine Yeb ?_|refine Yau ?_|refine Yan ?_|refine Yao (fun _ hS _ => ?_)|refine Ybu ?_)
 refine ⟨rfl,b',q',by simpa using hq',?_⟩
 exact St.conv (rs := [pts p (.cells (List.toArray [.slice b' ((s.length + t.length : Nat)) q',.bool false]) 273 (0,0)),own 5 1 b' q' (bv s ++ bv t)]) hS.took (by show _ = [_,_]; rw [List.length_append,Zb8])
theorem Zul (l : List Mv) (i : Nat) : (Za3 (l.take i)).length ≤ (Za3 l).length := by
 have := congrArg List.length (congrArg Za3 (List.take_append_drop i l))
 rw [Zfq,List.length_append] at this; omega
theorem Zum (l : List Mv) (y : Mv) : Za3 (l ++ [y]) = Za3 l ++ encM y := by rw [Zfq,Za3,Za3,List.append_nil]
theorem Z0z (n : Int) (cs : List Value) (p : Nat) (b : Option Addr) (q : Nat) (s : List UInt8) (W : World) (F : Nat → Prop) (hq : s.length ≤ q) (hv : Mrd (RoR W F) (nuM n) cs) (hfit : fitM (nuM n)) (hS : St W F (Wt p b q s) W) (hl : s.length + (encM (nuM n)).length ≤ 131072) (hG : Lg W F) :
  Calls Tryz.prog 151 #[.pointer (some ⟨p,0,none⟩),.agg (List.toArray cs)] W (Ret fun u w => (u = .tuple #[] ∧ ∃ b' q',(s ++ encM (nuM n)).length ≤ q' ∧ St W F (Wt p b' q' (s ++ encM (nuM n))) w)) := by
 obtain ⟨a1,c1,a2,c2,rows,rfl,_⟩ := hv.lit
 simp only [Mv.kind,Mv.num,Mv.txt,Mv.lst,List.length_nil] at *
 rw [fitM] at hfit;have e : encM (nuM n) = [105] ++ Lib.itoa n ++ [59] := by rw [Zd9]; simp
 rw [e] at hl ⊢;have hl2 := hl
 simp only [List.length_append,List.length_cons,List.length_nil] at hl2
 refine Zab Tryz.func151 rfl Tryz.ntmps151 rfl ?_
 repeat (first|refine Yeb ?_|(refine X_id ?_;first|(refine Zac 72 rfl rfl rfl rfl rfl hS (Zz7 n _ _ (hG.at_ hS) hfit.1.1 hfit.1.2) ?_;rintro _ _ rfl hS)|refine Yaf ?_|refine Yag ?_|refine Yan ?_|refine Ybg ?_|refine Yaq ?_|refine Yba (fun _ _ hS _ => ?_)|refine Ydh ?_|refine Zis rfl rfl rfl rfl hS (fun _ _ _ hS _ => ?_))|refine Yfh ?_|refine Yab ?_)
 obtain ⟨_,hc,hr,hw,hbk⟩ := hS.call [false,false,true,true]
 refine Zaa _ rfl rfl rfl rfl rfl (Zpf p b q s _ _ _ _ _ _ hq rfl hc (hr _ (List.mem_cons_self ..)) hl) ?_
 rintro _ w ⟨rfl,b',q',hq',hS⟩
 replace hS := hbk hS
 clear hc hr hw hbk;repeat (first|refine Yac ?_|refine Yas ?_|refine Ybu ?_)
 exact ⟨rfl,b',q',hq',hS.took⟩
theorem Z0y (t : List UInt8) (cs : List Value) (p : Nat) (b : Option Addr) (q : Nat) (s : List UInt8) (W : World) (F : Nat → Prop) (hq : s.length ≤ q) (hv : Mrd (RoR W F) (txM t) cs) (hfit : fitM (txM t)) (hS : St W F (Wt p b q s) W) (hl : s.length + (encM (txM t)).length ≤ 131072) (hG : Lg W F) :
  Calls Tryz.prog 151 #[.pointer (some ⟨p,0,none⟩),.agg (List.toArray cs)] W (Ret fun u w => (u = .tuple #[] ∧ ∃ b' q',(s ++ encM (txM t)).length ≤ q' ∧ St W F (Wt p b' q' (s ++ encM (txM t))) w)) := by
 obtain ⟨a,c,a2,c2,rows,rfl,hc1,hb,_⟩ := hv.lit
 simp only [Mv.kind,Mv.num,Mv.txt,Mv.lst,List.length_nil] at *
 rw [fitM] at hfit;have e : s ++ encM (txM t) = (s ++ (Lib.itoa (t.length : Nat) ++ [58])) ++ t := by rw [Ze4]; simp
 have hl2 := congrArg List.length e
 rw [List.length_append] at hl2;rw [e];rw [hl2] at hl;simp only [List.length_append,List.length_cons,List.length_nil] at hl
 refine Zab Tryz.func151 rfl Tryz.ntmps151 rfl ?_
 repeat (first|refine Yeb ?_|(refine X_id ?_;first|(refine Zac 72 rfl rfl rfl rfl rfl hS (Zz7 (t.length : Nat) _ _ (hG.at_ hS) (by omega) (by omega)) ?_;rintro _ _ rfl hS)|refine Yaf ?_|refine Yag ?_|refine Yan ?_|refine Yat ?_|refine Ybg ?_|refine Ybh ?_|refine Yaq ?_|refine Yba (fun _ _ hS _ => ?_)|refine Ydh ?_|refine Zis rfl rfl rfl rfl hS (fun _ _ _ hS _ => ?_))|refine Yfn ?_|refine Yab ?_)
 obtain ⟨_,hc,hr,hw,hbk⟩ := hS.call [false,false,true,true]
 refine Zaa _ rfl rfl rfl rfl rfl (Zpf p b q s _ _ _ _ _ _ hq rfl hc (hr _ (List.mem_cons_self ..)) (by simp; omega)) ?_
 rintro _ w ⟨rfl,b',q',hq',hS⟩
 replace hS := hbk hS
 clear hc hr hw hbk;repeat (first|refine Yeb ?_|refine Yaf ?_|refine Yan ?_|refine Yaq ?_|refine Yad ?_|refine Yab ?_)
 obtain ⟨_,hc,hr,hw,hbk⟩ := hS.call [true,true,false,false]
 refine Zaa _ rfl rfl rfl rfl rfl (Zpf p b' q' _ a t c t.length _ _ hq' rfl hc (hw _ hb) (by simp; omega)) ?_
 rintro _ w ⟨rfl,b2,q2,hq2,hS⟩
 replace hS := hbk hS
 clear hc hr hw hbk;repeat (first|refine Yac ?_|refine Yas ?_|refine Ybu ?_)
 exact ⟨rfl,b2,q2,hq2,hS.took⟩
theorem Zyu : ∀ (m : Nat) (v : Mv) (cs : List Value) (p : Nat) (b : Option Addr) (q : Nat) (s : List UInt8) (W : World) (F : Nat → Prop),s.length ≤ q → Mrd (RoR W F) v cs → wM v ≤ 1048576 → chkM m v = 0 → fitM v → St W F (Wt p b q s) W → s.length + (encM v).length ≤ 131072 → Lg W F →
  Calls Tryz.prog 151 #[.pointer (some ⟨p,0,none⟩),.agg (List.toArray cs)] W (Ret fun u w => (u = .tuple #[] ∧ ∃ b' q',(s ++ encM v).length ≤ q' ∧ St W F (Wt p b' q' (s ++ encM v)) w)) := by
 intro m
 induction m with
 | zero =>
  intro v cs p b q s W F hq hv hwv hck hfit hS hl hG
  rcases Zes hck with ⟨n,rfl⟩ | ⟨t,rfl⟩ | ⟨l,m',_,h',_⟩
  ·exact Z0z n cs p b q s W F hq hv hfit hS hl hG
  ·exact Z0y t cs p b q s W F hq hv hfit hS hl hG
  ·cases h'
 | succ m ih =>
  intro v cs p b q s W F hq hv hwv hck hfit hS hl hG
  rcases Zes hck with ⟨n,rfl⟩ | ⟨t,rfl⟩ | ⟨l,m',rfl,h',hck⟩
  ·exact Z0z n cs p b q s W F hq hv hfit hS hl hG
  ·exact Z0y t cs p b q s W F hq hv hfit hS hl hG
  obtain rfl : m = m' := by omega
  obtain ⟨a1,c1,a,c,rows,rfl,hc1,hb0,hr0,hx⟩ := hv.lit
  simp only [Mv.kind,Mv.num,Mv.txt,Mv.lst,List.length_nil] at *
  rw [Zoa] at hwv;rw [fitM] at hfit;have hwl := Zjy l
  have e : s ++ encM (liM l) = ((s ++ [40]) ++ Za3 l) ++ [41] := by rw [Zbz]; simp
  have hl2 := congrArg List.length e
  rw [List.length_append] at hl2;rw [e];rw [hl2] at hl;simp only [List.length_append,List.length_cons,List.length_nil] at hl
  refine Zab Tryz.func151 rfl Tryz.ntmps151 rfl ?_
  repeat (first|refine Yeb ?_|(refine X_id ?_;first|refine Yaf ?_|refine Yag ?_|refine Yan ?_|refine Ybg ?_|refine Ybh ?_|refine Yaq ?_|refine Yba (fun _ _ hS _ => ?_)|refine Ybe (fun _ _ hS _ => ?_))|refine Yfn ?_|refine Yab ?_)
  obtain ⟨_,hc,hr,hw,hbk⟩ := hS.call [false,false,true,true]
  refine Zaa _ rfl rfl rfl rfl rfl (Zpf p b q s _ [40] _ _ _ _ hq rfl hc (hr _ (List.mem_cons_self ..)).own_row (by simp; omega)) ?_
  rintro _ w ⟨rfl,b',q',hq',hS⟩
  replace hS := hbk hS
  clear hc hr hw hbk;repeat (first|refine Yeb ?_|refine Yaf ?_|refine Yan ?_|refine Yat ?_|refine Yaq ?_|refine Yee ?_|refine Yab ?_)
  refine Zaj (α := Nat × Option Addr × Nat) (fun z => [(0,.pointer (some ⟨p,0,none⟩)),(38,.slice a l.length c),(39,.int .i64 (l.length : Nat)),(40,.int .i64 (z.1 : Nat))])
   (fun z w => z.1 ≤ l.length ∧ ((s ++ [40]) ++ Za3 (l.take z.1)).length ≤ z.2.2 ∧ St W F (Wt p z.2.1 z.2.2 ((s ++ [40]) ++ Za3 (l.take z.1))) w) (fun z => l.length - z.1) (0,b',q') ⟨rfl,rfl,rfl,rfl,trivial⟩ ⟨Nat.zero_le _,by simpa [Za3] using hq',by rw [List.take_zero,Za3,List.append_nil]; exact hS.took⟩ ?_
  clear hS;rintro ⟨i,b2,q2⟩ w ⟨hi,hq2,hS2⟩
  simp only at hi hq2 hS2
  by_cases hlt : i < l.length
  ·obtain ⟨y,hyx⟩ : ∃ y,y = l[i] := ⟨_,rfl⟩
   have hy0 : l[i]? = some y := by rw [hyx]; exact List.getElem?_eq_getElem hlt
   have hymem : y ∈ l := List.mem_of_getElem? hy0
   have hyw := Zjx hymem
   obtain ⟨cs,hxs,hy⟩ := hx.at_ hy0
   obtain ⟨d1,e1,d2,e2,rows2,rfl,_⟩ := hy.lit
   have hr := hr0
   obtain ⟨ab,ao,rfl⟩ := hr.start.base (by
    intro e
    rw [e] at hxs;simp at hxs)
   have htk : Za3 (l.take (i + 1)) = Za3 (l.take i) ++ encM y := by
    rw [List.take_succ_eq_append_getElem hlt,← hyx,Zum]
   have hle := Zul l (i + 1)
   rw [htk,List.length_append] at hle;have hS := hS2
   repeat (first|refine Yeb ?_|(refine X_id ?_;first|refine Yaf ?_|refine Ya1 ?_|refine Ybd ?_|refine Ybi ?_|refine Ybq ?_|refine Yao (fun _ hS _ => ?_)|refine Yar (fun _ _ hS _ => ?_))|refine Yef ?_|refine Yab ?_)
   obtain ⟨_,hc,hr,hw,hbk⟩ := hS.call [false,true,true]
   refine Zaa _ rfl rfl rfl rfl rfl (ih y _ p b2 q2 _ _ _ hq2 (hy.mono fun _ _ h => hw _ h) (by omega) (hck y hymem) (fitMs_mem.1 hfit.2.2 y hymem) hc (by simp; omega) (hG.mono hw)) ?_
   rintro _ w ⟨rfl,b3,q3,hq3,hS⟩
   replace hS := hbk hS
   clear hc hr hw hbk;repeat (first|refine Yeb ?_|refine Yeg ?_|refine Yad ?_|refine Yej ?_)
   refine Zae (z := (i,b2,q2)) (i + 1,b3,q3) ⟨rfl,rfl,rfl,rfl,trivial⟩ ⟨hlt,?_,?_⟩ (by dsimp only; omega)
   ·rw [htk,← List.append_assoc]; exact hq3
   ·rw [htk,← List.append_assoc]; exact hS.took
  ·obtain rfl : i = l.length := by omega
   have hS := hS2
   rw [List.take_length] at hS hq2;repeat (first|refine Yeb ?_|refine Yaf ?_|refine Yaz ?_|refine Ybe (fun _ _ hS _ => ?_)|refine Yeo ?_|refine Yeh ?_)
   obtain ⟨_,hc,hr,hw,hbk⟩ := hS.call [false,true,true]
   refine Zaa _ rfl rfl rfl rfl rfl (Zpf p b2 q2 _ _ [41] _ _ _ _ hq2 rfl hc (hr _ (List.mem_cons_self ..)).own_row (by simp; omega)) ?_
   rintro _ w ⟨rfl,b3,q3,hq3,hS⟩
   replace hS := hbk hS
   clear hc hr hw hbk;repeat (first|refine Yac ?_|refine Yas ?_|refine Ybu ?_)
   exact ⟨rfl,b3,q3,hq3,hS.took⟩
theorem Z0j (v : Mv) (cs : List Value) (W : World) (hv : Mrd (RoR W noF) v cs) (hwv : wM v ≤ 1048576) (hfit : fitM v) (hl : (encM v).length ≤ 131072) (hG : Lg W noF) :
  Calls Tryz.prog 101 #[.agg (List.toArray cs)] W (Ret fun u w => (chkM 8 v ≠ 0 ∧ u = .tuple #[.slice none 0 0,.int .i64 (chkM 8 v)] ∧ St W noF [] w) ∨ (chkM 8 v = 0 ∧ ∃ b q,u = .tuple #[.slice b (encM v).length q,.int .i64 0] ∧ (encM v).length ≤ q ∧ St W noF [own 5 1 b q (bv (encM v))] w)) := by
 have hS := St.start W
 have hck := fun W h => Z3r 8 v cs 1 W noF rfl h hwv
 obtain ⟨a1,c1,a2,c2,rows,rfl,_⟩ := hv.lit
 obtain ⟨e,he⟩ : ∃ e,e = chkM 8 v := ⟨_,rfl⟩
 rw [← he] at hck ⊢;by_cases h0 : e = 0
 ·subst h0
  refine Zab Tryz.func101 rfl Tryz.ntmps101 rfl ?_
  repeat (first|refine Yeb ?_|(refine X_id ?_;first|(refine Zac 150 rfl rfl rfl rfl rfl hS (hck _ (hv.mono fun _ _ h => (h.rd hS).ro)) ?_;rintro _ _ rfl hS)|refine Yaf ?_|refine Yag ?_|refine Ybc ?_|refine Ybm ?_|refine Ybi ?_|refine Yba (fun _ _ hS _ => ?_))|refine Yen ?_|refine Yab ?_)
  rename_i p _ _;replace hS := hS.head (r' := pts p (.cells (List.toArray [.slice none 0 0,.bool false]) 273 (0,0))) (fun _ h => h)
  replace hS := hS.own_none 5 1 none
  have hS := hS.pick [1,0,0]
  obtain ⟨_,hc,hr,hw,hbk⟩ := hS.call [true,true,false]
  refine Zaa _ rfl rfl rfl rfl rfl (Zyu 8 v _ p none 0 [] _ _ (Nat.le_refl _) (hv.mono fun _ _ h => hw _ h) hwv he.symm hfit hc (by simpa using hl) (hG.mono hw)) ?_
  rintro _ w ⟨rfl,b,q,hq,hS⟩
  replace hS := hbk hS
  clear hc hr hw hbk;rw [List.nil_append] at hS hq;repeat (first|refine Yeb ?_|(refine X_id ?_;first|refine Yaf ?_|refine Yag ?_|refine Yau ?_|refine Yan ?_|refine Yaq ?_)|refine Ye1 ?_|refine Ye0 ?_)
  refine .inr ⟨rfl,b,q,rfl,hq,?_⟩
  have hS := hS.pick [1]
  exact hS
 ·refine Zab Tryz.func101 rfl Tryz.ntmps101 rfl ?_
  repeat (first|refine Yeb ?_|(refine X_id ?_;first|(refine Zac 150 rfl rfl rfl rfl rfl hS (hck _ (hv.mono fun _ _ h => (h.rd hS).ro)) ?_;rintro _ _ rfl hS)|refine Yaf ?_|refine Yag ?_|refine Ybj ?_|refine Ybi ?_|refine Yba (fun _ _ hS _ => ?_))|refine Yet ?_|refine Ye7 ?_)
  exact .inl ⟨h0,rfl,hS.drops⟩
def nmC (x : Nm) : List Value := [.string (str x.1),.int .i64 x.2]
def nmV (l : List Nm) : List Value := l.flatMap nmC
theorem Zkd : ∀ l : List Nm,(nmV l).length = l.length * 2
 | [] => rfl
 | x :: l => by
  have := Zkd l
  simp only [nmV,List.flatMap_cons,List.length_append,nmC,List.length_cons,List.length_nil] at this ⊢; omega
theorem Zke : ∀ {l : List Nm} {i : Nat} {x : Nm},l[i]? = some x → ((nmV l).drop (i * 2)).take 2 = nmC x
 | [],i,x,h => by simp at h
 | y :: l,0,x,h => by
  obtain rfl : y = x := by simpa using h
  simp [nmV,nmC]
 | y :: l,i + 1,x,h => by
  have := Zke (l := l) (i := i) (x := x) (by simpa using h)
  rw [nmV,List.flatMap_cons,List.drop_append];simp only [nmC,List.length_cons,List.length_nil]
  rw [show (i + 1) * 2 - (0 + 1 + 1) = i * 2 by omega,List.drop_of_length_le (by simp; omega),List.nil_append]
  exact this
theorem Zm0 (l m : List Nm) : nmV (l ++ m) = nmV l ++ nmV m := by simp [nmV]
theorem Zmn (a : Option Addr) (l : List Nm) (c : Nat) (W : World) (hr : Ro W noF (row a (nmV l))) (hl : NmOk l) (hG : Lg W noF) :
  Calls Tryz.prog 51 #[.slice a l.length c] W (Ret fun v w => ∃ b q,v = .slice b (wrD l).length q ∧ (wrD l).length ≤ q ∧ St W noF [own 5 1 b q (bv (wrD l))] w) := by
 have hS := St.start W
 have hlen := hl.1
 have h0 : Ro W noF (row none ([] : List (List Value)).flatten) := Zh5 _ _ _
 refine Zab Tryz.func51 rfl Tryz.ntmps51 rfl ?_
 repeat (first|refine Yeb ?_|refine Yag ?_|refine Yec ?_|refine Yab ?_)
 refine Zaa _ rfl rfl rfl rfl rfl (of_M none [] 0 [] _ h0 .nil (by simp [wMs])) ?_
 rintro _ w ⟨b,q,rows,X,rfl,hq,hMs,hS'⟩
 replace hS := hS.plus hS';clear hS';have hrow0 : rows = [] := List.eq_nil_of_length_eq_zero (by simpa using hMs.1)
 subst hrow0
 repeat (first|refine Yeb ?_|refine Yaf ?_|refine Yat ?_|refine Yao (fun _ hS _ => ?_)|refine Yar (fun _ _ hS _ => ?_)|refine Yee ?_|refine Yab ?_)
 rename_i b3 _ _ _ _ _;have hS2 : St W noF [own 206 4 b q ([] : List (List Value)).flatten,bag X,pts b3 (.cells (List.toArray [.int .i64 2,.int .i64 0,.slice none 0 0,.slice b 0 q]) 206 (0,0))] _ := hS.took
 clear hS;refine Zaj (α := Nat × Option Addr × Nat) (fun z => [(3,.pointer (some ⟨b3,0,none⟩)),(9,.slice a l.length c),(10,.int .i64 (l.length : Nat)),(11,.int .i64 (z.1 : Nat))])
  (fun z w => z.1 ≤ l.length ∧ z.1 ≤ z.2.2 ∧ ∃ rows X,Mrds (RX X) ((l.take z.1).map Zeh) rows ∧ St W noF [own 206 4 z.2.1 z.2.2 rows.flatten,bag X,pts b3 (.cells (List.toArray [.int .i64 2,.int .i64 0,.slice none 0 0,.slice z.2.1 z.1 z.2.2]) 206 (0,0))] w)
  (fun z => l.length - z.1) (0,b,q) ⟨rfl,rfl,rfl,rfl,trivial⟩ ⟨Nat.zero_le _,Nat.zero_le _,[],X,.nil,hS2⟩ ?_
 clear hS2;rintro ⟨i,b,q⟩ w ⟨hi,hiq,rows,X,hMs,hS2⟩
 simp only at hi hiq hMs hS2
 have hrl : rows.flatten.length = i * 4 := by rw [hMs.flat,List.length_map,List.length_take,Nat.min_eq_left hi]
 by_cases hlt : i < l.length
 ·obtain ⟨y,hyx⟩ : ∃ y,y = l[i] := ⟨_,rfl⟩
  have hy0 : l[i]? = some y := by rw [hyx]; exact List.getElem?_eq_getElem hlt
  have hyo := hl.2 y (List.mem_of_getElem? hy0)
  have hxs := Zke hy0
  unfold nmC at hxs
  obtain ⟨ab,ao,rfl⟩ := hr.start.base (by
   intro e
   rw [e] at hxs;simp at hxs)
  have hS := hS2
  repeat (first|refine Yeb ?_|(refine X_id ?_;first|refine Ya1 ?_|refine Ybd ?_|refine Ybq ?_|refine Yao (fun _ hS _ => ?_)|refine Yar (fun _ _ hS _ => ?_))|refine Yef ?_|refine Yab ?_)
  refine Zao (.s 0 (.s 1 (.s 2 (.s 3 (.s 5 (.s 6 (.h 4 (.h 7 (.h 8 (.h 9 (.h 10 (.h 11 (.s 12 (.h 13 .nil .no)) .no) .no) .no) .no) .no) .no))))))) mixed (by kernel_rfl) rfl ?_
  have hS := hS.drew
  repeat (first|(refine Zaf ?_;first|refine Ybk ?_|refine Ybn ?_|refine Yax ?_))
  refine Zaa _ rfl rfl rfl rfl rfl (Z4h y.1 _) ?_
  rintro _ w ⟨b1,c1,Y,rfl,hY,hS'⟩
  replace hS := hS.plus hS';clear hS';repeat (first|(refine Zaf ?_;first|refine Yax ?_)|(refine Zad ?_;first|refine Yay ?_))
  refine Zaa _ rfl rfl rfl rfl rfl (Z83 y.2 _) ?_
  rintro _ w ⟨rfl,hS'⟩
  replace hS := hS.plus hS';clear hS';repeat (first|refine Ybe (fun _ _ hS _ => ?_)|(refine Zaf ?_;first|refine Yax ?_)|(refine Zad ?_;first|refine Yay ?_))
  have hr2 := (hS.rd (List.mem_cons_self ..)).own_row.ro
  have hM2 : Mrds (RoR _ noF) [txM y.1,nuM y.2] [[.int .i64 1,.int .i64 0,.slice b1 y.1.length c1,.slice none 0 0],[.int .i64 0,.int .i64 y.2,.slice none 0 0,.slice none 0 0]] := (Mrds.nil.snoc (hY.ro (hS.rd (r := bag Y) (by simp)).ro)).snoc (Z6b (fun a => Zh5 _ _ a) y.2)
  refine Zaa _ rfl rfl rfl rfl rfl (of_M _ [txM y.1,nuM y.2] 2 [[.int .i64 1,.int .i64 0,.slice b1 y.1.length c1,.slice none 0 0],[.int .i64 0,.int .i64 y.2,.slice none 0 0,.slice none 0 0]] _ hr2 hM2 (by simp only [wMs,Zoa,List.length_nil]; omega)) ?_
  rintro _ w ⟨b4,q4,rows4,Z,rfl,_,hZ,hS'⟩
  replace hS := hS.plus hS';clear hS';simp only [List.length_cons,List.length_nil,Nat.zero_add,Nat.reduceAdd]
  repeat (first|refine Ybe (fun _ _ hS _ => ?_)|(refine Zaf ?_;first|refine Yax ?_)|(refine Zad ?_;first|refine Yay ?_))
  have hnw := (hS.rd (List.mem_cons_self ..)).own_row
  refine Zas rfl rfl rfl rfl rfl hS hrl hiq hnw rfl (by simp [Value.oneCell']) (by omega) (by simp only [maxLen]; omega) (fun b' q' w hS hq' _ => ?_)
  repeat (first|refine Yeb ?_|refine Yeg ?_|refine Yao (fun _ hS _ => ?_)|refine Yad ?_|refine Yej ?_|(refine Zaf ?_;first|refine Ya2 ?_|refine Ybk ?_|refine Yax ?_)|(refine Zad ?_;first|refine Yay ?_))
  refine Zae (z := (i,b,q)) (i + 1,b',q') ⟨rfl,rfl,rfl,rfl,trivial⟩ ⟨hlt,hq',rows ++ [[.int .i64 2,.int .i64 0,.slice none 0 0,.slice b4 2 q4]],((b4,rows4.flatten) :: Z) ++ X,?_,?_⟩ (by dsimp only; omega)
  ·rw [List.take_succ_eq_append_getElem hlt,← hyx,List.map_append]
   refine (hMs.mono fun _ _ h => h.right).snoc ?_
   exact Mrd.mk' (l := [txM y.1,nuM y.2]) rfl rfl (Nat.zero_le _) .nil (.mem (List.mem_append_left _ (List.mem_cons_self ..))) hZ.1 fun i y cs h1 h2 => (hZ.2 i y cs h1 h2).mono fun _ _ h => h.tail.left
  ·have hS : St W noF [own 206 4 b4 q4 rows4.flatten,bag Z,bag X,own 206 4 b' q' (rows.flatten ++ [.int .i64 2,.int .i64 0,.slice none 0 0,.slice b4 2 q4]),pts b3 (.cells (List.toArray [.int .i64 2,.int .i64 0,.slice none 0 0,.slice b' (i + 1) q']) 206 (0,0))] _ := hS.took
   have hS := (hS.bagAdd (a := b4) (cs := rows4.flatten) fun _ h => h.row).bagJoin
   rw [List.flatten_append]
   simpa using hS.took (out := [own 206 4 b' q' (rows.flatten ++ [.int .i64 2,.int .i64 0,.slice none 0 0,.slice b4 2 q4]),bag (((b4,rows4.flatten) :: Z) ++ X),pts b3 (.cells (List.toArray [.int .i64 2,.int .i64 0,.slice none 0 0,.slice b' (i + 1) q']) 206 (0,0))])
 ·obtain rfl : i = l.length := by omega
  have hS := hS2
  rw [List.take_length] at hMs;repeat (first|refine Yeb ?_|refine Yaz ?_|refine Ybi ?_|refine Yeo ?_|refine Yeh ?_)
  have hS3 : St W noF [own 206 4 b q rows.flatten,bag X] _ := hS.took
  have hS4 := hS3.bagAdd (a := b) (cs := rows.flatten) fun _ h => h.row
  have hv : Mrd (RX ((b,rows.flatten) :: X)) (dirM l) [.int .i64 2,.int .i64 0,.slice none 0 0,.slice b l.length q] :=
   .mk' rfl (by rw [List.length_map]) (Nat.zero_le _) .nil (.mem (List.mem_cons_self ..)) hMs.1 fun i y cs h1 h2 => (hMs.2 i y cs h1 h2).mono fun _ _ h => h.tail
  refine Zaa _ rfl rfl rfl rfl rfl (Z0j (dirM l) _ _ (hv.ro (hS4.rd (List.mem_cons_self ..)).ro) (Z10 hl) (Zsu hl.2) (by have := Zu5 hl; unfold wrD at this; omega) (hG.at_ hS)) ?_
  rintro _ w (⟨h,_⟩ | ⟨_,b',q',rfl,hq',hS'⟩)
  ·exact absurd (Zs0 l) h
  replace hS := hS.plus hS';clear hS';repeat (first|refine Yeb ?_|refine Ye5 ?_|refine Yep ?_|refine Yed ?_)
  have hS : St W noF [own 5 1 b' q' (bv (encM (dirM l)))] _ := hS.took
  exact ⟨b',q',rfl,hq',hS⟩
theorem Z02 (a : Option Addr) (s : List UInt8) (c : Nat) (W : World) (hb : Ro W noF (bytes a s)) (hsc : s.length ≤ c) (hl : s.length ≤ 512) (hG : Lg W noF) :
  Calls Tryz.prog 78 #[.slice a s.length c] W (Ret fun v w => ∃ b q,v = .slice b (rdD s).length q ∧ St W noF [own 93 2 b q (nmV (rdD s))] w) := by
 have hS := St.start W
 have hD := Z0m a s c hsc (by omega)
 unfold rdD
 refine Zab Tryz.func78 rfl Tryz.ntmps78 rfl ?_
 repeat (first|refine Yeb ?_|refine Yeq ?_|refine Yec ?_|refine Yab ?_)
 refine Zaa _ rfl rfl rfl rfl rfl (hD _ (hG.at_ hS) ((hb.rd hS).ro)) ?_
 rintro v w hV
 cases hd : decM s with
 | none =>
  rw [hd] at hV;obtain ⟨e,rfl,he,hS'⟩ := hV
  replace hS := hS.plus hS';clear hS';repeat (first|refine Yeb ?_|(refine X_id ?_;first|refine Yaf ?_|refine Yag ?_|refine Yan ?_|refine Ya0 ?_|refine Yat ?_|refine Yaq ?_|refine Yao (fun _ hS _ => ?_)|refine Yar (fun _ _ hS _ => ?_))|refine Yee ?_|refine Yab ?_)
  refine Zaj (α := Unit) (fun _ => [(5,.slice none 0 0),(15,.int .i64 0),(16,.int .i64 0)]) (fun _ w => St W noF [] w) (fun _ => 0) () ⟨rfl,rfl,rfl,trivial⟩ hS.drops ?_
  clear hS;rintro _ w hS
  repeat (first|refine Yeb ?_|refine Yfj ?_|refine Yek ?_|refine Yfd ?_)
  exact ⟨_,_,rfl,hS.own_none _ _ _⟩
 | some t =>
  rw [hd] at hV;obtain ⟨cs,X,rfl,hM,hS'⟩ := hV
  replace hS := hS.plus hS';clear hS';obtain ⟨k,n,tb,l⟩ := t
  obtain ⟨a1,c1,a2,c2,rows,rfl,hc1,hb1,hr1,hMs⟩ := hM.lit
  simp only [Mv.kind,Mv.num,Mv.txt,Mv.lst] at *
  have hll := Zma hd
  simp only [Mv.lst] at hll
  repeat (first|refine Yeb ?_|(refine X_id ?_;first|refine Yaf ?_|refine Yag ?_|refine Yan ?_|refine Ya0 ?_|refine Yat ?_|refine Yaq ?_|refine Yao (fun _ hS _ => ?_)|refine Yar (fun _ _ hS _ => ?_))|refine Yee ?_|refine Yab ?_)
  have hS : St W noF [bag X] _ := hS.took
  obtain ⟨F2,hS2,hro,hw,hbk⟩ := hS.call []
  have hX := hro _ (List.mem_cons_self ..)
  rename_i w1 _ _;refine Zaj (α := Nat × Option Addr × Nat × Nat) (fun z => [(5,.slice z.2.1 z.2.2.1 z.2.2.2),(14,.slice a2 l.length c2),(15,.int .i64 (l.length : Nat)),(16,.int .i64 (z.1 : Nat))])
   (fun z w => z.1 ≤ l.length ∧ z.2.2.1 = ((l.take z.1).filterMap Zfr).length ∧ z.2.2.1 ≤ z.2.2.2 ∧ St _ F2 [own 93 2 z.2.1 z.2.2.2 (nmV ((l.take z.1).filterMap Zfr))] w) (fun z => l.length - z.1) (0,none,0,0) ⟨rfl,rfl,rfl,rfl,trivial⟩ ⟨Nat.zero_le _,rfl,Nat.le_refl _,hS2.own_none _ _ _⟩ ?_
  clear hS hS2;rintro ⟨i,b,n,q⟩ w ⟨hi,hn,hnq,hS2⟩
  simp only at hi hn hnq hS2
  by_cases hlt : i < l.length
  ·obtain ⟨y,hyx⟩ : ∃ y,y = l[i] := ⟨_,rfl⟩
   have hy0 : l[i]? = some y := by rw [hyx]; exact List.getElem?_eq_getElem hlt
   have htk : l.take (i + 1) = l.take i ++ [y] := by rw [List.take_succ_eq_append_getElem hlt,← hyx]
   obtain ⟨cs,hxs,hy⟩ := hMs.at_ hy0
   obtain ⟨d1,e1,d2,e2,rows2,rfl,_,_,hr2X,hM2⟩ := hy.lit
   have hr := hr1.ro hX
   obtain ⟨ab,ao,rfl⟩ := hr.start.base (by
    intro e
    rw [e] at hxs;simp at hxs)
   have hS := hS2
   by_cases h2 : y.lst.length = 2
   ·obtain ⟨u,v,huv⟩ : ∃ u v,y.lst = [u,v] := by
     match hh : y.lst with
     | [] => rw [hh] at h2; simp at h2
     | [_] => rw [hh] at h2; simp at h2
     | [u,v] => exact ⟨u,v,rfl⟩
     | _ :: _ :: _ :: _ => rw [hh] at h2; simp at h2
    rw [huv] at hM2;obtain ⟨cu,hcu,hu⟩ := hM2.at_ (i := 0) rfl
    obtain ⟨cv,hcv,hv⟩ := hM2.at_ (i := 1) rfl
    obtain ⟨f1,g1,f2,g2,rows3,rfl,_,hbu,_⟩ := hu.lit
    obtain ⟨f3,g3,f4,g4,rows4,rfl,_⟩ := hv.lit
    have hen : Zfr y = some (u.txt,v.num) := by unfold Zfr; rw [huv]
    repeat (first|refine Yeb ?_|(refine X_id ?_;first|refine Yan ?_|refine Yat ?_|refine Ybg ?_|refine Ya1 ?_|refine Ybd ?_|refine Yaq ?_|refine Ybq ?_|refine Yao (fun _ hS _ => ?_)|refine Yar (fun _ _ hS _ => ?_))|refine Yef ?_|refine Yab ?_)
    have hr := hr2X.ro hX
    obtain ⟨xb,xo,rfl⟩ := hr.start.base (by
     intro e
     rw [e] at hcu;simp at hcu)
    have hx : rows2.flatten[2]? = some (.slice f1 u.txt.length g1) := by
     have := congrArg (fun l => l[2]?) hcu
     simpa [List.getElem?_take,List.getElem?_drop] using this
    have hr2 := hr
    have hx2 : rows2.flatten[5]? = some (.int .i64 v.num) := by
     have := congrArg (fun l => l[1]?) hcv
     simpa [List.getElem?_take,List.getElem?_drop] using this
    have hb := hbu.ro hX
    refine Zao (.s 0 (.s 1 (.s 2 (.s 3 (.s 4 (.s 5 (.s 6 (.s 7 (.s 8 (.s 9 (.s 10 (.s 11 (.s 12 (.h 13 (.h 14 (.s 15 .nil) .no) .no)))))))))))))) mixed (by kernel_rfl) rfl ?_
    have hS := hS.drew
    repeat (first|refine Ybe (fun _ _ hS _ => ?_)|(refine Zaf ?_;first|refine Ya6 ?_|refine Ybk ?_|refine Ydl ?_|refine Ycd ?_|refine Yca ?_|refine Ybn ?_|refine Ydk ?_|refine Yax ?_|refine Zbp (fun w' => w'.cell? _ = some _) rfl rfl ((hr2.rd hS).cellF (by first|omega|(dsimp only;omega)) hx2) (fun _ hc => Zau rfl rfl hc) rfl rfl ?_|refine Zbp (fun w' => Rd w' (bytes _ _)) rfl rfl (hb.rd hS) (fun _ h => Zcz rfl rfl h rfl) rfl rfl ?_)|(refine Zad ?_;first|refine Yay ?_))
    have hnw := (hS.rd (List.mem_cons_self ..)).own_row
    have hni : n ≤ i := by
     have := List.length_filterMap_le Zfr (l.take i)
     rw [List.length_take] at this; omega
    refine Zas rfl rfl rfl rfl rfl hS (by rw [Zkd,hn]) hnq hnw rfl (by simp [Value.oneCell']) (by dsimp only; omega) (by simp only [maxLen]; omega) (fun b' q' w hS hq' _ => ?_)
    repeat (first|refine Yeb ?_|refine Yeg ?_|refine Yad ?_|refine Yej ?_|(refine Zaf ?_;first|refine Ya2 ?_|refine Ybl ?_)|(refine Zad ?_;first|refine Yay ?_))
    have hre : (l.take (i + 1)).filterMap Zfr = (l.take i).filterMap Zfr ++ [(u.txt,v.num)] := by rw [htk,List.filterMap_append]; simp [hen]
    refine Zae (z := (i,b,n,q)) (i + 1,b',n + 1,q') ⟨rfl,rfl,rfl,rfl,trivial⟩ ⟨hlt,by rw [hre,List.length_append,← hn]; rfl,hq',?_⟩ (by dsimp only; omega)
    rw [hre,Zm0];have hS : St w1 F2 [own 93 2 b' q' (nmV ((l.take i).filterMap Zfr) ++ [.string (str u.txt),.int .i64 v.num])] _ := hS.took
    exact hS
   ·have hen : Zfr y = none := by
     unfold Zfr
     match hh : y.lst with
     | [] => rfl
     | [_] => rfl
     | [u,v] => rw [hh] at h2; simp at h2
     | _ :: _ :: _ :: _ => rfl
    repeat (first|refine Yeb ?_|(refine X_id ?_;first|refine Yaf ?_|refine Yan ?_|refine Yat ?_|refine Ybh ?_|refine Ya1 ?_|refine Ybd ?_|refine Yaw ?_|refine Yaq ?_|refine Ybq ?_|refine Yao (fun _ hS _ => ?_)|refine Yar (fun _ _ hS _ => ?_))|refine Yei ?_|refine Yej ?_)
    have hre : (l.take (i + 1)).filterMap Zfr = (l.take i).filterMap Zfr := by rw [htk,List.filterMap_append]; simp [hen]
    refine Zae (z := (i,b,n,q)) (i + 1,b,n,q) ⟨rfl,rfl,rfl,rfl,trivial⟩ ⟨hlt,by rw [hre]; exact hn,hnq,?_⟩ (by dsimp only; omega)
    rw [hre];exact hS.took
  ·obtain rfl : i = l.length := by omega
   have hS := hS2
   rw [List.take_length] at hn hS;repeat (first|refine Yeb ?_|refine Yfj ?_|refine Yek ?_|refine Yfd ?_)
   replace hS := hbk hS
   subst hn
   have hS : St W noF [own 93 2 b q (nmV (l.filterMap Zfr))] _ := hS.took
   exact ⟨b,q,rfl,hS⟩
def okC (c : UInt8) : Prop := (97 ≤ c.toNat ∧ c.toNat ≤ 122) ∨ (48 ≤ c.toNat ∧ c.toNat ≤ 57) ∨ c.toNat = 46 ∨ c.toNat = 45 ∨ c.toNat = 95
instance (c : UInt8) : Decidable (okC c) := by unfold okC; infer_instance
def nameOk (s : List UInt8) : Prop := 1 ≤ s.length ∧ s.length ≤ 24 ∧ s ≠ [46] ∧ s ≠ [46,46] ∧ ∀ c ∈ s,okC c
instance (s : List UInt8) : Decidable (nameOk s) := by unfold nameOk; infer_instance
theorem Z70 (c : UInt8) (W : World) : Calls Tryz.prog 135 #[.int .u8 (c.toNat : Int)] W (Ret fun v w => v = .bool (decide (okC c)) ∧ St W noF [] w) := by
 have hS := St.start W
 refine Zab Tryz.func135 rfl Tryz.ntmps135 rfl ?_
 repeat' (first | (refine G_id ?_; first | refine Zp2 ?_ | refine Ze9 rfl rfl ?_ | refine Z0w rfl rfl rfl rfl ?_ | refine G_no rfl rfl rfl rfl rfl rfl ?_ | refine Zmg rfl rfl rfl rfl rfl ?_) | (refine X_id ?_; first | refine X_yl (Zcn rfl rfl) rfl rfl ?_ | refine X_yl (Zbu rfl rfl) rfl rfl ?_ | refine X_yl (Zk6 rfl rfl rfl) rfl rfl ?_ | refine X_yl (Zh2 rfl rfl rfl) rfl rfl ?_ | refine X_yl (Zjp rfl rfl rfl (by omega)) rfl rfl ?_ | refine X_yl (Zs8 rfl rfl rfl (by omega)) rfl rfl ?_ | refine X_yl (Zjo rfl rfl rfl (by omega)) rfl rfl ?_ | refine X_yl (Zpv rfl rfl rfl) rfl rfl ?_ | refine X_yl (Zx1 rfl rfl rfl) rfl rfl ?_ | refine X_yl (Ztb rfl rfl rfl) rfl rfl ?_) | (refine C_id ?_; first | refine Zc1 ?_ | refine Zax ?_ | refine Zji ?_) | (refine E_id ?_; first | refine Zcq ?_ | refine Zh6 rfl (Zbj rfl) (Ret.mk ?_)) | (refine Zit (d := 5) rfl ?_ ?_ <;> intro hd) | (refine Zit (d := 9) rfl ?_ ?_ <;> intro hd) | (refine Zit (d := 12) rfl ?_ ?_ <;> intro hd) | (refine Zit (d := 17) rfl ?_ ?_ <;> intro hd) | (refine Zit (d := 21) rfl ?_ ?_ <;> intro hd) | (refine Zit (d := 25) rfl ?_ ?_ <;> intro hd) | (refine Ziv rfl ?_ ?_ <;> intro hd))
 all_goals
  refine ⟨?_,hS⟩
  congr 1
  unfold okC
  first | (symm; exact decide_eq_true (by omega)) | (symm; exact decide_eq_false (by omega)) | exact decide_eq_decide.2 (by omega)
end Cr
