/-
  Package codec: a reader takes a number and the byte behind it.
  Package codec,lists in lists too: a reader reads a list,given that it reads values.
  Package codec: a reader reads a value,lists in lists too: the parse in plain words (pvM) is what it does.
  Package codec: Next and Decode: what bytes say (decM).
  Package codec,lists in lists too: what is wrong with a value (chkM).
  Package codec: values made: Text,Int,Of; a leaf copied.
  Package codec: a writer; leaves and lists of leaves are written as encL and encT say.
  Package codec,lists in lists too: a right value is written as encM says; Encode.
  Layer 8 (tree): a directory's bytes written and read.
  Names: what package path and the document call one; path.sign.
  path.Name says nameOk.
-/
import Derived.Test.YtpbgaojjlepkcaaGreatDoorTba10
import Derived.Test.YtpbgaojjlepkcaaGreatDoorTba5
import Derived.Test.YtpbgaojjlepkcaaGreatDoorTba4
import Derived.Test.YtpbgaojjlepkcaaGreatDoorTba3
namespace Cr
open Go Go.Proofs
set_option maxRecDepth 100000
set_option maxHeartbeats 4000000
attribute [local irreducible] Calls

def Z4u (p : Nat) (a : Option Addr) (s : List UInt8) (c : Nat) (W : World) (F : Nat → Prop) (r : Option (Int × List UInt8)) (v : Value) (w : World) : Prop :=
 match r with
 | some (n,t) => v = .int .i64 n ∧ ∃ i,i ≤ s.length ∧ s.drop i = t ∧ St W F [Rdr p a s.length c i 0] w
 | none => v = .int .i64 0 ∧ ∃ i e,i ≤ s.length ∧ e ≠ 0 ∧ St W F [Rdr p a s.length c i e] w
instance : Und Tryz.prog 250 (.interface #[("Error", 253)]) := ⟨Tryz.underlying250⟩
theorem Lg.at_ {W : World} {F : Nat → Prop} {rs : List Res} {w : World} (H : Lg W F) (hS : St W F rs w) : Lg w noF := by
 obtain ⟨h1,tp,p,h2⟩ := H
 exact ⟨(h1.rd hS).ro,tp,p,(h2.rd hS).ro⟩
theorem Z5c (d : List UInt8) : ∀ a,(∀ c ∈ d,dig c = true) → (∃ u,Lib.parseUint10 a d = .ok u) ∨ Lib.parseUint10 a d = .range := by
 induction d with
 | nil => intro a _; exact .inl ⟨a,by rw [Lib.parseUint10]⟩
 | cons c d ih =>
  intro a hd
  rw [Lib.parseUint10,if_pos (dig_iff.1 (hd c (List.mem_cons_self ..)))]
  split
  ·exact .inr rfl
  ·split
   ·exact .inr rfl
   ·exact ih _ fun x hx => hd x (List.mem_cons_of_mem _ hx)
theorem Zzq {d : List UInt8} (h0 : d ≠ []) (hd : ∀ c ∈ d,dig c = true) : (∃ u,Lib.parseMag d = .ok u) ∨ Lib.parseMag d = .range := by
 unfold Lib.parseMag
 rw [if_neg h0]
 exact Z5c d 0 hd
theorem Zt6 {below : Bool} {l : List UInt8} (h : ¬ badN (numS below l)) : (∃ v,Lib.atoiAll (numS below l) = .ok v) ∨ Lib.atoiAll (numS below l) = .range := by
 have key : ∀ (neg : Prop) [Decidable neg] (u : Nat),(∃ v,(if ¬ neg ∧ 9223372036854775808 ≤ u then Lib.NumEnd.range else if neg ∧ 9223372036854775808 < u then .range else .ok (if neg then -(u : Int) else u)) = .ok v) ∨
   (if ¬ neg ∧ 9223372036854775808 ≤ u then Lib.NumEnd.range else if neg ∧ 9223372036854775808 < u then .range else .ok (if neg then -(u : Int) else u)) = .range := fun neg _ u => by
  split
  ·exact .inr rfl
  ·split
   ·exact .inr rfl
   ·exact .inl ⟨_,rfl⟩
 obtain ⟨d,hd,hs | ⟨hs,_⟩⟩ := Zh1 below l
 ·rw [hs] at h ⊢
  cases d with
  | nil => exact absurd (.inl rfl) h
  | cons c d =>
   have hc := Z1a (hd c (List.mem_cons_self ..))
   unfold Lib.atoiAll
   simp only
   rw [if_neg hc.2]
   rcases Zzq (by simp) hd with ⟨u,hu⟩ | hu
   ·rw [hu]; exact key _ u
   ·rw [hu]; exact .inr rfl
 ·rw [hs] at h ⊢
  unfold Lib.atoiAll
  simp only
  rw [if_pos (.inr rfl)]
  rcases Zzq (fun hn => h (.inr (.inl (by rw [hn])))) hd with ⟨u,hu⟩ | hu
  ·rw [hu]; exact key _ u
  ·rw [hu]; exact .inr rfl
theorem Zo7 (p : Nat) (a : Option Addr) (s : List UInt8) (c : Nat) (hsc : s.length ≤ c) (i : Nat) (below : Bool) (k : UInt8) (W : World) (F : Nat → Prop) (hS : St W F [Rdr p a s.length c i 0] W) (hb : Ro W F (bytes a s)) (hl : s.length ≤ 1099511627776) (hi : i ≤ s.length) (hG : Lg W F) :
  Calls Tryz.prog 182 #[.pointer (some ⟨p,0,none⟩),.bool below,.int .u8 (k.toNat : Int)] W (Ret fun v w => Z4u p a s c W F (num below k (s.drop i)) v w) := by
 have hdg := Z1w p a s c hsc i 0 below
 have hT := Zha below (s.drop i)
 have hTl := Z09 below (s.drop i)
 have hsy := Zt6 (below := below) (l := s.drop i)
 unfold num
 generalize numS below (s.drop i) = T at hdg hT hTl hsy ⊢
 rw [List.length_drop] at hTl
 have hz := Zcc T
 have hTl' : i + T.length ≤ s.length := by omega
 rw [List.drop_drop]
 refine Zab Tryz.func182 rfl Tryz.ntmps182 rfl ?_
 repeat (first|refine Yd0 ?_|refine Yee ?_|refine Yd1 ?_|refine Yab ?_)
 obtain ⟨_,hc,hr,hw,hbk⟩ := hS.call [true]
 refine Zaa _ rfl rfl rfl rfl rfl (hdg _ _ hc (hw _ hb) hl hi) ?_
 rintro _ w ⟨rfl,hS⟩
 replace hS := hbk hS
 clear hc hr hw hbk
 repeat (first|refine Yd0 ?_|refine Yaf ?_|refine Yag ?_|refine Yau ?_|refine Yan ?_|refine Yd1 ?_|refine Yab ?_)
 have hm := Zh9 p a s.length c (i + T.length) 0
 by_cases hlt : i + T.length < s.length
 ·simp only [decide_eq_true hlt] at hm
  refine Zae 177 rfl rfl rfl rfl rfl hS (hm _ (hS.rd (List.mem_cons_self ..))) ?_
  rintro _ w rfl hS
  have hdr := List.drop_eq_getElem_cons hlt
  generalize hx0 : s[i + T.length] = x at hdr
  have hx : s[i + T.length]? = some x := by rw [List.getElem?_eq_getElem hlt,hx0]
  rw [hdr]
  simp only
  have hq := is_ p a s c (i + T.length) 0 k
  refine Zfl rfl rfl ?_
  refine X_yl (Zi8 rfl rfl) rfl rfl ?_
  refine Zpr ?_
  refine Zdv ?_
  refine Zbd rfl ?_
  refine Ze2 ?_
  refine Zdv ?_
  refine Zc4 ?_
  refine Zc4 ?_
  refine Zps (α := Bool) (fun b => [(0,.pointer (some ⟨p,0,none⟩)),(2,.int .u8 (k.toNat : Int)),(7,.string (str T)),(57,.bool b)]) (fun b w => (b = true ↔ badN T ∨ x ≠ k) ∧ St W F [Rdr p a s.length c (i + T.length) 0] w) ?_ ?_
  ·by_cases h1 : T = []
   ·repeat (first|refine Yac ?_|refine Yaa ?_|refine Ybg ?_|refine Yc1 ?_|refine Yaf ?_|refine Ya5 ?_|refine Ycv ?_|refine Yad ?_)
    exact Zbi true ⟨rfl,rfl,rfl,rfl,trivial⟩ ⟨⟨fun _ => .inl (.inl h1),fun _ => rfl⟩,hS⟩
   ·by_cases h2 : T = [45]
    ·repeat (first|refine Yac ?_|refine Yaa ?_|refine Yaw ?_|refine Ybg ?_|refine Yc1 ?_|(refine X_id ?_;first|refine Yaf ?_|refine Ya5 ?_|refine Ya4 ?_|refine Ycv ?_|refine Ycq ?_)|refine Yad ?_)
     exact Zbi true ⟨rfl,rfl,rfl,rfl,trivial⟩ ⟨⟨fun _ => .inl (.inr (.inl h2)),fun _ => rfl⟩,hS⟩
    ·by_cases h3 : T = [45,48]
     ·repeat (first|refine Yac ?_|refine Yaa ?_|refine Yaw ?_|refine Ybg ?_|refine Yc1 ?_|(refine X_id ?_;first|refine Yaf ?_|refine Ya5 ?_|refine Ya4 ?_|refine Ycv ?_|refine Ycq ?_)|refine Yad ?_)
      exact Zbi true ⟨rfl,rfl,rfl,rfl,trivial⟩ ⟨⟨fun _ => .inl (.inr (.inr (.inl h3))),fun _ => rfl⟩,hS⟩
     ·obtain ⟨t,r,ht⟩ : ∃ t r,T = t :: r := by
       cases T with
       | nil => exact absurd rfl h1
       | cons t r => exact ⟨t,r,rfl⟩
      have ht0 : T[(0 : Int).toNat]? = some t := by rw [ht]; rfl
      have hth : T.head? = some t := by rw [ht]; rfl
      by_cases h4 : (t.toNat : Int) = 48 ∧ 1 < T.length
      ·obtain ⟨h4,h5⟩ := h4
       repeat (first|refine Yac ?_|refine Yaa ?_|refine Yaw ?_|refine Ybg ?_|refine Yc1 ?_|(refine X_id ?_;first|refine Yaf ?_|refine Ya5 ?_|refine Ya4 ?_|refine Ycp ?_|refine Ybi ?_|refine Ybx ?_|refine Ycq ?_|refine Yc7 ?_)|refine Yad ?_)
       refine Zbi true ⟨rfl,rfl,rfl,rfl,trivial⟩ ⟨⟨fun _ => .inl (.inr (.inr (.inr (.inl ⟨?_,h5⟩)))),fun _ => rfl⟩,hS⟩
       rw [hth,show t = 48 from UInt8.toNat_inj.1 (by have : (48 : UInt8).toNat = 48 := rfl; omega)]
      ·by_cases h6 : 2 < T.length ∧ List.take (2 - 0) (List.drop 0 T) = [45,48]
       ·obtain ⟨h6,h7⟩ := h6
        have h4' : ¬ (t.toNat : Int) = 48 := fun h => h4 ⟨h,by omega⟩
        repeat (first|refine Yeu ?_|(refine X_id ?_;first|refine Yaf ?_|refine Ya5 ?_|refine Ya4 ?_|refine Ycp ?_|refine Ybh ?_|refine Ybx ?_|refine Ycv ?_|refine Ycq ?_|refine Yc7 ?_|refine Ydn ?_)|refine Yad ?_)
        exact Zbi true ⟨rfl,rfl,rfl,rfl,trivial⟩ ⟨⟨fun _ => .inl (.inr (.inr (.inr (.inr ⟨h6,by simpa using h7⟩)))),fun _ => rfl⟩,hS⟩
       ·have hgood : ¬ badN T := by
         rintro (h | h | h | ⟨h,h'⟩ | ⟨h,h'⟩)
         ·exact h1 h
         ·exact h2 h
         ·exact h3 h
         ·rw [hth] at h
          exact h4 ⟨by rw [Option.some.inj h]; rfl,h'⟩
         ·exact h6 ⟨h,by simpa using h'⟩
        have hcase : (¬ (t.toNat : Int) = 48 ∧ 2 < T.length ∧ ¬ List.take (2 - 0) (List.drop 0 T) = [45,48]) ∨ (¬ (t.toNat : Int) = 48 ∧ ¬ 2 < T.length) ∨ ((t.toNat : Int) = 48 ∧ ¬ 1 < T.length) := by
         by_cases q : (t.toNat : Int) = 48
         ·exact .inr (.inr ⟨q,fun h => h4 ⟨q,h⟩⟩)
         ·by_cases q2 : 2 < T.length
          ·exact .inl ⟨q,q2,fun h => h6 ⟨q2,h⟩⟩
          ·exact .inr (.inl ⟨q,q2⟩)
        have hlen : 1 ≤ T.length := by rw [ht]; simp
        clear ht hth
        by_cases hxk : s[i + T.length]? = some k
        ·have hxe : x = k := by rw [hx] at hxk; exact Option.some.inj hxk
         simp only [decide_eq_true hxk] at hq
         rcases hcase with ⟨q1,q2,q3⟩ | ⟨q1,q2⟩ | ⟨q1,q2⟩
         all_goals
          repeat (first|refine Yeu ?_|(refine X_id ?_;first|(refine Zae 179 rfl rfl rfl rfl rfl hS (hq _ (hS.rd (List.mem_cons_self ..)) (hb.rd hS)) ?_;rintro _ _ rfl hS)|refine Yaf ?_|refine Yau ?_|refine Yan ?_|refine Ya5 ?_|refine Ya4 ?_|refine Ybb ?_|refine Ycp ?_|refine Ybi ?_|refine Ybh ?_|refine Ybx ?_|refine Ybu ?_|refine Ycq ?_|refine Yc7 ?_|refine Ydn ?_)|refine Yad ?_)
          exact Zbi false ⟨rfl,rfl,rfl,rfl,trivial⟩ ⟨⟨fun h => (Bool.noConfusion h),fun h => (h.elim hgood (fun q => q hxe)).elim⟩,hS⟩
        ·have hxe : x ≠ k := fun h => hxk (by rw [hx,h])
         simp only [decide_eq_false hxk] at hq
         rcases hcase with ⟨q1,q2,q3⟩ | ⟨q1,q2⟩ | ⟨q1,q2⟩
         all_goals
          repeat (first|refine Yeu ?_|(refine X_id ?_;first|(refine Zae 179 rfl rfl rfl rfl rfl hS (hq _ (hS.rd (List.mem_cons_self ..)) (hb.rd hS)) ?_;rintro _ _ rfl hS)|refine Yaf ?_|refine Yau ?_|refine Yan ?_|refine Ya5 ?_|refine Ya4 ?_|refine Ybo ?_|refine Ycp ?_|refine Ybi ?_|refine Ybh ?_|refine Ybx ?_|refine Ybu ?_|refine Ycq ?_|refine Yc7 ?_|refine Ydn ?_)|refine Yad ?_)
          exact Zbi true ⟨rfl,rfl,rfl,rfl,trivial⟩ ⟨⟨fun _ => .inr hxe,fun _ => rfl⟩,hS⟩
  ·clear hS
   rintro bad w ⟨hbad,hS⟩
   cases bad with
   | true =>
    rw [if_pos (hbad.1 rfl)]
    repeat (first|refine Yaa ?_|refine Yaf ?_|refine Yea ?_)
    obtain ⟨_,hc,hr,hw,hbk⟩ := hS.call [true]
    refine Zaa _ rfl rfl rfl rfl rfl (Zjd p a s.length c (i + T.length) 0 3 _ _ hc) ?_
    rintro _ w ⟨rfl,hS⟩
    replace hS := hbk hS
    clear hc hr hw hbk
    repeat (first|refine Yd0 ?_|refine Yag ?_|refine Yed ?_|refine Yei ?_)
    exact ⟨rfl,_,3,hTl',by decide,hS⟩
   | false =>
    have hgood : ¬ (badN T ∨ x ≠ k) := fun h => by have := hbad.2 h; cases this
    rw [if_neg hgood]
    have hxk : x = k := Decidable.not_not.1 fun h => hgood (.inr h)
    have hsyn := hsy (fun h => hgood (.inl h))
    repeat (first|refine Yaa ?_|refine Yaf ?_|refine Yeb ?_|refine Yab ?_)
    refine Zae 226 rfl rfl rfl rfl rfl hS (Z5p T _ _ (hG.at_ hS) (by omega) hsyn) ?_
    rintro _ w ⟨n,er,rfl,hres⟩ hS
    rcases hres with ⟨hn,rfl⟩ | ⟨hn,t,pp,rfl⟩
    ·rw [hn]
     repeat (first|refine Yd0 ?_|(refine X_id ?_;first|refine Yaf ?_|refine Yag ?_|refine Ya1 ?_|refine X_yl (Zqx rfl rfl) rfl rfl ?_)|refine Yeb ?_|refine Yab ?_)
     obtain ⟨_,hc,hr,hw,hbk⟩ := hS.call [true]
     refine Zaa _ rfl rfl rfl rfl rfl (Zxq p a s c (i + T.length) 0 k _ _ hc (hw _ hb) hl) ?_
     rintro _ w ⟨rfl,hS⟩
     replace hS := hbk hS
     clear hc hr hw hbk
     repeat (first|refine Yd0 ?_|refine Yee ?_|refine Yed ?_|refine Yd2 ?_)
     rw [show Ze3 s (i + T.length) 0 k = (i + T.length + 1,0) by unfold Ze3; rw [if_neg (by simp),if_neg (by simpa using hlt),if_pos (by rw [hx,hxk])]] at hS
     exact ⟨rfl,_,by omega,rfl,hS⟩
    ·rw [hn]
     repeat (first|refine Yd0 ?_|(refine X_id ?_;first|refine Yaf ?_|refine Yag ?_|refine Ya1 ?_|refine X_yl (Zpe rfl rfl rfl) rfl rfl ?_)|refine Yea ?_|refine Yab ?_)
     obtain ⟨_,hc,hr,hw,hbk⟩ := hS.call [true]
     refine Zaa _ rfl rfl rfl rfl rfl (Zjd p a s.length c (i + T.length) 0 2 _ _ hc) ?_
     rintro _ w ⟨rfl,hS⟩
     replace hS := hbk hS
     clear hc hr hw hbk
     repeat (first|refine Yd0 ?_|refine Yag ?_|refine Yed ?_|refine Yei ?_)
     exact ⟨rfl,_,2,hTl',by decide,hS⟩
 ·simp only [decide_eq_false hlt] at hm
  rw [List.drop_of_length_le (by omega)]
  repeat (first|refine Yd0 ?_|(refine X_id ?_;first|(refine Zae 177 rfl rfl rfl rfl rfl hS (hm _ (hS.rd (List.mem_cons_self ..))) ?_;rintro _ _ rfl hS)|refine Yaf ?_|refine Ybo ?_)|refine Yea ?_|refine Yab ?_)
  obtain ⟨_,hc,hr,hw,hbk⟩ := hS.call [true]
  refine Zaa _ rfl rfl rfl rfl rfl (Zjd p a s.length c (i + T.length) 0 4 _ _ hc) ?_
  rintro _ w ⟨rfl,hS⟩
  replace hS := hbk hS
  clear hc hr hw hbk
  repeat (first|refine Yd0 ?_|refine Yag ?_|refine Yed ?_|refine Yei ?_)
  exact ⟨rfl,_,4,hTl',by decide,hS⟩
end Cr
namespace Cr
open Go Go.Proofs
set_option maxRecDepth 100000
set_option maxHeartbeats 4000000
attribute [local irreducible] Calls

def Z5s (p : Nat) (a : Option Addr) (s : List UInt8) (c : Nat) (W : World) (F : Nat → Prop) (r : Option (Mv × List UInt8)) (v : Value) (w : World) : Prop :=
 match r with
 | some (t,l) => ∃ cs X,v = .agg (List.toArray cs) ∧ Mrd (RX X) t cs ∧ ∃ i,i ≤ s.length ∧ s.drop i = l ∧ St W F [bag X,Rdr p a s.length c i 0] w
 | none => ∃ k n a1 n1 c1 a2 n2 c2,v = .agg (List.toArray [.int .i64 k,.int .i64 n,.slice a1 n1 c1,.slice a2 n2 c2]) ∧ ∃ i e,i ≤ s.length ∧ e ≠ 0 ∧ St W F [Rdr p a s.length c i e] w
def Z5w (p : Nat) (a : Option Addr) (s : List UInt8) (c : Nat) (W : World) (F : Nat → Prop) (r : Option (List Mv × List UInt8)) (v : Value) (w : World) : Prop :=
 match r with
 | some (x,l) => ∃ b q rows X,v = .slice b x.length q ∧ RX X b rows.flatten ∧ Mrds (RX X) x rows ∧ ∃ i,i ≤ s.length ∧ s.drop i = l ∧ St W F [bag X,Rdr p a s.length c i 0] w
 | none => ∃ b m q,v = .slice b m q ∧ ∃ i e,i ≤ s.length ∧ e ≠ 0 ∧ St W F [Rdr p a s.length c i e] w
def Znl (p : Nat) (a : Option Addr) (s : List UInt8) (c : Nat) (f : Nat) : Prop :=
 ∀ (i deep : Nat) (W : World) (F : Nat → Prop),i ≤ s.length → deep ≤ 9 → 2 * (s.length - i) + 1 ≤ f → Lg W F → Ro W F (bytes a s) → St W F [Rdr p a s.length c i 0] W →
  Calls Tryz.prog 115 #[.pointer (some ⟨p,0,none⟩),.int .i64 (deep : Nat)] W (Ret fun v w => Z5s p a s c W F (pvM f deep (s.drop i)) v w)
def Zw8 (p : Nat) (a : Option Addr) (s : List UInt8) (c : Nat) (f : Nat) : Prop :=
 ∀ (i deep : Nat) (W : World) (F : Nat → Prop),s[i]? = some 40 → deep ≤ 9 → 2 * (s.length - (i + 1)) + 2 ≤ f → Lg W F → Ro W F (bytes a s) → St W F [Rdr p a s.length c i 0] W →
  Calls Tryz.prog 180 #[.pointer (some ⟨p,0,none⟩),.int .i64 (deep : Nat)] W (Ret fun v w => Z5w p a s c W F (if 8 < deep then none else plM f deep (s.drop (i + 1))) v w)

theorem Zu3 (f deep : Nat) : pvM f deep [] = none := by cases f <;> simp [pvM]
theorem Zx6 (f deep : Nat) (l : List UInt8) (h : l.head? ≠ some 41) : plM (f + 1) deep l = match pvM f (deep + 1) l with
  | none => none
  | some (t,r') => match plM f deep r' with
   | none => none
   | some (x,r'') => some (t :: x,r'') := by
 cases l with
 | nil => rw [Zu3]; simp [plM]
 | cons c l =>
  rw [plM,if_neg (fun e => h (by rw [e]; rfl))]
  cases pvM f (deep + 1) (c :: l) with
  | none => rfl
  | some q =>
   obtain ⟨t,r'⟩ := q
   simp only
   cases plM f deep r' with
   | none => rfl
   | some q => rfl
def Z2d (top p : Nat) (a : Option Addr) (s : List UInt8) (c : Nat) (deep : Nat) (res : Option (List Mv × List UInt8)) (W : World) (F : Nat → Prop) (z : Nat × Option Addr × Nat × Nat) (w : World) : Prop :=
 (∃ f i x rows X,z.1 = f + 1 ∧ deep ≤ 8 ∧ f ≤ top ∧ z.2.2.1 = x.length ∧ x.length ≤ z.2.2.2 ∧ i ≤ s.length ∧ x.length ≤ i ∧ 2 * (s.length - i) + 2 ≤ f ∧ res = (plM f deep (s.drop i)).map (fun q => (x ++ q.1,q.2)) ∧ Mrds (RX X) x rows ∧
  St W F [own 38 4 z.2.1 z.2.2.2 rows.flatten,bag X,Rdr p a s.length c i 0] w) ∨
 (res = none ∧ ∃ i e,i ≤ s.length ∧ e ≠ 0 ∧ St W F [Rdr p a s.length c i e] w)
def Z5x (p : Nat) (a : Option Addr) (s : List UInt8) (c : Nat) (res : Option (List Mv × List UInt8)) (W : World) (F : Nat → Prop) (z : Option Addr × Nat × Nat) (w : World) : Prop :=
 (∃ i x rows X,z.2.1 = x.length ∧ s[i]? = some 41 ∧ res = some (x,s.drop (i + 1)) ∧ Mrds (RX X) x rows ∧
  St W F [own 38 4 z.1 z.2.2 rows.flatten,bag X,Rdr p a s.length c i 0] w) ∨
 (res = none ∧ ∃ i e,i ≤ s.length ∧ e ≠ 0 ∧ St W F [Rdr p a s.length c i e] w)
theorem Zye (p : Nat) (a : Option Addr) (s : List UInt8) (c : Nat) (hl : s.length ≤ 1099511627776) (f : Nat) (hv : ∀ g,g < f → Znl p a s c g) : Zw8 p a s c f := by
 intro i deep W F hi hd hf hG hb hS
 have hil := (List.getElem?_eq_some_iff.1 hi).1
 obtain ⟨res,hres⟩ : ∃ res,res = (if 8 < deep then none else plM f deep (s.drop (i + 1))) := ⟨_,rfl⟩
 rw [← hres]
 refine Zab Tryz.func180 rfl Tryz.ntmps180 rfl ?_
 repeat (first|refine Yd0 ?_|refine Yee ?_|refine Yd1 ?_|refine Yab ?_)
 obtain ⟨_,hc,hr,hw,hbk⟩ := hS.call [true]
 refine Zaa _ rfl rfl rfl rfl rfl (Zxq p a s c i 0 40 _ _ hc (hw _ hb) hl) ?_
 rintro _ w ⟨rfl,hS⟩
 replace hS := hbk hS
 clear hc hr hw hbk
 rw [show Ze3 s i 0 40 = (i + 1,0) by unfold Ze3; rw [if_neg (by simp),if_neg (by simpa using hil),if_pos hi]] at hS
 simp only at hS
 by_cases h8 : 8 < deep
 case' pos =>
  rw [if_pos h8] at hres
  repeat (first|refine Yd0 ?_|refine Yaf ?_|refine Ybx ?_|refine Yea ?_|refine Yab ?_)
  obtain ⟨_,hc,hr,hw,hbk⟩ := hS.call [true]
  refine Zaa _ rfl rfl rfl rfl rfl (Zjd p a s.length c (i + 1) 0 18 _ _ hc) ?_
  rintro _ w ⟨rfl,hS⟩
  replace hS := hbk hS
  clear hc hr hw hbk
  repeat (first|refine Yd0 ?_|refine Yag ?_|refine Yd3 ?_|refine Yab ?_)
  have hI : ∃ z0,Z2d f p a s c deep res W F (z0,none,0,0) _ := ⟨0,.inr ⟨hres,_,18,hil,by decide,hS⟩⟩
 case' neg =>
  rw [if_neg h8] at hres
  repeat (first|refine Yd0 ?_|refine Yaf ?_|refine Yag ?_|refine Ybu ?_|refine Yex ?_|refine Yab ?_)
  have hI : ∃ z0,Z2d f p a s c deep res W F (z0,none,0,0) _ := ⟨f + 1,.inl ⟨f,i + 1,[],[],[],rfl,by omega,Nat.le_refl _,rfl,Nat.le_refl _,hil,Nat.zero_le _,hf,by rw [hres]; cases plM f deep (s.drop (i + 1)) <;> simp,.nil,(hS.bagNil).own_none _ _ _⟩⟩
 all_goals
  obtain ⟨z0,hI⟩ := hI
  clear hS hres
  refine Zcp (α := Option Addr × Nat × Nat) (fun z => [(0,.pointer (some ⟨p,0,none⟩)),(5,.slice z.1 z.2.1 z.2.2)]) (Z5x p a s c res W F) ?_ ?_
  ·refine Zak (α := Nat × Option Addr × Nat × Nat) (fun z => [(0,.pointer (some ⟨p,0,none⟩)),(1,.int .i64 (deep : Nat)),(5,.slice z.2.1 z.2.2.1 z.2.2.2)]) (Z2d f p a s c deep res W F) (fun z => z.1) (z0,none,0,0) ⟨rfl,rfl,rfl,trivial⟩ hI ?_
   clear hI
   rintro ⟨m,b,n,q⟩ w (⟨g,j,x,rows,X,hm,hd8,hgf,hn,hnq,hj,hxj,hg,hr,hM,hS⟩ | ⟨hr,j,e,hj,he,hS⟩)
   ·simp only at hm hn hnq hS
    subst hm hn
    have hrl := hM.flat
    have hq41 := is_ p a s c j 0 41
    obtain ⟨g',rfl⟩ : ∃ g',g = g' + 1 := ⟨g - 1,by omega⟩
    by_cases h41 : s[j]? = some 41
    ·simp only [decide_eq_true h41] at hq41
     repeat (first|refine Yeg ?_|(refine X_id ?_;first|(refine Zae 179 rfl rfl rfl rfl rfl hS (hq41 _ (hS.rd (List.mem_cons_of_mem _ (List.mem_cons_of_mem _ (List.mem_cons_self ..)))) (hb.rd hS)) ?_;rintro _ _ rfl hS)|refine Yaf ?_|refine Yau ?_|refine Yan ?_|refine Ya5 ?_|refine Ybb ?_|refine Ybi ?_|refine Yap ?_)|refine Yec ?_|refine Yd6 ?_)
     refine Zbi (b,x.length,q) ⟨rfl,rfl,trivial⟩ (.inl ⟨j,x,rows,X,rfl,h41,?_,hM,hS⟩)
     obtain ⟨hjl,hje⟩ := List.getElem?_eq_some_iff.1 h41
     rw [hr,List.drop_eq_getElem_cons hjl,hje,plM,if_pos rfl]
     simp
    ·simp only [decide_eq_false h41] at hq41
     rw [Zx6 g' deep _ (by rw [List.head?_drop]; exact h41)] at hr
     repeat (first|refine Yeg ?_|(refine X_id ?_;first|(refine Zae 179 rfl rfl rfl rfl rfl hS (hq41 _ (hS.rd (List.mem_cons_of_mem _ (List.mem_cons_of_mem _ (List.mem_cons_self ..)))) (hb.rd hS)) ?_;rintro _ _ rfl hS)|refine Yaf ?_|refine Yau ?_|refine Yan ?_|refine Ya5 ?_|refine Ybo ?_|refine Ybi ?_|refine Yax ?_|refine Yap ?_)|refine Yd4 ?_|refine Yab ?_)
     obtain ⟨_,hc,_,hw,hbk⟩ := hS.call [false,false,true]
     refine Zaa _ rfl rfl rfl rfl rfl (hv g' (by omega) j (deep + 1) _ _ hj (by omega) (by omega) (hG.mono hw) (hw _ hb) hc) ?_
     rintro v w hV
     cases hp : pvM g' (deep + 1) (s.drop j) with
     | none =>
      rw [hp] at hV hr
      obtain ⟨k1,k2,a1,n1,c1,a2,n2,c2,rfl,j',e',hj',he',hS⟩ := hV
      replace hS := hbk hS
      clear hbk hw hc
      simp only at hr
      repeat (first|refine Yaa ?_|refine Ybf (fun _ _ hS _ => ?_))
      have hnw := (hS.rd (List.mem_cons_self ..)).own_row
      refine Zap rfl rfl rfl rfl rfl hS hrl hnq hnw rfl (by simp [Value.oneCell']) (by dsimp only; omega) (by simp only [maxLen]; omega) (fun b' q' w hS hq' _ => ?_)
      repeat (first|refine Yd0 ?_|refine Yag ?_|refine Yat ?_)
      exact Zaf (z := (g' + 1 + 1,b,x.length,q)) (0,b',x.length + 1,q') ⟨rfl,rfl,rfl,trivial⟩ (.inr ⟨by rw [hr]; rfl,j',e',hj',he',hS.took⟩) (by simp)
     | some u =>
      obtain ⟨t,l⟩ := u
      rw [hp] at hV hr
      obtain ⟨cs,Y,rfl,hMt,j',hj',hdl,hS⟩ := hV
      replace hS := hbk hS
      clear hbk hw hc
      obtain ⟨a1,c1,a2,c2,rows2,rfl,_⟩ := hMt.lit
      have hlen := (Z25 g').1 _ _ _ _ hp
      rw [← hdl] at hlen hr
      simp only [List.length_drop] at hlen
      simp only at hr
      repeat (first|refine Yaa ?_|refine Ybf (fun _ _ hS _ => ?_))
      have hnw := (hS.rd (List.mem_cons_self ..)).own_row
      refine Zap rfl rfl rfl rfl rfl hS hrl hnq hnw rfl (by simp [Value.oneCell']) (by dsimp only; omega) (by simp only [maxLen]; omega) (fun b' q' w hS hq' _ => ?_)
      repeat (first|refine Yd0 ?_|refine Yag ?_|refine Yat ?_)
      have hS : St W F [bag X,bag Y,own 38 4 b' q' (rows.flatten ++ [.int .i64 t.kind,.int .i64 t.num,.slice a1 t.txt.length c1,.slice a2 t.lst.length c2]),Rdr p a s.length c j' 0] w := hS.took
      replace hS := hS.bagJoin
      refine Zaf (z := (g' + 1 + 1,b,x.length,q)) (g' + 1,b',x.length + 1,q') ⟨rfl,rfl,rfl,trivial⟩ (.inl ⟨g',j',x ++ [t],rows ++ [[.int .i64 t.kind,.int .i64 t.num,.slice a1 t.txt.length c1,.slice a2 t.lst.length c2]],X ++ Y,rfl,hd8,by omega,by simp,by simpa using hq',hj',by simp; omega,by omega,?_,(hM.mono fun _ _ h => h.left).snoc (hMt.mono fun _ _ h => h.right),?_⟩) (by simp)
      ·rw [hr]
       cases plM g' deep (s.drop j') with
       | none => rfl
       | some q => simp
      ·rw [List.flatten_append]
       simpa using hS.took
   ·repeat (first|refine Yej ?_|(refine X_id ?_;first|refine Yaf ?_|refine Yau ?_|refine Yan ?_|refine Ya4 ?_|refine Ybh ?_|refine Yap ?_)|refine Yec ?_|refine Yd6 ?_)
    exact Zbi (b,n,q) ⟨rfl,rfl,trivial⟩ (.inr ⟨hr,j,e,hj,he,hS⟩)
  ·clear hI
   rintro ⟨b,n,q⟩ w (⟨j,x,rows,X,hn,h41,hr,hM,hS⟩ | ⟨hr,j,e,hj,he,hS⟩)
   ·simp only at hn hS
    subst hn
    have hjl := (List.getElem?_eq_some_iff.1 h41).1
    repeat (first|refine Yaa ?_|refine Yaf ?_|refine Yd1 ?_)
    obtain ⟨_,hc,hr,hw,hbk⟩ := hS.call [false,false,true]
    refine Zaa _ rfl rfl rfl rfl rfl (Zxq p a s c j 0 41 _ _ hc (hw _ hb) hl) ?_
    rintro _ w ⟨rfl,hS⟩
    replace hS := hbk hS
    clear hc hr hw hbk
    rw [show Ze3 s j 0 41 = (j + 1,0) by unfold Ze3; rw [if_neg (by simp),if_neg (by simpa using hjl),if_pos h41]] at hS
    simp only at hS
    repeat (first|refine Yd0 ?_|refine Yee ?_|refine Yed ?_|refine Yd2 ?_)
    rw [hr]
    have hS : St W F [own 38 4 b q rows.flatten,bag X,Rdr p a s.length c (j + 1) 0] _ := hS.took
    exact ⟨b,q,rows,_,rfl,.mem (List.mem_cons_self ..),hM.mono fun _ _ h => h.tail,j + 1,hjl,rfl,hS.bagAdd fun _ h => h.row⟩
   ·repeat (first|refine Yaa ?_|refine Yaf ?_|refine Yd1 ?_)
    obtain ⟨_,hc,hr,hw,hbk⟩ := hS.call [true]
    refine Zaa _ rfl rfl rfl rfl rfl (Zxp p a s.length c j e 41 _ _ hc he) ?_
    rintro _ w ⟨rfl,hS⟩
    replace hS := hbk hS
    clear hc hr hw hbk
    repeat (first|refine Yd0 ?_|refine Yee ?_|refine Yed ?_|refine Yd2 ?_)
    rw [hr]
    exact ⟨b,n,q,rfl,j,e,hj,he,hS⟩
end Cr
namespace Cr
open Go Go.Proofs
set_option maxRecDepth 100000
set_option maxHeartbeats 4000000
attribute [local irreducible] Calls

theorem Zx4 (f deep : Nat) (r : List UInt8) : pvM (f + 1) deep (40 :: r) = (if 8 < deep then none else plM f deep r).map fun q => (liM q.1,q.2) := by
 rw [pvM,if_pos rfl]
 split
 ·rfl
 ·cases plM f deep r <;> rfl
theorem Z01 (f deep : Nat) (r : List UInt8) : pvM (f + 1) deep (105 :: r) = (num true 59 r).map fun q => (nuM q.1,q.2) := by
 rw [pvM,if_neg (by decide),if_pos rfl]
 cases num true 59 r <;> rfl
theorem Z00 (f deep : Nat) (c : UInt8) (r : List UInt8) (h1 : ¬ c = 40) (h2 : ¬ c = 105) : pvM (f + 1) deep (c :: r) =
  (num false 58 (c :: r)).bind fun q => if q.1.toNat ≤ q.2.length then some (txM (q.2.take q.1.toNat),q.2.drop q.1.toNat) else none := by
 rw [pvM,if_neg h1,if_neg h2]
 cases num false 58 (c :: r) <;> rfl
theorem Zq7 (p : Nat) (a : Option Addr) (n c : Nat) (i : Nat) (k : Int) (W : World) (F : Nat → Prop) (hS : St W F [Rdr p a n c i 0] W) :
  Calls Tryz.prog 178 #[.pointer (some ⟨p,0,none⟩),.int .i64 k] W (Ret fun v w => v = .tuple #[] ∧ St W F [Rdr p a n c i k] w) := Zjd p a n c i 0 k W F hS
theorem Zug (p : Nat) (a : Option Addr) (s : List UInt8) (c : Nat) (hsc : s.length ≤ c) (hl : s.length ≤ 1073741824) (f : Nat) (hL : Zw8 p a s c f) : Znl p a s c (f + 1) := by
 intro i deep W F hi hd hf hG hb hS
 have hm := Zh9 p a s.length c i 0
 have q40 := is_ p a s c i 0 40
 have q105 := is_ p a s c i 0 105
 refine Zab Tryz.func115 rfl Tryz.ntmps115 rfl ?_
 by_cases hlt : i < s.length
 ·simp only [decide_eq_true hlt] at hm
  have hdr := List.drop_eq_getElem_cons hlt
  generalize hx0 : s[i] = x at hdr
  have hx : s[i]? = some x := by rw [List.getElem?_eq_getElem hlt,hx0]
  rw [hdr]
  by_cases h40 : x = 40
  ·subst h40
   simp only [decide_eq_true hx] at q40
   have hLi := hL i deep
   rw [Zx4]
   generalize (if 8 < deep then none else plM f deep (s.drop (i + 1))) = res at hLi ⊢
   repeat (first|refine Yd0 ?_|(refine X_id ?_;first|(refine Zae 177 rfl rfl rfl rfl rfl hS (hm _ (hS.rd (List.mem_cons_of_mem _ (List.mem_cons_self ..)))) ?_;rintro _ _ rfl hS)|(refine Zae 179 rfl rfl rfl rfl rfl hS (q40 _ (hS.rd (List.mem_cons_of_mem _ (List.mem_cons_self ..))) (hb.rd hS)) ?_;rintro _ _ rfl hS)|refine Yaf ?_|refine Yag ?_|refine Yau ?_|refine Yan ?_|refine Ybb ?_|refine Yar (fun _ _ hS _ => ?_))|refine Ye7 ?_|refine Yab ?_)
   obtain ⟨_,hc,_,hw,hbk⟩ := hS.call [false,true]
   refine Zaa _ rfl rfl rfl rfl rfl (hLi _ _ hx hd (by omega) (hG.mono hw) (hw _ hb) hc) ?_
   rintro v w hV
   cases res with
   | none =>
    obtain ⟨b,m,q,rfl,j,e,hj,he,hS⟩ := hV
    replace hS := hbk hS
    clear hbk hw hc
    repeat (first|refine Yd0 ?_|refine Ybk ?_|refine Yao (fun _ hS _ => ?_)|refine Yah ?_|refine Yab ?_|refine Yaq ?_|refine Ya7 ?_|refine Yb0 ?_)
    exact ⟨_,_,_,_,_,_,_,_,rfl,j,e,hj,he,hS.took⟩
   | some u =>
    obtain ⟨x,t⟩ := u
    obtain ⟨b,q,rows,X,rfl,hb2,hM,j,hj,hdj,hS⟩ := hV
    replace hS := hbk hS
    clear hbk hw hc
    repeat (first|refine Yd0 ?_|refine Ybk ?_|refine Yao (fun _ hS _ => ?_)|refine Yah ?_|refine Yab ?_|refine Yaq ?_|refine Ya7 ?_|refine Yb0 ?_)
    have hS : St W F [bag X,Rdr p a s.length c j 0] _ := hS.took
    exact ⟨_,X,rfl,.mk (k := 2) (n := 0) (b := []) (l := x) (Nat.zero_le _) .nil hb2 hM.1 hM.2,j,hj,hdj,hS⟩
  ·have h40' : ¬ s[i]? = some 40 := fun h => h40 (by rw [hx] at h; exact Option.some.inj h)
   simp only [decide_eq_false h40'] at q40
   by_cases h105 : x = 105
   ·subst h105
    simp only [decide_eq_true hx] at q105
    rw [Z01]
    have hN := Zo7 p a s c hsc (i + 1) true 59
    generalize num true 59 (s.drop (i + 1)) = res at hN ⊢
    repeat (first|refine Yd0 ?_|(refine X_id ?_;first|(refine Zae 177 rfl rfl rfl rfl rfl hS (hm _ (hS.rd (List.mem_cons_of_mem _ (List.mem_cons_self ..)))) ?_;rintro _ _ rfl hS)|(refine Zae 179 rfl rfl rfl rfl rfl hS (q40 _ (hS.rd (List.mem_cons_of_mem _ (List.mem_cons_self ..))) (hb.rd hS)) ?_;rintro _ _ rfl hS)|(refine Zae 179 rfl rfl rfl rfl rfl hS (q105 _ (hS.rd (List.mem_cons_of_mem _ (List.mem_cons_self ..))) (hb.rd hS)) ?_;rintro _ _ rfl hS)|refine Yaf ?_|refine Yag ?_|refine Yau ?_|refine Yan ?_|refine Ybb ?_|refine Yar (fun _ _ hS _ => ?_))|refine Ye7 ?_|refine Yab ?_)
    obtain ⟨_,hc,hr,hw,hbk⟩ := hS.call [false,true]
    refine Zaa _ rfl rfl rfl rfl rfl (Zxq p a s c i 0 105 _ _ hc (hw _ hb) (by omega)) ?_
    rintro _ w ⟨rfl,hS⟩
    replace hS := hbk hS
    clear hc hr hw hbk
    rw [show Ze3 s i 0 105 = (i + 1,0) by unfold Ze3; rw [if_neg (by simp),if_neg (by simpa using hlt),if_pos hx]] at hS
    simp only at hS
    repeat (first|refine Yd0 ?_|refine Yaf ?_|refine Yd1 ?_|refine Yab ?_)
    obtain ⟨_,hc,_,hw,hbk⟩ := hS.call [true,false]
    refine Zaa _ rfl rfl rfl rfl rfl (hN _ _ hc (hw _ hb) (by omega) (by omega) (hG.mono hw)) ?_
    rintro v w hV
    cases res with
    | none =>
     obtain ⟨rfl,j,e,hj,he,hS⟩ := hV
     replace hS := hbk hS
     clear hbk hw hc
     repeat (first|refine Yd0 ?_|refine Ybk ?_|refine Yao (fun _ hS _ => ?_)|refine Yah ?_|refine Yab ?_|refine Yaq ?_|refine Ya7 ?_|refine Yb0 ?_)
     exact ⟨_,_,_,_,_,_,_,_,rfl,j,e,hj,he,hS.took⟩
    | some u =>
     obtain ⟨n,t⟩ := u
     obtain ⟨rfl,j,hj,hdj,hS⟩ := hV
     replace hS := hbk hS
     clear hbk hw hc
     repeat (first|refine Yd0 ?_|refine Ybk ?_|refine Yao (fun _ hS _ => ?_)|refine Yah ?_|refine Yab ?_|refine Yaq ?_|refine Ya7 ?_|refine Yb0 ?_)
     have hS : St W F [Rdr p a s.length c j 0] _ := hS.took
     exact ⟨_,[],rfl,.mk (k := 0) (n := n) (b := []) (l := []) (rows := []) (Nat.zero_le _) .nil .nil rfl (fun _ _ _ h => by simp at h),j,hj,hdj,hS.bagNil⟩
   ·have h105' : ¬ s[i]? = some 105 := fun h => h105 (by rw [hx] at h; exact Option.some.inj h)
    simp only [decide_eq_false h105'] at q105
    rw [Z00 _ _ _ _ h40 h105,← hdr]
    have hN := Zo7 p a s c hsc i false 58
    have hnn : ∀ n t,num false 58 (s.drop i) = some (n,t) → 0 ≤ n := fun n t h => Zlb h
    generalize num false 58 (s.drop i) = res at hN hnn ⊢
    repeat (first|refine Yd0 ?_|(refine X_id ?_;first|(refine Zae 177 rfl rfl rfl rfl rfl hS (hm _ (hS.rd (List.mem_cons_of_mem _ (List.mem_cons_self ..)))) ?_;rintro _ _ rfl hS)|(refine Zae 179 rfl rfl rfl rfl rfl hS (q40 _ (hS.rd (List.mem_cons_of_mem _ (List.mem_cons_self ..))) (hb.rd hS)) ?_;rintro _ _ rfl hS)|(refine Zae 179 rfl rfl rfl rfl rfl hS (q105 _ (hS.rd (List.mem_cons_of_mem _ (List.mem_cons_self ..))) (hb.rd hS)) ?_;rintro _ _ rfl hS)|refine Yaf ?_|refine Yag ?_|refine Yau ?_|refine Yan ?_|refine Ybb ?_|refine Yar (fun _ _ hS _ => ?_))|refine Yem ?_|refine Yab ?_)
    obtain ⟨_,hc,_,hw,hbk⟩ := hS.call [false,true]
    refine Zaa _ rfl rfl rfl rfl rfl (hN _ _ hc (hw _ hb) (by omega) (by omega) (hG.mono hw)) ?_
    rintro v w hV
    cases res with
    | none =>
     obtain ⟨rfl,j,e,hj,he,hS⟩ := hV
     replace hS := hbk hS
     clear hbk hw hc
     repeat (first|refine Yd0 ?_|refine Yag ?_|refine Yae ?_|refine Yab ?_)
     refine Zao (.s 0 (.s 1 (.s 2 (.s 3 (.s 4 (.s 5 (.s 6 (.s 7 (.s 8 (.s 9 (.s 10 (.s 11 (.s 12 (.s 13 (.s 14 (.s 15 (.s 16 (.s 17 (.s 18 (.s 19 (.s 20 .nil))))))))))))))))))))) mixed (by kernel_rfl) rfl ?_
     have hS := hS.drew
     repeat (first|refine Yd0 ?_|(refine X_id ?_;first|refine Yaf ?_|refine Yau ?_|refine Yan ?_|refine Ybh ?_|refine Ybk ?_|refine Yap ?_|refine Yao (fun _ hS _ => ?_))|refine Yep ?_|refine Yab ?_|refine Yat ?_|refine Yb0 ?_|(refine Zad ?_;first|refine Yay ?_|refine Ya0 ?_|refine Ybq ?_|refine Ybj ?_|refine Ycf ?_|refine Ydv ?_|refine Ybm ?_|refine Ycj ?_))
     exact ⟨_,_,_,_,_,_,_,_,rfl,j,e,hj,he,hS.took⟩
    | some u =>
     obtain ⟨n,t⟩ := u
     obtain ⟨rfl,j,hj,hdj,hS⟩ := hV
     replace hS := hbk hS
     clear hbk hw hc
     obtain ⟨m,rfl⟩ : ∃ m : Nat,n = m := ⟨n.toNat,by have := hnn n t rfl; omega⟩
     have htl : t.length = s.length - j := by rw [← hdj,List.length_drop]
     simp only [Option.bind_some,Int.toNat_natCast]
     by_cases hmt : m ≤ t.length
     ·rw [if_pos hmt]
      repeat (first|refine Yd0 ?_|refine Yag ?_|refine Yae ?_|refine Yab ?_)
      refine Zao (.s 0 (.s 1 (.s 2 (.s 3 (.s 4 (.s 5 (.s 6 (.s 7 (.s 8 (.s 9 (.s 10 (.s 11 (.s 12 (.s 13 (.s 14 (.s 15 (.s 16 (.s 17 (.s 18 (.s 19 (.s 20 .nil))))))))))))))))))))) mixed (by kernel_rfl) rfl ?_
      have hS := hS.drew
      repeat (first|refine Yd0 ?_|(refine X_id ?_;first|refine Yaf ?_|refine Yau ?_|refine Yan ?_|refine Ybi ?_|refine Yax ?_|refine Yap ?_|refine Yao (fun _ hS _ => ?_))|refine Yet ?_|refine Yab ?_|(refine Zad ?_;first|refine Yay ?_|refine Ya0 ?_|refine Ybq ?_|refine Ybj ?_|refine Ycd ?_|refine Ydo ?_|refine Ybm ?_|refine Yce ?_|refine Ycw ?_|refine Ycu ?_|refine Ydw ?_|refine Zcb rfl rfl rfl rfl (fun _ => Znc rfl rfl rfl (by omega)) rfl rfl ?_|refine Ydz ?_|refine Yc4 ?_))
      have hS := hS.conv (rs' := [Rdr p a s.length c (j + m) 0,pts _ (.cells (List.toArray _) _ _)]) rfl
      refine Zao (.s 0 (.s 1 (.s 2 (.s 3 (.s 4 (.s 5 (.s 6 (.s 7 (.s 8 (.s 9 (.s 10 (.s 11 (.s 12 (.s 13 (.s 14 (.s 15 (.s 16 (.s 17 (.h 18 (.s 19 (.h 20 .nil .no)) .no))))))))))))))))))) mixed (by kernel_rfl) rfl ?_
      have hS := hS.drew
      repeat (first|(refine Zad ?_;first|refine Ya0 ?_|refine Ybq ?_|refine Ybj ?_|refine Ycg ?_|refine Ybm ?_))
      have hsb : Ro W F (bytes (Cr.sub a j 1 c) (t.take m)) := by
       have := hb.subBytes (l := j) (h := j + m) (c := c) (by omega) (by omega)
       rwa [show j + m - j = m by omega,hdj] at this
      refine Zaj rfl rfl (fun _ => Zan (l := j) (h := j + m) rfl rfl rfl rfl (.inr ⟨_,_,rfl,by omega,by omega,by omega⟩) (.inr ⟨_,_,rfl,by omega,by omega,by omega⟩)) rfl rfl ?_
      repeat (first|(refine Zad ?_;first|refine Yas ?_))
      refine Zaa _ rfl rfl rfl rfl rfl (Zew _ _ _ (t.take m) _ (hsb.rd hS) (by simp; omega) (by omega)) ?_
      rintro _ w ⟨a',c',rfl,_,hc',hS'⟩
      replace hS := hS.plus hS'
      clear hS'
      repeat (first|refine Yao (fun _ hS _ => ?_)|refine Yah ?_|refine Yab ?_|refine Yaq ?_|refine Ya7 ?_|refine Yb0 ?_|(refine Zad ?_;first|refine Yay ?_|refine Ycb ?_|refine Yas ?_)|(refine Zac ?_;first|refine Yaz ?_))
      have hS : St W F [own 5 1 a' c' (bv (t.take m)),Rdr p a s.length c (j + m) 0] _ := hS.took
      have hS := hS.toBag (a := a') (cs := bv (t.take m)) fun _ h => h.row
      have hmt' : (t.take m).length = j + m - j := by simp; omega
      rw [← hmt']
      exact ⟨_,_,rfl,.mk (k := 1) (n := 0) (b := t.take m) (l := []) (rows := []) (by rw [hmt']; omega) (.mem (List.mem_cons_self ..)) .nil rfl (fun _ _ _ h => by simp at h),j + m,by omega,by rw [← hdj,List.drop_drop],hS⟩
     ·rw [if_neg hmt]
      repeat (first|refine Yd0 ?_|refine Yag ?_|refine Yae ?_|refine Yab ?_)
      refine Zao (.s 0 (.s 1 (.s 2 (.s 3 (.s 4 (.s 5 (.s 6 (.s 7 (.s 8 (.s 9 (.s 10 (.s 11 (.s 12 (.s 13 (.s 14 (.s 15 (.s 16 (.s 17 (.s 18 (.s 19 (.s 20 .nil))))))))))))))))))))) mixed (by kernel_rfl) rfl ?_
      have hS := hS.drew
      repeat (first|refine Yaa ?_|refine Yaf ?_|refine Yad ?_|refine Yaj ?_|refine Yab ?_|(refine Zad ?_;first|refine Yay ?_|refine Ya0 ?_|refine Ybq ?_|refine Ybj ?_|refine Ycd ?_|refine Ydo ?_|refine Ybm ?_|refine Yce ?_|refine Ycw ?_|refine Ycu ?_|refine Ydw ?_|refine Zcb rfl rfl rfl rfl (fun _ => Zsy rfl rfl rfl (by omega)) rfl rfl ?_|refine Ydz ?_|refine Yc4 ?_))
      obtain ⟨_,hc,hr,hw,hbk⟩ := hS.call [true,false]
      refine Zaa _ rfl rfl rfl rfl rfl (Zq7 p a s.length c j 4 _ _ hc) ?_
      rintro _ w ⟨rfl,hS⟩
      replace hS := hbk hS
      clear hc hr hw hbk
      repeat (first|refine Yd0 ?_|(refine X_id ?_;first|refine Yaf ?_|refine Yau ?_|refine Yan ?_|refine Ybh ?_|refine Ybk ?_|refine Yap ?_|refine Yao (fun _ hS _ => ?_))|refine Yep ?_|refine Yab ?_|refine Yat ?_|refine Yb0 ?_)
      exact ⟨_,_,_,_,_,_,_,_,rfl,j,4,hj,by decide,hS.took⟩
 ·simp only [decide_eq_false hlt] at hm
  rw [List.drop_of_length_le (by omega)]
  repeat (first|refine Yd0 ?_|(refine X_id ?_;first|(refine Zae 177 rfl rfl rfl rfl rfl hS (hm _ (hS.rd (List.mem_cons_of_mem _ (List.mem_cons_self ..)))) ?_;rintro _ _ rfl hS)|refine Yaf ?_|refine Yag ?_|refine Yau ?_|refine Yan ?_|refine Ybo ?_|refine Yar (fun _ _ hS _ => ?_))|refine Yew ?_|refine Yab ?_)
  obtain ⟨_,hc,hr,hw,hbk⟩ := hS.call [false,true]
  refine Zaa _ rfl rfl rfl rfl rfl (Zq7 p a s.length c i 4 _ _ hc) ?_
  rintro _ w ⟨rfl,hS⟩
  replace hS := hbk hS
  clear hc hr hw hbk
  repeat (first|refine Yd0 ?_|refine Ybk ?_|refine Yao (fun _ hS _ => ?_)|refine Yed ?_|refine Yab ?_|refine Yat ?_|refine Yb0 ?_)
  rw [Zu3]
  exact ⟨_,_,_,_,_,_,_,_,rfl,i,4,hi,by decide,hS.took⟩
end Cr
namespace Cr
open Go Go.Proofs
set_option maxRecDepth 100000
set_option maxHeartbeats 4000000
attribute [local irreducible] Calls

theorem Z0g (p : Nat) (a : Option Addr) (s : List UInt8) (c : Nat) (hsc : s.length ≤ c) (hl : s.length ≤ 1073741824) (f : Nat) : Znl p a s c f := by
 induction f using Nat.strongRecOn with
 | _ f ih =>
  cases f with
  | zero => intro i deep W F hi hd hf; omega
  | succ f => exact Zug p a s c hsc hl f (Zye p a s c (by omega) f fun g hg => ih g (by omega))
def Z5v (W : World) (r : Option (Mv × List UInt8)) (v : Value) (w : World) : Prop :=
 match r with
 | some (t,l) => ∃ cs X b q,v = .tuple #[.agg (List.toArray cs),.slice b l.length q,.int .i64 0] ∧ Mrd (RX X) t cs ∧ St W noF [bag X] w
 | none => ∃ e,v = .tuple #[.agg (List.toArray [.int .i64 0,.int .i64 0,.slice none 0 0,.slice none 0 0]),.slice none 0 0,.int .i64 e] ∧ e ≠ 0 ∧ St W noF [] w
theorem Z3b (a : Option Addr) (s : List UInt8) (c : Nat) (hsc : s.length ≤ c) (hl : s.length ≤ 131072) (W : World) (hG : Lg W noF) (hb : Ro W noF (bytes a s)) :
  Calls Tryz.prog 69 #[.slice a s.length c] W (Ret fun v w => Z5v W (pvM (2 * s.length + 1) 1 s) v w) := by
 have hS := St.start W
 refine Zab Tryz.func69 rfl Tryz.ntmps69 rfl ?_
 repeat (first|refine Yd0 ?_|(refine X_id ?_;first|refine Yaf ?_|refine Yag ?_|refine Yav ?_|refine Ybu ?_|refine Ybk ?_|refine Ya6 (fun _ _ hS _ => ?_)|refine Yar (fun _ _ hS _ => ?_))|refine Yeb ?_|refine Yab ?_)
 rename_i r _ _
 have hv := Z0g r a s c hsc (by omega) (2 * s.length + 1) 0 1
 rw [List.drop_zero] at hv
 generalize pvM (2 * s.length + 1) 1 s = res at hv ⊢
 obtain ⟨_,hc,_,hw,hbk⟩ := hS.call [true,false]
 refine Zaa _ rfl rfl rfl rfl rfl (hv _ _ (Nat.zero_le _) (by omega) (by omega) (hG.mono hw) (hw _ hb) hc) ?_
 rintro v w hV
 cases res with
 | none =>
  obtain ⟨k,n,a1,n1,c1,a2,n2,c2,rfl,j,e,hj,he,hS⟩ := hV
  replace hS := hbk hS
  clear hbk hw hc
  repeat (first|refine Yd0 ?_|(refine X_id ?_;first|refine Yaf ?_|refine Yau ?_|refine Yan ?_|refine Ybl ?_|refine Yap ?_|refine Yao (fun _ hS _ => ?_)|refine Yar (fun _ _ hS _ => ?_))|refine Yea ?_|refine Yab ?_)
  refine Zao (.s 0 (.s 1 (.s 2 (.s 3 (.s 4 (.h 5 (.s 6 (.s 7 .nil)) .no)))))) mixed (by kernel_rfl) rfl ?_
  have hS := hS.drew
  repeat (first|refine Yao (fun _ hS _ => ?_)|refine Yah ?_|refine Yab ?_|refine Yaq ?_|refine Ydt ?_|(refine Zad ?_;first|refine Yay ?_|refine Ya0 ?_|refine Ybn ?_|refine Ybq ?_|refine Ybj ?_|refine Ycb ?_|refine Ybm ?_|refine Yas ?_)|(refine Zac ?_;first|refine Yaz ?_))
  exact ⟨e,rfl,he,hS.took⟩
 | some u =>
  obtain ⟨t,l⟩ := u
  obtain ⟨cs,X,rfl,hM,j,hj,hdj,hS⟩ := hV
  replace hS := hbk hS
  clear hbk hw hc
  obtain ⟨a1,c1,a2,c2,rows2,rfl,_⟩ := hM.lit
  have hsb : Ro W noF (bytes (Cr.sub a j 1 c) l) := by
   have := hb.subBytes (l := j) (h := s.length) (c := c) (by omega) (by omega)
   rwa [hdj,List.take_of_length_le (by rw [← hdj]; simp)] at this
  have hll : l.length = s.length - j := by rw [← hdj,List.length_drop]
  repeat (first|refine Yd0 ?_|(refine X_id ?_;first|refine Yaf ?_|refine Yau ?_|refine Yan ?_|refine Ybd ?_|refine Yap ?_|refine Yao (fun _ hS _ => ?_)|refine Yar (fun _ _ hS _ => ?_))|refine Yeb ?_|refine Yab ?_)
  refine Zao (.s 0 (.s 1 (.s 2 (.s 3 (.s 4 (.s 5 (.s 6 (.s 7 (.h 8 (.h 9 (.s 10 (.s 11 .nil)) .no) .no))))))))) mixed (by kernel_rfl) rfl ?_
  have hS := hS.drew
  repeat (first|(refine Zad ?_;first|refine Ya0 ?_|refine Ybq ?_|refine Ybj ?_|refine Ybm ?_|refine Yb1 ?_))
  refine Zaj rfl rfl (fun _ => Zan (l := j) (h := s.length) rfl rfl rfl rfl (.inl ⟨rfl,rfl⟩) (.inr ⟨_,_,rfl,by omega,by omega,by omega⟩)) rfl rfl ?_
  repeat (first|(refine Zad ?_;first|refine Yas ?_))
  refine Zaa _ rfl rfl rfl rfl rfl (Zew _ _ _ l _ (hsb.rd hS) hll (by omega)) ?_
  rintro _ w ⟨a',c',rfl,_,_,hS'⟩
  replace hS := hS.plus hS'
  clear hS'
  rw [← hll]
  repeat (first|refine Yao (fun _ hS _ => ?_)|refine Yah ?_|refine Yab ?_|refine Ydt ?_|(refine Zad ?_;first|refine Yay ?_|refine Ybn ?_|refine Yas ?_)|(refine Zac ?_;first|refine Yaz ?_))
  exact ⟨_,X,a',c',rfl,hM,hS.took⟩
def Z5z (W : World) (r : Option Mv) (v : Value) (w : World) : Prop :=
 match r with
 | some t => ∃ cs X,v = .tuple #[.agg (List.toArray cs),.int .i64 0] ∧ Mrd (RX X) t cs ∧ St W noF [bag X] w
 | none => ∃ e,v = .tuple #[.agg (List.toArray [.int .i64 0,.int .i64 0,.slice none 0 0,.slice none 0 0]),.int .i64 e] ∧ e ≠ 0 ∧ St W noF [] w
theorem Zso (a : Option Addr) (s : List UInt8) (c : Nat) (hsc : s.length ≤ c) (hl : s.length ≤ 131072) (W : World) (hG : Lg W noF) (hb : Ro W noF (bytes a s)) :
  Calls Tryz.prog 29 #[.slice a s.length c] W (Ret fun v w => Z5z W (decM s) v w) := by
 have hS := St.start W
 have hN := Z3b a s c hsc hl
 unfold decM
 generalize pvM (2 * s.length + 1) 1 s = res at hN ⊢
 refine Zab Tryz.func29 rfl Tryz.ntmps29 rfl ?_
 repeat (first|refine Yd0 ?_|refine Yee ?_|refine Yar (fun _ _ hS _ => ?_)|refine Yd1 ?_|refine Yab ?_)
 obtain ⟨_,hc,_,hw,hbk⟩ := hS.call [false]
 refine Zaa _ rfl rfl rfl rfl rfl (hN _ ((hG.mono hw).at_ hc) ((hw _ hb).rd hc).ro) ?_
 rintro v w hV
 cases res with
 | none =>
  obtain ⟨e,rfl,he,hS'⟩ := hV
  replace hS := hS.plus hS'
  clear hbk hw hc
  repeat (first|refine Yd0 ?_|refine Ye8 ?_|refine Yao (fun _ hS _ => ?_)|refine Yar (fun _ _ hS _ => ?_)|refine Yen ?_|refine Yab ?_|refine Yaq ?_|refine Ya7 ?_|refine Yby ?_)
  exact ⟨e,rfl,he,hS.took⟩
 | some u =>
  obtain ⟨t,l⟩ := u
  obtain ⟨cs,X,b,q,rfl,hM,hS'⟩ := hV
  replace hS := hS.plus hS'
  clear hbk hw hc
  obtain ⟨a1,c1,a2,c2,rows2,rfl,_⟩ := hM.lit
  cases l with
  | nil =>
   simp only [List.length_nil]
   repeat (first|refine Yd0 ?_|(refine X_id ?_;first|refine Yaf ?_|refine Yag ?_|refine Ya1 ?_|refine Yav ?_|refine Ybd ?_|refine Ybu ?_|refine Ybe ?_|refine Yao (fun _ hS _ => ?_)|refine Yar (fun _ _ hS _ => ?_))|refine Yeq ?_|refine Yab ?_|refine Yat ?_|refine Yby ?_)
   exact ⟨_,X,rfl,hM,hS.took⟩
  | cons x l =>
   simp only [List.length_cons]
   repeat (first|refine Yd0 ?_|(refine X_id ?_;first|refine Yaf ?_|refine Yag ?_|refine Ya1 ?_|refine Yav ?_|refine Ybd ?_|refine Ybx ?_|refine Ybk ?_|refine Yao (fun _ hS _ => ?_)|refine Yar (fun _ _ hS _ => ?_))|refine Yek ?_|refine Yab ?_|refine Yaq ?_|refine Ya7 ?_|refine Yby ?_)
   exact ⟨3,rfl,by decide,hS.took⟩
end Cr
namespace Cr
open Go Go.Proofs
set_option maxRecDepth 100000
set_option maxHeartbeats 4000000
attribute [local irreducible] Calls

theorem Zzt (k n : Int) (b : List UInt8) (l : List Mv) (a1 a2 : Option Addr) (c1 c2 : Nat) (W : World) :
  Calls Tryz.prog 156 #[.agg (List.toArray [.int .i64 k,.int .i64 n,.slice a1 b.length c1,.slice a2 l.length c2])] W (Ret fun v w => v = .bool (kdM k n b l) ∧ St W noF [] w) := by
 have hS := St.start W
 by_cases h0 : k = 0
 ·subst h0
  cases b with
  | cons x b =>
   simp only [List.length_cons]
   refine Zab Tryz.func156 rfl Tryz.ntmps156 rfl ?_
   repeat (first|refine Yej ?_|(refine X_id ?_;first|refine Yaf ?_|refine Yag ?_|refine Yan ?_|refine Ya4 ?_|refine Yav ?_|refine Ybi ?_|refine Ybh ?_|refine Yap ?_|refine Ya6 (fun _ _ hS _ => ?_))|refine Yen ?_|refine Yel ?_)
   refine ⟨?_,hS.drops⟩
   simp [kdM, *]
  | nil =>
   cases l with
   | cons x l =>
    simp only [List.length_cons]
    refine Zab Tryz.func156 rfl Tryz.ntmps156 rfl ?_
    repeat (first|refine Yeg ?_|(refine X_id ?_;first|refine Yaf ?_|refine Yag ?_|refine Yan ?_|refine Ya5 ?_|refine Yav ?_|refine Ybi ?_|refine Ybh ?_|refine Yb8 ?_|refine Yap ?_|refine Ya6 (fun _ _ hS _ => ?_))|refine Yen ?_|refine Yel ?_)
    refine ⟨?_,hS.drops⟩
    simp [kdM, *]
   | nil =>
    refine Zab Tryz.func156 rfl Tryz.ntmps156 rfl ?_
    repeat (first|refine Yeg ?_|(refine X_id ?_;first|refine Yaf ?_|refine Yag ?_|refine Yan ?_|refine Ya5 ?_|refine Yav ?_|refine Ybi ?_|refine Yb8 ?_|refine Yap ?_|refine Ya6 (fun _ _ hS _ => ?_))|refine Yen ?_|refine Yel ?_)
    refine ⟨?_,hS.drops⟩
    simp [kdM, *]
 ·by_cases h1 : k = 1
  ·subst h1
   by_cases hn : n = 0
   ·subst hn
    cases l with
    | cons x l =>
     simp only [List.length_cons]
     refine Zab Tryz.func156 rfl Tryz.ntmps156 rfl ?_
     repeat (first|refine Yeg ?_|(refine X_id ?_;first|refine Yaf ?_|refine Yag ?_|refine Yan ?_|refine Ya5 ?_|refine Yav ?_|refine Ybi ?_|refine Ybh ?_|refine Yap ?_|refine Ya6 (fun _ _ hS _ => ?_))|refine Yek ?_|refine Yel ?_)
     refine ⟨?_,hS.drops⟩
     simp [kdM, *]
    | nil =>
     refine Zab Tryz.func156 rfl Tryz.ntmps156 rfl ?_
     repeat (first|refine Yeg ?_|(refine X_id ?_;first|refine Yaf ?_|refine Yag ?_|refine Yan ?_|refine Ya5 ?_|refine Yav ?_|refine Ybi ?_|refine Ybh ?_|refine Yb8 ?_|refine Yap ?_|refine Ya6 (fun _ _ hS _ => ?_))|refine Yek ?_|refine Yel ?_)
     refine ⟨?_,hS.drops⟩
     simp [kdM, *]
   ·skip
    refine Zab Tryz.func156 rfl Tryz.ntmps156 rfl ?_
    repeat (first|refine Yej ?_|(refine X_id ?_;first|refine Yaf ?_|refine Yag ?_|refine Yan ?_|refine Ya4 ?_|refine Ybi ?_|refine Ybh ?_|refine Yap ?_|refine Ya6 (fun _ _ hS _ => ?_))|refine Yek ?_|refine Yel ?_)
    refine ⟨?_,hS.drops⟩
    simp [kdM, *]
  ·by_cases h2 : k = 2
   ·subst h2
    by_cases hn : n = 0
    ·subst hn
     cases b with
     | cons x b =>
      simp only [List.length_cons]
      refine Zab Tryz.func156 rfl Tryz.ntmps156 rfl ?_
      repeat (first|refine Yeg ?_|(refine X_id ?_;first|refine Yaf ?_|refine Yag ?_|refine Yan ?_|refine Ya5 ?_|refine Yav ?_|refine Ybi ?_|refine Ybh ?_|refine Yap ?_|refine Ya6 (fun _ _ hS _ => ?_))|refine Yek ?_|refine Yel ?_)
      refine ⟨?_,hS.drops⟩
      simp [kdM, *]
     | nil =>
      refine Zab Tryz.func156 rfl Tryz.ntmps156 rfl ?_
      repeat (first|refine Yeg ?_|(refine X_id ?_;first|refine Yaf ?_|refine Yag ?_|refine Yan ?_|refine Ya5 ?_|refine Yav ?_|refine Ybi ?_|refine Ybh ?_|refine Yb8 ?_|refine Yap ?_|refine Ya6 (fun _ _ hS _ => ?_))|refine Yek ?_|refine Yel ?_)
      refine ⟨?_,hS.drops⟩
      simp [kdM, *]
    ·skip
     refine Zab Tryz.func156 rfl Tryz.ntmps156 rfl ?_
     repeat (first|refine Yej ?_|(refine X_id ?_;first|refine Yaf ?_|refine Yag ?_|refine Yan ?_|refine Ya4 ?_|refine Ybi ?_|refine Ybh ?_|refine Yap ?_|refine Ya6 (fun _ _ hS _ => ?_))|refine Yek ?_|refine Yel ?_)
     refine ⟨?_,hS.drops⟩
     simp [kdM, *]
   ·skip
    refine Zab Tryz.func156 rfl Tryz.ntmps156 rfl ?_
    repeat (first|refine Yd0 ?_|(refine X_id ?_;first|refine Yag ?_|refine Yan ?_|refine Ybh ?_|refine Yap ?_|refine Ya6 (fun _ _ hS _ => ?_))|refine Yeq ?_|refine Yab ?_|refine Yat ?_|refine Yam ?_)
    refine ⟨?_,hS.drops⟩
    simp [kdM, *]
theorem Zgo {f : Mv → Int} : ∀ {l : List Mv} {i : Nat},(∀ j,j < i → ∀ y,l[j]? = some y → f y = 0) → Zhl (l.map f) = Zhl ((l.drop i).map f)
 | [],i,_ => by simp
 | x :: l,0,_ => rfl
 | x :: l,i + 1,h => by
  have h0 := h 0 (by omega) x rfl
  rw [List.map_cons,Zhl,if_pos h0,List.drop_succ_cons]
  exact Zgo fun j hj y hy => h (j + 1) (by omega) y (by simpa using hy)
theorem Z11 : ∀ (m : Nat) (v : Mv) (cs : List Value) (deep : Nat) (W : World) (F : Nat → Prop),deep + m = 9 → Mrd (RoR W F) v cs → wM v ≤ 1048576 →
  Calls Tryz.prog 93 #[.agg (List.toArray cs),.int .i64 (deep : Nat)] W (Ret fun u w => u = .int .i64 (chkM m v) ∧ St W noF [] w) := by
 intro m
 induction m with
 | zero =>
  intro v cs deep W F hd hv hw
  have hS := St.start W
  obtain ⟨k,n,b,l⟩ := v
  obtain ⟨a1,c1,a2,c2,rows,rfl,hc1,hb,hr,hM⟩ := hv.lit
  simp only [Mv.kind,Mv.num,Mv.txt,Mv.lst] at *
  have hk := fun W => Zzt k n b l a1 a2 c1 c2 W
  rw [chkM]
  obtain rfl : deep = 9 := by omega
  by_cases hkd : kdM k n b l = true
  ·rw [if_pos hkd]
   simp only [hkd] at hk
   by_cases h2 : k = 2
   ·subst h2
    rw [if_pos rfl]
    refine Zab Tryz.func93 rfl Tryz.ntmps93 rfl ?_
    repeat (first|refine Yeg ?_|(refine X_id ?_;first|(refine Zae 156 rfl rfl rfl rfl rfl hS (hk _) ?_;rintro _ _ rfl hS)|refine Yaf ?_|refine Yag ?_|refine Yan ?_|refine Ya5 ?_|refine Ybb ?_|refine Ybi ?_|refine Ybx ?_|refine Yap ?_|refine Ybe ?_|refine Ya6 (fun _ _ hS _ => ?_))|refine Yek ?_|refine Yel ?_)
    exact ⟨rfl,hS.drops⟩
   ·rw [if_neg h2]
    have hl0 : l = [] := by
     rcases Zom hkd with ⟨_,_,h⟩ | ⟨_,_,h⟩ | ⟨h,_,_⟩
     ·exact h
     ·exact h
     ·exact absurd h h2
    subst hl0
    refine Zab Tryz.func93 rfl Tryz.ntmps93 rfl ?_
    repeat (first|refine Yej ?_|(refine X_id ?_;first|(refine Zae 156 rfl rfl rfl rfl rfl hS (hk _) ?_;rintro _ _ rfl hS)|refine Yaf ?_|refine Yag ?_|refine Yan ?_|refine Ya4 ?_|refine Ybb ?_|refine Yav ?_|refine Ybh ?_|refine Yap ?_|refine Ybe ?_|refine Ya6 (fun _ _ hS _ => ?_))|refine Yex ?_|refine Yd8 ?_)
    refine Zak (α := Unit) (fun _ => [(22,.int .i64 0),(23,.int .i64 0)]) (fun _ w => St W noF [] w) (fun _ => 0) () ⟨rfl,rfl,trivial⟩ hS.drops ?_
    clear hS
    rintro _ w hS
    repeat (first|refine Yd0 ?_|refine Yag ?_|refine Ya3 ?_|refine Yd9 ?_|refine Yez ?_)
    exact ⟨rfl,hS⟩
  ·rw [if_neg hkd]
   simp only [eq_false_of_ne_true hkd] at hk
   refine Zab Tryz.func93 rfl Tryz.ntmps93 rfl ?_
   repeat (first|refine Yd0 ?_|(refine X_id ?_;first|(refine Zae 156 rfl rfl rfl rfl rfl hS (hk _) ?_;rintro _ _ rfl hS)|refine Yag ?_|refine Ybo ?_|refine Ybe ?_|refine Ya6 (fun _ _ hS _ => ?_))|refine Yen ?_|refine Yel ?_)
   exact ⟨rfl,hS.drops⟩
 | succ m ih =>
  intro v cs deep W F hd hv hw
  have hS := St.start W
  obtain ⟨k,n,b,l⟩ := v
  obtain ⟨a1,c1,a2,c2,rows,rfl,hc1,hb,hr,hM⟩ := hv.lit
  simp only [Mv.kind,Mv.num,Mv.txt,Mv.lst] at *
  rw [Zht] at hw
  have hwl := Zd4 l
  replace hr : Ro W noF (row a2 rows.flatten) := hr.start.ro
  replace hM : Mrds (RoR W noF) l rows := hM.mono fun _ _ h => h.start.ro
  have hk := fun W => Zzt k n b l a1 a2 c1 c2 W
  rw [chkM]
  by_cases hkd : kdM k n b l = true
  ·rw [if_pos hkd]
   simp only [hkd] at hk
   refine Zab Tryz.func93 rfl Tryz.ntmps93 rfl ?_
   by_cases h2 : k = 2
   case' pos =>
    subst h2
    repeat (first|refine Yeg ?_|(refine X_id ?_;first|(refine Zae 156 rfl rfl rfl rfl rfl hS (hk _) ?_;rintro _ _ rfl hS)|refine Yaf ?_|refine Yag ?_|refine Yan ?_|refine Ya5 ?_|refine Ybb ?_|refine Yav ?_|refine Ybi ?_|refine Ybu ?_|refine Yap ?_|refine Ybe ?_|refine Ya6 (fun _ _ hS _ => ?_))|refine Yex ?_|refine Yd8 ?_)
   case' neg =>
    repeat (first|refine Yej ?_|(refine X_id ?_;first|(refine Zae 156 rfl rfl rfl rfl rfl hS (hk _) ?_;rintro _ _ rfl hS)|refine Yaf ?_|refine Yag ?_|refine Yan ?_|refine Ya4 ?_|refine Ybb ?_|refine Yav ?_|refine Ybh ?_|refine Yap ?_|refine Ybe ?_|refine Ya6 (fun _ _ hS _ => ?_))|refine Yex ?_|refine Yd8 ?_)
   all_goals
    refine Zak (α := Nat) (fun i => [(1,.int .i64 (deep : Nat)),(21,.slice a2 l.length c2),(22,.int .i64 (l.length : Nat)),(23,.int .i64 (i : Nat))]) (fun i w => i ≤ l.length ∧ (∀ j,j < i → ∀ y,l[j]? = some y → chkM m y = 0) ∧ St W noF [] w) (fun i => l.length - i) 0 ⟨rfl,rfl,rfl,rfl,trivial⟩ ⟨Nat.zero_le _,fun j hj => absurd hj (by omega),hS.drops⟩ ?_
    clear hS
    rintro i w ⟨hi,hz,hS2⟩
    by_cases hlt : i < l.length
    ·obtain ⟨y,hyx⟩ : ∃ y,y = l[i] := ⟨_,rfl⟩
     have hy0 : l[i]? = some y := by rw [hyx]; exact List.getElem?_eq_getElem hlt
     have hyw := Zhs (List.mem_of_getElem? hy0)
     obtain ⟨cs,hxs,hy⟩ := hM.at_ hy0
     obtain ⟨d1,e1,d2,e2,rows2,rfl,_⟩ := hy.lit
     obtain ⟨ab,ao,rfl⟩ := hr.start.base (by
      intro e
      rw [e] at hxs
      simp at hxs)
     have hdr : (l.drop i).map (chkM m) = chkM m y :: (l.drop (i + 1)).map (chkM m) := by rw [List.drop_eq_getElem_cons hlt,← hyx]; rfl
     have ihy := fun W h => ih y [.int .i64 y.kind,.int .i64 y.num,.slice d1 y.txt.length e1,.slice d2 y.lst.length e2] (deep + 1) W noF (by omega) h (by omega)
     obtain ⟨e,he⟩ : ∃ e,e = chkM m y := ⟨_,rfl⟩
     rw [← he] at ihy hdr
     have hS := hS2
     repeat (first|refine Yd0 ?_|(refine X_id ?_;first|refine Yaf ?_|refine Ya2 ?_|refine Ybc ?_|refine Yax ?_|refine Ybe ?_|refine Ybp ?_|refine Yao (fun _ hS _ => ?_)|refine Yar (fun _ _ hS _ => ?_))|refine Yd4 ?_|refine Yab ?_)
     rw [show ((deep : Nat) : Int) + 1 = ((deep + 1 : Nat) : Int) by omega]
     refine Zae 93 rfl rfl rfl rfl rfl hS (ihy _ (hy.mono fun _ _ h => (h.rd hS).ro)) ?_
     rintro _ w rfl hS
     by_cases h0 : e = 0
     ·subst h0
      repeat (first|refine Yd0 ?_|refine Yaf ?_|refine Yag ?_|refine Ybd ?_|refine Yax ?_|refine Yeb ?_|refine Yd8 ?_)
      exact Zaf (i + 1) ⟨rfl,rfl,rfl,rfl,trivial⟩ ⟨hlt,fun j hj z hzj => by
       by_cases hji : j = i
       ·subst hji
        rw [hy0] at hzj
        cases hzj
        exact he.symm
       ·exact hz j (by omega) z hzj,hS.drops⟩ (by omega)
     ·repeat (first|refine Yd0 ?_|refine Yaf ?_|refine Yag ?_|refine Ybl ?_|refine Yeh ?_|refine Yel ?_)
      rw [Zgo hz,hdr,Zhl,if_neg h0]
      exact ⟨rfl,hS.drops⟩
    ·obtain rfl : i = l.length := by omega
     have hS := hS2
     repeat (first|refine Yd0 ?_|refine Yag ?_|refine Ya3 ?_|refine Yd9 ?_|refine Yez ?_)
     rw [Zgo hz,List.drop_length]
     exact ⟨rfl,hS⟩
  ·rw [if_neg hkd]
   simp only [eq_false_of_ne_true hkd] at hk
   refine Zab Tryz.func93 rfl Tryz.ntmps93 rfl ?_
   repeat (first|refine Yd0 ?_|(refine X_id ?_;first|(refine Zae 156 rfl rfl rfl rfl rfl hS (hk _) ?_;rintro _ _ rfl hS)|refine Yag ?_|refine Ybo ?_|refine Ybe ?_|refine Ya6 (fun _ _ hS _ => ?_))|refine Yen ?_|refine Yel ?_)
   exact ⟨rfl,hS.drops⟩
end Cr
namespace Cr
open Go Go.Proofs
set_option maxRecDepth 100000
set_option maxHeartbeats 4000000
attribute [local irreducible] Calls

end Cr
namespace Cr
open Go Go.Proofs
set_option maxRecDepth 100000
set_option maxHeartbeats 4000000
attribute [local irreducible] Calls

abbrev Wt (p : Nat) (b : Option Addr) (q : Nat) (s : List UInt8) : List Res := [pts p (.cells (List.toArray [.slice b s.length q,.bool false]) 207 (0,0)),own 5 1 b q (bv s)]
theorem Zo6 (p : Nat) (b : Option Addr) (q : Nat) (s : List UInt8) (a : Option Addr) (t : List UInt8) (c m : Nat) (W : World) (F : Nat → Prop) (hq : s.length ≤ q) (hm : t.length = m) (hS : St W F (Wt p b q s) W) (ht : Ro W F (bytes a t)) (hl : s.length + t.length ≤ 131072) :
  Calls Tryz.prog 157 #[.pointer (some ⟨p,0,none⟩),.slice a m c] W (Ret fun v w => (v = .tuple #[] ∧ ∃ b' q',(s ++ t).length ≤ q' ∧ St W F (Wt p b' q' (s ++ t)) w)) := by
 subst hm
 refine Zab Tryz.func157 rfl Tryz.ntmps157 rfl ?_
 repeat (first|refine Yeg ?_|(refine X_id ?_;first|refine Yaf ?_|refine Yau ?_|refine Yan ?_|refine Ya4 ?_|refine Ybo ?_|refine Yav ?_|refine Ybu ?_|refine Yax ?_|refine Yap ?_|refine Yao (fun _ hS _ => ?_))|refine Yea ?_|refine Yab ?_)
 refine Zap rfl rfl rfl rfl rfl hS (by simp) hq (ht.rd hS) (by simp) Zel (by omega) (by simp only [maxLen]; omega) (fun b' q' w hS hq' _ => ?_)
 repeat (first|refine Yd0 ?_|refine Yau ?_|refine Yan ?_|refine Yao (fun _ hS _ => ?_)|refine Ybs ?_)
 refine ⟨rfl,b',q',by simpa using hq',?_⟩
 exact St.conv (rs := [pts p (.cells (List.toArray [.slice b' ((s.length + t.length : Nat)) q',.bool false]) 207 (0,0)),own 5 1 b' q' (bv s ++ bv t)]) hS.took (by show _ = [_,_]; rw [List.length_append,Zdt])
end Cr
namespace Cr
open Go Go.Proofs
set_option maxRecDepth 100000
set_option maxHeartbeats 4000000
attribute [local irreducible] Calls

theorem Ztw (l : List Mv) (i : Nat) : (Zaw (l.take i)).length ≤ (Zaw l).length := by
 have := congrArg List.length (congrArg Zaw (List.take_append_drop i l))
 rw [Zfe,List.length_append] at this; omega
theorem Ztx (l : List Mv) (y : Mv) : Zaw (l ++ [y]) = Zaw l ++ encM y := by rw [Zfe,Zaw,Zaw,List.append_nil]
theorem Zzi (n : Int) (cs : List Value) (p : Nat) (b : Option Addr) (q : Nat) (s : List UInt8) (W : World) (F : Nat → Prop) (hq : s.length ≤ q) (hv : Mrd (RoR W F) (nuM n) cs) (hfit : fitM (nuM n)) (hS : St W F (Wt p b q s) W) (hl : s.length + (encM (nuM n)).length ≤ 131072) (hG : Lg W F) :
  Calls Tryz.prog 94 #[.pointer (some ⟨p,0,none⟩),.agg (List.toArray cs)] W (Ret fun u w => (u = .tuple #[] ∧ ∃ b' q',(s ++ encM (nuM n)).length ≤ q' ∧ St W F (Wt p b' q' (s ++ encM (nuM n))) w)) := by
 obtain ⟨a1,c1,a2,c2,rows,rfl,_⟩ := hv.lit
 simp only [Mv.kind,Mv.num,Mv.txt,Mv.lst,List.length_nil] at *
 rw [fitM] at hfit
 have e : encM (nuM n) = [105] ++ Lib.itoa n ++ [59] := by rw [Zdz]; simp
 rw [e] at hl ⊢
 have hl2 := hl
 simp only [List.length_append,List.length_cons,List.length_nil] at hl2
 refine Zab Tryz.func94 rfl Tryz.ntmps94 rfl ?_
 repeat (first|refine Yd0 ?_|(refine X_id ?_;first|(refine Zae 70 rfl rfl rfl rfl rfl hS (Z3m n _ _ (hG.at_ hS) hfit.1.1 hfit.1.2) ?_;rintro _ _ rfl hS)|refine Yaf ?_|refine Yag ?_|refine Yan ?_|refine Ybi ?_|refine Yap ?_|refine Ya6 (fun _ _ hS _ => ?_)|refine X_yl (Zpn rfl rfl rfl (by first|omega|(simp;omega))) rfl rfl ?_|refine Zia rfl rfl rfl rfl hS (fun _ _ _ hS _ => ?_))|refine Yew ?_|refine Yab ?_)
 obtain ⟨_,hc,hr,hw,hbk⟩ := hS.call [false,false,true,true]
 refine Zaa _ rfl rfl rfl rfl rfl (Zo6 p b q s _ _ _ _ _ _ hq rfl hc (hr _ (List.mem_cons_self ..)) hl) ?_
 rintro _ w ⟨rfl,b',q',hq',hS⟩
 replace hS := hbk hS
 clear hc hr hw hbk
 repeat (first|refine Yac ?_|refine Yat ?_|refine Ybs ?_)
 exact ⟨rfl,b',q',hq',hS.took⟩
theorem Zzh (t : List UInt8) (cs : List Value) (p : Nat) (b : Option Addr) (q : Nat) (s : List UInt8) (W : World) (F : Nat → Prop) (hq : s.length ≤ q) (hv : Mrd (RoR W F) (txM t) cs) (hfit : fitM (txM t)) (hS : St W F (Wt p b q s) W) (hl : s.length + (encM (txM t)).length ≤ 131072) (hG : Lg W F) :
  Calls Tryz.prog 94 #[.pointer (some ⟨p,0,none⟩),.agg (List.toArray cs)] W (Ret fun u w => (u = .tuple #[] ∧ ∃ b' q',(s ++ encM (txM t)).length ≤ q' ∧ St W F (Wt p b' q' (s ++ encM (txM t))) w)) := by
 obtain ⟨a,c,a2,c2,rows,rfl,hc1,hb,_⟩ := hv.lit
 simp only [Mv.kind,Mv.num,Mv.txt,Mv.lst,List.length_nil] at *
 rw [fitM] at hfit
 have e : s ++ encM (txM t) = (s ++ (Lib.itoa (t.length : Nat) ++ [58])) ++ t := by rw [Zfy]; simp
 have hl2 := congrArg List.length e
 rw [List.length_append] at hl2
 rw [e]
 rw [hl2] at hl
 simp only [List.length_append,List.length_cons,List.length_nil] at hl
 refine Zab Tryz.func94 rfl Tryz.ntmps94 rfl ?_
 repeat (first|refine Yd0 ?_|(refine X_id ?_;first|(refine Zae 70 rfl rfl rfl rfl rfl hS (Z3m (t.length : Nat) _ _ (hG.at_ hS) (by omega) (by omega)) ?_;rintro _ _ rfl hS)|refine Yaf ?_|refine Yag ?_|refine Yan ?_|refine Yav ?_|refine Ybi ?_|refine Ybh ?_|refine Yap ?_|refine Ya6 (fun _ _ hS _ => ?_)|refine X_yl (Zpn rfl rfl rfl (by first|omega|(simp;omega))) rfl rfl ?_|refine Zia rfl rfl rfl rfl hS (fun _ _ _ hS _ => ?_))|refine Ye7 ?_|refine Yab ?_)
 obtain ⟨_,hc,hr,hw,hbk⟩ := hS.call [false,false,true,true]
 refine Zaa _ rfl rfl rfl rfl rfl (Zo6 p b q s _ _ _ _ _ _ hq rfl hc (hr _ (List.mem_cons_self ..)) (by simp; omega)) ?_
 rintro _ w ⟨rfl,b',q',hq',hS⟩
 replace hS := hbk hS
 clear hc hr hw hbk
 repeat (first|refine Yd0 ?_|refine Yaf ?_|refine Yan ?_|refine Yap ?_|refine Yad ?_|refine Yab ?_)
 obtain ⟨_,hc,hr,hw,hbk⟩ := hS.call [true,true,false,false]
 refine Zaa _ rfl rfl rfl rfl rfl (Zo6 p b' q' _ a t c t.length _ _ hq' rfl hc (hw _ hb) (by simp; omega)) ?_
 rintro _ w ⟨rfl,b2,q2,hq2,hS⟩
 replace hS := hbk hS
 clear hc hr hw hbk
 repeat (first|refine Yac ?_|refine Yat ?_|refine Ybs ?_)
 exact ⟨rfl,b2,q2,hq2,hS.took⟩
theorem Zxi : ∀ (m : Nat) (v : Mv) (cs : List Value) (p : Nat) (b : Option Addr) (q : Nat) (s : List UInt8) (W : World) (F : Nat → Prop),s.length ≤ q → Mrd (RoR W F) v cs → wM v ≤ 1048576 → chkM m v = 0 → fitM v → St W F (Wt p b q s) W → s.length + (encM v).length ≤ 131072 → Lg W F →
  Calls Tryz.prog 94 #[.pointer (some ⟨p,0,none⟩),.agg (List.toArray cs)] W (Ret fun u w => (u = .tuple #[] ∧ ∃ b' q',(s ++ encM v).length ≤ q' ∧ St W F (Wt p b' q' (s ++ encM v)) w)) := by
 intro m
 induction m with
 | zero =>
  intro v cs p b q s W F hq hv hwv hck hfit hS hl hG
  rcases Zei hck with ⟨n,rfl⟩ | ⟨t,rfl⟩ | ⟨l,m',_,h',_⟩
  ·exact Zzi n cs p b q s W F hq hv hfit hS hl hG
  ·exact Zzh t cs p b q s W F hq hv hfit hS hl hG
  ·cases h'
 | succ m ih =>
  intro v cs p b q s W F hq hv hwv hck hfit hS hl hG
  rcases Zei hck with ⟨n,rfl⟩ | ⟨t,rfl⟩ | ⟨l,m',rfl,h',hck⟩
  ·exact Zzi n cs p b q s W F hq hv hfit hS hl hG
  ·exact Zzh t cs p b q s W F hq hv hfit hS hl hG
  obtain rfl : m = m' := by omega
  obtain ⟨a1,c1,a,c,rows,rfl,hc1,hb0,hr0,hx⟩ := hv.lit
  simp only [Mv.kind,Mv.num,Mv.txt,Mv.lst,List.length_nil] at *
  rw [Zht] at hwv
  rw [fitM] at hfit
  have hwl := Zd4 l
  have e : s ++ encM (liM l) = ((s ++ [40]) ++ Zaw l) ++ [41] := by rw [Zbt]; simp
  have hl2 := congrArg List.length e
  rw [List.length_append] at hl2
  rw [e]
  rw [hl2] at hl
  simp only [List.length_append,List.length_cons,List.length_nil] at hl
  refine Zab Tryz.func94 rfl Tryz.ntmps94 rfl ?_
  repeat (first|refine Yd0 ?_|(refine X_id ?_;first|refine Yaf ?_|refine Yag ?_|refine Yan ?_|refine Ybi ?_|refine Ybh ?_|refine Yap ?_|refine Ya6 (fun _ _ hS _ => ?_)|refine Ybf (fun _ _ hS _ => ?_))|refine Ye7 ?_|refine Yab ?_)
  obtain ⟨_,hc,hr,hw,hbk⟩ := hS.call [false,false,true,true]
  refine Zaa _ rfl rfl rfl rfl rfl (Zo6 p b q s _ [40] _ _ _ _ hq rfl hc (hr _ (List.mem_cons_self ..)).own_row (by simp; omega)) ?_
  rintro _ w ⟨rfl,b',q',hq',hS⟩
  replace hS := hbk hS
  clear hc hr hw hbk
  repeat (first|refine Yd0 ?_|refine Yaf ?_|refine Yan ?_|refine Yav ?_|refine Yap ?_|refine Yd3 ?_|refine Yab ?_)
  refine Zak (α := Nat × Option Addr × Nat) (fun z => [(0,.pointer (some ⟨p,0,none⟩)),(38,.slice a l.length c),(39,.int .i64 (l.length : Nat)),(40,.int .i64 (z.1 : Nat))])
   (fun z w => z.1 ≤ l.length ∧ ((s ++ [40]) ++ Zaw (l.take z.1)).length ≤ z.2.2 ∧ St W F (Wt p z.2.1 z.2.2 ((s ++ [40]) ++ Zaw (l.take z.1))) w) (fun z => l.length - z.1) (0,b',q') ⟨rfl,rfl,rfl,rfl,trivial⟩ ⟨Nat.zero_le _,by simpa [Zaw] using hq',by rw [List.take_zero,Zaw,List.append_nil]; exact hS.took⟩ ?_
  clear hS
  rintro ⟨i,b2,q2⟩ w ⟨hi,hq2,hS2⟩
  simp only at hi hq2 hS2
  by_cases hlt : i < l.length
  ·obtain ⟨y,hyx⟩ : ∃ y,y = l[i] := ⟨_,rfl⟩
   have hy0 : l[i]? = some y := by rw [hyx]; exact List.getElem?_eq_getElem hlt
   have hymem : y ∈ l := List.mem_of_getElem? hy0
   have hyw := Zhs hymem
   obtain ⟨cs,hxs,hy⟩ := hx.at_ hy0
   obtain ⟨d1,e1,d2,e2,rows2,rfl,_⟩ := hy.lit
   have hr := hr0
   obtain ⟨ab,ao,rfl⟩ := hr.start.base (by
    intro e
    rw [e] at hxs
    simp at hxs)
   have htk : Zaw (l.take (i + 1)) = Zaw (l.take i) ++ encM y := by
    rw [List.take_succ_eq_append_getElem hlt,← hyx,Ztx]
   have hle := Ztw l (i + 1)
   rw [htk,List.length_append] at hle
   have hS := hS2
   repeat (first|refine Yd0 ?_|(refine X_id ?_;first|refine Yaf ?_|refine Ya2 ?_|refine Ybc ?_|refine Ybe ?_|refine Ybp ?_|refine Yao (fun _ hS _ => ?_)|refine Yar (fun _ _ hS _ => ?_))|refine Yd4 ?_|refine Yab ?_)
   obtain ⟨_,hc,hr,hw,hbk⟩ := hS.call [false,true,true]
   refine Zaa _ rfl rfl rfl rfl rfl (ih y _ p b2 q2 _ _ _ hq2 (hy.mono fun _ _ h => hw _ h) (by omega) (hck y hymem) (fitMs_mem.1 hfit.2.2 y hymem) hc (by simp; omega) (hG.mono hw)) ?_
   rintro _ w ⟨rfl,b3,q3,hq3,hS⟩
   replace hS := hbk hS
   clear hc hr hw hbk
   repeat (first|refine Yd0 ?_|refine Yd5 ?_|refine Yad ?_|refine Yd8 ?_)
   refine Zaf (z := (i,b2,q2)) (i + 1,b3,q3) ⟨rfl,rfl,rfl,rfl,trivial⟩ ⟨hlt,?_,?_⟩ (by dsimp only; omega)
   ·rw [htk,← List.append_assoc]; exact hq3
   ·rw [htk,← List.append_assoc]; exact hS.took
  ·obtain rfl : i = l.length := by omega
   have hS := hS2
   rw [List.take_length] at hS hq2
   repeat (first|refine Yd0 ?_|refine Yaf ?_|refine Ya3 ?_|refine Ybf (fun _ _ hS _ => ?_)|refine Yec ?_|refine Yd6 ?_)
   obtain ⟨_,hc,hr,hw,hbk⟩ := hS.call [false,true,true]
   refine Zaa _ rfl rfl rfl rfl rfl (Zo6 p b2 q2 _ _ [41] _ _ _ _ hq2 rfl hc (hr _ (List.mem_cons_self ..)).own_row (by simp; omega)) ?_
   rintro _ w ⟨rfl,b3,q3,hq3,hS⟩
   replace hS := hbk hS
   clear hc hr hw hbk
   repeat (first|refine Yac ?_|refine Yat ?_|refine Ybs ?_)
   exact ⟨rfl,b3,q3,hq3,hS.took⟩
theorem Zsk (v : Mv) (cs : List Value) (W : World) (hv : Mrd (RoR W noF) v cs) (hwv : wM v ≤ 1048576) (hfit : fitM v) (hl : (encM v).length ≤ 131072) (hG : Lg W noF) :
  Calls Tryz.prog 46 #[.agg (List.toArray cs)] W (Ret fun u w => (chkM 8 v ≠ 0 ∧ u = .tuple #[.slice none 0 0,.int .i64 (chkM 8 v)] ∧ St W noF [] w) ∨ (chkM 8 v = 0 ∧ ∃ b q,u = .tuple #[.slice b (encM v).length q,.int .i64 0] ∧ (encM v).length ≤ q ∧ St W noF [own 5 1 b q (bv (encM v))] w)) := by
 have hS := St.start W
 have hck := fun W h => Z11 8 v cs 1 W noF rfl h hwv
 obtain ⟨a1,c1,a2,c2,rows,rfl,_⟩ := hv.lit
 obtain ⟨e,he⟩ : ∃ e,e = chkM 8 v := ⟨_,rfl⟩
 rw [← he] at hck ⊢
 by_cases h0 : e = 0
 ·subst h0
  refine Zab Tryz.func46 rfl Tryz.ntmps46 rfl ?_
  repeat (first|refine Yd0 ?_|(refine X_id ?_;first|(refine Zae 93 rfl rfl rfl rfl rfl hS (hck _ (hv.mono fun _ _ h => (h.rd hS).ro)) ?_;rintro _ _ rfl hS)|refine Yaf ?_|refine Yag ?_|refine Ybd ?_|refine Ybk ?_|refine Ybe ?_|refine Ya6 (fun _ _ hS _ => ?_))|refine Yeb ?_|refine Yab ?_)
  rename_i p _ _
  replace hS := hS.head (r' := pts p (.cells (List.toArray [.slice none 0 0,.bool false]) 207 (0,0))) (fun _ h => h)
  replace hS := hS.own_none 5 1 none
  have hS := hS.pick [1,0,0]
  obtain ⟨_,hc,hr,hw,hbk⟩ := hS.call [true,true,false]
  refine Zaa _ rfl rfl rfl rfl rfl (Zxi 8 v _ p none 0 [] _ _ (Nat.le_refl _) (hv.mono fun _ _ h => hw _ h) hwv he.symm hfit hc (by simpa using hl) (hG.mono hw)) ?_
  rintro _ w ⟨rfl,b,q,hq,hS⟩
  replace hS := hbk hS
  clear hc hr hw hbk
  rw [List.nil_append] at hS hq
  repeat (first|refine Yd0 ?_|(refine X_id ?_;first|refine Yaf ?_|refine Yag ?_|refine Yau ?_|refine Yan ?_|refine Yap ?_)|refine Yep ?_|refine Yeo ?_)
  refine .inr ⟨rfl,b,q,rfl,hq,?_⟩
  have hS := hS.pick [1]
  exact hS
 ·refine Zab Tryz.func46 rfl Tryz.ntmps46 rfl ?_
  repeat (first|refine Yd0 ?_|(refine X_id ?_;first|(refine Zae 93 rfl rfl rfl rfl rfl hS (hck _ (hv.mono fun _ _ h => (h.rd hS).ro)) ?_;rintro _ _ rfl hS)|refine Yaf ?_|refine Yag ?_|refine Ybl ?_|refine Ybe ?_|refine Ya6 (fun _ _ hS _ => ?_))|refine Yeh ?_|refine Yab ?_|refine Yaq ?_|refine Ybv ?_)
  exact .inl ⟨h0,rfl,hS.drops⟩
end Cr
namespace Cr
open Go Go.Proofs
set_option maxRecDepth 100000
set_option maxHeartbeats 8000000
attribute [local irreducible] Calls

def nmC (x : Nm) : List Value := [.string (str x.1),.int .i64 x.2]
def nmV (l : List Nm) : List Value := l.flatMap nmC
theorem Zgk : ∀ l : List Nm,(nmV l).length = l.length * 2
 | [] => rfl
 | x :: l => by
  have := Zgk l
  simp only [nmV,List.flatMap_cons,List.length_append,nmC,List.length_cons,List.length_nil] at this ⊢; omega
theorem Zik : ∀ {l : List Nm} {i : Nat} {x : Nm},l[i]? = some x → ((nmV l).drop (i * 2)).take 2 = nmC x
 | [],i,x,h => by simp at h
 | y :: l,0,x,h => by
  obtain rfl : y = x := by simpa using h
  simp [nmV,nmC]
 | y :: l,i + 1,x,h => by
  have := Zik (l := l) (i := i) (x := x) (by simpa using h)
  rw [nmV,List.flatMap_cons,List.drop_append]
  simp only [nmC,List.length_cons,List.length_nil]
  rw [show (i + 1) * 2 - (0 + 1 + 1) = i * 2 by omega,List.drop_of_length_le (by simp; omega),List.nil_append]
  exact this
theorem Zju (l m : List Nm) : nmV (l ++ m) = nmV l ++ nmV m := by simp [nmV]
theorem Zjh (a : Option Addr) (l : List Nm) (c : Nat) (W : World) (hr : Ro W noF (row a (nmV l))) (hl : NmOk l) (hG : Lg W noF) :
  Calls Tryz.prog 88 #[.slice a l.length c] W (Ret fun v w => ∃ b q,v = .slice b (wrD l).length q ∧ (wrD l).length ≤ q ∧ St W noF [own 5 1 b q (bv (wrD l))] w) := by
 have hS := St.start W
 have hlen := hl.1
 have h0 : Ro W noF (row none ([] : List (List Value)).flatten) := Zge _ _ _
 refine Zab Tryz.func88 rfl Tryz.ntmps88 rfl ?_
 repeat (first|refine Yd0 ?_|refine Yag ?_|refine Yd1 ?_|refine Yab ?_)
 refine Zaa _ rfl rfl rfl rfl rfl (of_M none [] 0 [] _ h0 .nil (by simp [wMs])) ?_
 rintro _ w ⟨b,q,rows,X,rfl,hq,hMs,hS'⟩
 replace hS := hS.plus hS'
 clear hS'
 have hrow0 : rows = [] := List.eq_nil_of_length_eq_zero (by simpa using hMs.1)
 subst hrow0
 repeat (first|refine Yd0 ?_|refine Yaf ?_|refine Yav ?_|refine Yao (fun _ hS _ => ?_)|refine Yar (fun _ _ hS _ => ?_)|refine Yd3 ?_|refine Yab ?_)
 rename_i b3 _ _ _ _ _
 have hS2 : St W noF [own 38 4 b q ([] : List (List Value)).flatten,bag X,pts b3 (.cells (List.toArray [.int .i64 2,.int .i64 0,.slice none 0 0,.slice b 0 q]) 38 (0,0))] _ := hS.took
 clear hS
 refine Zak (α := Nat × Option Addr × Nat) (fun z => [(3,.pointer (some ⟨b3,0,none⟩)),(9,.slice a l.length c),(10,.int .i64 (l.length : Nat)),(11,.int .i64 (z.1 : Nat))])
  (fun z w => z.1 ≤ l.length ∧ z.1 ≤ z.2.2 ∧ ∃ rows X,Mrds (RX X) ((l.take z.1).map Zeh) rows ∧ St W noF [own 38 4 z.2.1 z.2.2 rows.flatten,bag X,pts b3 (.cells (List.toArray [.int .i64 2,.int .i64 0,.slice none 0 0,.slice z.2.1 z.1 z.2.2]) 38 (0,0))] w)
  (fun z => l.length - z.1) (0,b,q) ⟨rfl,rfl,rfl,rfl,trivial⟩ ⟨Nat.zero_le _,Nat.zero_le _,[],X,.nil,hS2⟩ ?_
 clear hS2
 rintro ⟨i,b,q⟩ w ⟨hi,hiq,rows,X,hMs,hS2⟩
 simp only at hi hiq hMs hS2
 have hrl : rows.flatten.length = i * 4 := by rw [hMs.flat,List.length_map,List.length_take,Nat.min_eq_left hi]
 by_cases hlt : i < l.length
 ·obtain ⟨y,hyx⟩ : ∃ y,y = l[i] := ⟨_,rfl⟩
  have hy0 : l[i]? = some y := by rw [hyx]; exact List.getElem?_eq_getElem hlt
  have hyo := hl.2 y (List.mem_of_getElem? hy0)
  have hxs := Zik hy0
  unfold nmC at hxs
  obtain ⟨ab,ao,rfl⟩ := hr.start.base (by
   intro e
   rw [e] at hxs
   simp at hxs)
  have hS := hS2
  repeat (first|refine Yd0 ?_|(refine X_id ?_;first|refine Ya2 ?_|refine Ybc ?_|refine Ybp ?_|refine Yao (fun _ hS _ => ?_)|refine Yar (fun _ _ hS _ => ?_))|refine Yd4 ?_|refine Yab ?_)
  refine Zao (.s 0 (.s 1 (.s 2 (.s 3 (.s 5 (.s 6 (.h 4 (.h 7 (.h 8 (.h 9 (.h 10 (.h 11 (.s 12 (.h 13 .nil .no)) .no) .no) .no) .no) .no) .no))))))) mixed (by kernel_rfl) rfl ?_
  have hS := hS.drew
  repeat (first|(refine Zad ?_;first|refine Ybj ?_|refine Ybm ?_|refine Yas ?_))
  refine Zaa _ rfl rfl rfl rfl rfl (Zzk y.1 _) ?_
  rintro _ w ⟨b1,c1,Y,rfl,hY,hS'⟩
  replace hS := hS.plus hS'
  clear hS'
  repeat (first|(refine Zad ?_;first|refine Yas ?_)|(refine Zac ?_;first|refine Yaz ?_))
  refine Zaa _ rfl rfl rfl rfl rfl (Z1l y.2 _) ?_
  rintro _ w ⟨rfl,hS'⟩
  replace hS := hS.plus hS'
  clear hS'
  repeat (first|refine Ybf (fun _ _ hS _ => ?_)|(refine Zad ?_;first|refine Yas ?_)|(refine Zac ?_;first|refine Yaz ?_))
  have hr2 := (hS.rd (List.mem_cons_self ..)).own_row.ro
  have hM2 : Mrds (RoR _ noF) [txM y.1,nuM y.2] [[.int .i64 1,.int .i64 0,.slice b1 y.1.length c1,.slice none 0 0],[.int .i64 0,.int .i64 y.2,.slice none 0 0,.slice none 0 0]] := (Mrds.nil.snoc (hY.ro (hS.rd (r := bag Y) (by simp)).ro)).snoc (Zoc (fun a => Zge _ _ a) y.2)
  refine Zaa _ rfl rfl rfl rfl rfl (of_M _ [txM y.1,nuM y.2] 2 [[.int .i64 1,.int .i64 0,.slice b1 y.1.length c1,.slice none 0 0],[.int .i64 0,.int .i64 y.2,.slice none 0 0,.slice none 0 0]] _ hr2 hM2 (by simp only [wMs,Zht,List.length_nil]; omega)) ?_
  rintro _ w ⟨b4,q4,rows4,Z,rfl,_,hZ,hS'⟩
  replace hS := hS.plus hS'
  clear hS'
  simp only [List.length_cons,List.length_nil,Nat.zero_add,Nat.reduceAdd]
  repeat (first|refine Ybf (fun _ _ hS _ => ?_)|(refine Zad ?_;first|refine Yas ?_)|(refine Zac ?_;first|refine Yaz ?_))
  have hnw := (hS.rd (List.mem_cons_self ..)).own_row
  refine Zap rfl rfl rfl rfl rfl hS hrl hiq hnw rfl (by simp [Value.oneCell']) (by omega) (by simp only [maxLen]; omega) (fun b' q' w hS hq' _ => ?_)
  repeat (first|refine Yd0 ?_|refine Yd5 ?_|refine Yao (fun _ hS _ => ?_)|refine Yad ?_|refine Yd8 ?_|(refine Zad ?_;first|refine Yay ?_|refine Ybj ?_|refine Yas ?_)|(refine Zac ?_;first|refine Yaz ?_))
  refine Zaf (z := (i,b,q)) (i + 1,b',q') ⟨rfl,rfl,rfl,rfl,trivial⟩ ⟨hlt,hq',rows ++ [[.int .i64 2,.int .i64 0,.slice none 0 0,.slice b4 2 q4]],((b4,rows4.flatten) :: Z) ++ X,?_,?_⟩ (by dsimp only; omega)
  ·rw [List.take_succ_eq_append_getElem hlt,← hyx,List.map_append]
   refine (hMs.mono fun _ _ h => h.right).snoc ?_
   exact Mrd.mk' (l := [txM y.1,nuM y.2]) rfl rfl (Nat.zero_le _) .nil (.mem (List.mem_append_left _ (List.mem_cons_self ..))) hZ.1 fun i y cs h1 h2 => (hZ.2 i y cs h1 h2).mono fun _ _ h => h.tail.left
  ·have hS : St W noF [own 38 4 b4 q4 rows4.flatten,bag Z,bag X,own 38 4 b' q' (rows.flatten ++ [.int .i64 2,.int .i64 0,.slice none 0 0,.slice b4 2 q4]),pts b3 (.cells (List.toArray [.int .i64 2,.int .i64 0,.slice none 0 0,.slice b' (i + 1) q']) 38 (0,0))] _ := hS.took
   have hS := (hS.bagAdd (a := b4) (cs := rows4.flatten) fun _ h => h.row).bagJoin
   rw [List.flatten_append]
   simpa using hS.took (out := [own 38 4 b' q' (rows.flatten ++ [.int .i64 2,.int .i64 0,.slice none 0 0,.slice b4 2 q4]),bag (((b4,rows4.flatten) :: Z) ++ X),pts b3 (.cells (List.toArray [.int .i64 2,.int .i64 0,.slice none 0 0,.slice b' (i + 1) q']) 38 (0,0))])
 ·obtain rfl : i = l.length := by omega
  have hS := hS2
  rw [List.take_length] at hMs
  repeat (first|refine Yd0 ?_|refine Ya3 ?_|refine Ybe ?_|refine Yec ?_|refine Yd6 ?_)
  have hS3 : St W noF [own 38 4 b q rows.flatten,bag X] _ := hS.took
  have hS4 := hS3.bagAdd (a := b) (cs := rows.flatten) fun _ h => h.row
  have hv : Mrd (RX ((b,rows.flatten) :: X)) (dirM l) [.int .i64 2,.int .i64 0,.slice none 0 0,.slice b l.length q] :=
   .mk' rfl (by rw [List.length_map]) (Nat.zero_le _) .nil (.mem (List.mem_cons_self ..)) hMs.1 fun i y cs h1 h2 => (hMs.2 i y cs h1 h2).mono fun _ _ h => h.tail
  refine Zaa _ rfl rfl rfl rfl rfl (Zsk (dirM l) _ _ (hv.ro (hS4.rd (List.mem_cons_self ..)).ro) (Z0f hl) (Zse hl.2) (by have := Zpu hl; unfold wrD at this; omega) (hG.at_ hS)) ?_
  rintro _ w (⟨h,_⟩ | ⟨_,b',q',rfl,hq',hS'⟩)
  ·exact absurd (Zsp l) h
  replace hS := hS.plus hS'
  clear hS'
  repeat (first|refine Yd0 ?_|refine Yes ?_|refine Yed ?_|refine Yd2 ?_)
  have hS : St W noF [own 5 1 b' q' (bv (encM (dirM l)))] _ := hS.took
  exact ⟨b',q',rfl,hq',hS⟩
theorem Zzj (a : Option Addr) (s : List UInt8) (c : Nat) (W : World) (hb : Ro W noF (bytes a s)) (hsc : s.length ≤ c) (hl : s.length ≤ 512) (hG : Lg W noF) :
  Calls Tryz.prog 153 #[.slice a s.length c] W (Ret fun v w => ∃ b q,v = .slice b (rdD s).length q ∧ St W noF [own 290 2 b q (nmV (rdD s))] w) := by
 have hS := St.start W
 have hD := Zso a s c hsc (by omega)
 unfold rdD
 refine Zab Tryz.func153 rfl Tryz.ntmps153 rfl ?_
 repeat (first|refine Yd0 ?_|refine Yee ?_|refine Yd1 ?_|refine Yab ?_)
 refine Zaa _ rfl rfl rfl rfl rfl (hD _ (hG.at_ hS) ((hb.rd hS).ro)) ?_
 rintro v w hV
 cases hd : decM s with
 | none =>
  rw [hd] at hV
  obtain ⟨e,rfl,he,hS'⟩ := hV
  replace hS := hS.plus hS'
  clear hS'
  repeat (first|refine Yd0 ?_|(refine X_id ?_;first|refine Yaf ?_|refine Yag ?_|refine Yan ?_|refine Ya1 ?_|refine Yav ?_|refine Yap ?_|refine Yao (fun _ hS _ => ?_)|refine Yar (fun _ _ hS _ => ?_))|refine Yd3 ?_|refine Yab ?_)
  refine Zak (α := Unit) (fun _ => [(5,.slice none 0 0),(15,.int .i64 0),(16,.int .i64 0)]) (fun _ w => St W noF [] w) (fun _ => 0) () ⟨rfl,rfl,rfl,trivial⟩ hS.drops ?_
  clear hS
  rintro _ w hS
  repeat (first|refine Yd0 ?_|refine Yey ?_|refine Yd9 ?_|refine Yez ?_)
  exact ⟨_,_,rfl,hS.own_none _ _ _⟩
 | some t =>
  rw [hd] at hV
  obtain ⟨cs,X,rfl,hM,hS'⟩ := hV
  replace hS := hS.plus hS'
  clear hS'
  obtain ⟨k,n,tb,l⟩ := t
  obtain ⟨a1,c1,a2,c2,rows,rfl,hc1,hb1,hr1,hMs⟩ := hM.lit
  simp only [Mv.kind,Mv.num,Mv.txt,Mv.lst] at *
  have hll := Zlu hd
  simp only [Mv.lst] at hll
  repeat (first|refine Yd0 ?_|(refine X_id ?_;first|refine Yaf ?_|refine Yag ?_|refine Yan ?_|refine Ya1 ?_|refine Yav ?_|refine Yap ?_|refine Yao (fun _ hS _ => ?_)|refine Yar (fun _ _ hS _ => ?_))|refine Yd3 ?_|refine Yab ?_)
  have hS : St W noF [bag X] _ := hS.took
  obtain ⟨F2,hS2,hro,hw,hbk⟩ := hS.call []
  have hX := hro _ (List.mem_cons_self ..)
  rename_i w1 _ _
  refine Zak (α := Nat × Option Addr × Nat × Nat) (fun z => [(5,.slice z.2.1 z.2.2.1 z.2.2.2),(14,.slice a2 l.length c2),(15,.int .i64 (l.length : Nat)),(16,.int .i64 (z.1 : Nat))])
   (fun z w => z.1 ≤ l.length ∧ z.2.2.1 = ((l.take z.1).filterMap Zff).length ∧ z.2.2.1 ≤ z.2.2.2 ∧ St _ F2 [own 290 2 z.2.1 z.2.2.2 (nmV ((l.take z.1).filterMap Zff))] w) (fun z => l.length - z.1) (0,none,0,0) ⟨rfl,rfl,rfl,rfl,trivial⟩ ⟨Nat.zero_le _,rfl,Nat.le_refl _,hS2.own_none _ _ _⟩ ?_
  clear hS hS2
  rintro ⟨i,b,n,q⟩ w ⟨hi,hn,hnq,hS2⟩
  simp only at hi hn hnq hS2
  by_cases hlt : i < l.length
  ·obtain ⟨y,hyx⟩ : ∃ y,y = l[i] := ⟨_,rfl⟩
   have hy0 : l[i]? = some y := by rw [hyx]; exact List.getElem?_eq_getElem hlt
   have htk : l.take (i + 1) = l.take i ++ [y] := by rw [List.take_succ_eq_append_getElem hlt,← hyx]
   obtain ⟨cs,hxs,hy⟩ := hMs.at_ hy0
   obtain ⟨d1,e1,d2,e2,rows2,rfl,_,_,hr2X,hM2⟩ := hy.lit
   have hr := hr1.ro hX
   obtain ⟨ab,ao,rfl⟩ := hr.start.base (by
    intro e
    rw [e] at hxs
    simp at hxs)
   have hS := hS2
   by_cases h2 : y.lst.length = 2
   ·obtain ⟨u,v,huv⟩ : ∃ u v,y.lst = [u,v] := by
     match hh : y.lst with
     | [] => rw [hh] at h2; simp at h2
     | [_] => rw [hh] at h2; simp at h2
     | [u,v] => exact ⟨u,v,rfl⟩
     | _ :: _ :: _ :: _ => rw [hh] at h2; simp at h2
    rw [huv] at hM2
    obtain ⟨cu,hcu,hu⟩ := hM2.at_ (i := 0) rfl
    obtain ⟨cv,hcv,hv⟩ := hM2.at_ (i := 1) rfl
    obtain ⟨f1,g1,f2,g2,rows3,rfl,_,hbu,_⟩ := hu.lit
    obtain ⟨f3,g3,f4,g4,rows4,rfl,_⟩ := hv.lit
    have hen : Zff y = some (u.txt,v.num) := by unfold Zff; rw [huv]
    repeat (first|refine Yd0 ?_|(refine X_id ?_;first|refine Yan ?_|refine Yav ?_|refine Ybi ?_|refine Ya2 ?_|refine Ybc ?_|refine Yap ?_|refine Ybp ?_|refine Yao (fun _ hS _ => ?_)|refine Yar (fun _ _ hS _ => ?_))|refine Yd4 ?_|refine Yab ?_)
    have hr := hr2X.ro hX
    obtain ⟨xb,xo,rfl⟩ := hr.start.base (by
     intro e
     rw [e] at hcu
     simp at hcu)
    have hx : rows2.flatten[2]? = some (.slice f1 u.txt.length g1) := by
     have := congrArg (fun l => l[2]?) hcu
     simpa [List.getElem?_take,List.getElem?_drop] using this
    have hr2 := hr
    have hx2 : rows2.flatten[5]? = some (.int .i64 v.num) := by
     have := congrArg (fun l => l[1]?) hcv
     simpa [List.getElem?_take,List.getElem?_drop] using this
    have hb := hbu.ro hX
    refine Zao (.s 0 (.s 1 (.s 2 (.s 3 (.s 4 (.s 5 (.s 6 (.s 7 (.s 8 (.s 9 (.s 10 (.s 11 (.s 12 (.h 13 (.h 14 (.s 15 .nil) .no) .no)))))))))))))) mixed (by kernel_rfl) rfl ?_
    have hS := hS.drew
    repeat (first|refine Ybf (fun _ _ hS _ => ?_)|(refine Zad ?_;first|refine Ya0 ?_|refine Ybj ?_|refine Yb3 ?_|refine Ycb ?_|refine Ybw ?_|refine Ybm ?_|refine Ydy ?_|refine Yas ?_|refine Zax (fun w' => w'.cell? _ = some _) rfl rfl ((hr2.rd hS).cellF (by first|omega|(dsimp only;omega)) hx2) (fun _ hc => Zar rfl rfl hc) rfl rfl ?_|refine Zax (fun w' => Rd w' (bytes _ _)) rfl rfl (hb.rd hS) (fun _ h => Zb2 rfl rfl h rfl) rfl rfl ?_)|(refine Zac ?_;first|refine Yaz ?_))
    have hnw := (hS.rd (List.mem_cons_self ..)).own_row
    have hni : n ≤ i := by
     have := List.length_filterMap_le Zff (l.take i)
     rw [List.length_take] at this; omega
    refine Zap rfl rfl rfl rfl rfl hS (by rw [Zgk,hn]) hnq hnw rfl (by simp [Value.oneCell']) (by dsimp only; omega) (by simp only [maxLen]; omega) (fun b' q' w hS hq' _ => ?_)
    repeat (first|refine Yd0 ?_|refine Yd5 ?_|refine Yad ?_|refine Yd8 ?_|(refine Zad ?_;first|refine Yay ?_|refine Ybn ?_)|(refine Zac ?_;first|refine Yaz ?_))
    have hre : (l.take (i + 1)).filterMap Zff = (l.take i).filterMap Zff ++ [(u.txt,v.num)] := by rw [htk,List.filterMap_append]; simp [hen]
    refine Zaf (z := (i,b,n,q)) (i + 1,b',n + 1,q') ⟨rfl,rfl,rfl,rfl,trivial⟩ ⟨hlt,by rw [hre,List.length_append,← hn]; rfl,hq',?_⟩ (by dsimp only; omega)
    rw [hre,Zju]
    have hS : St w1 F2 [own 290 2 b' q' (nmV ((l.take i).filterMap Zff) ++ [.string (str u.txt),.int .i64 v.num])] _ := hS.took
    exact hS
   ·have hen : Zff y = none := by
     unfold Zff
     match hh : y.lst with
     | [] => rfl
     | [_] => rfl
     | [u,v] => rw [hh] at h2; simp at h2
     | _ :: _ :: _ :: _ => rfl
    repeat (first|refine Yd0 ?_|(refine X_id ?_;first|refine Yaf ?_|refine Yan ?_|refine Yav ?_|refine Ybh ?_|refine Ya2 ?_|refine Ybc ?_|refine Yax ?_|refine Yap ?_|refine Ybp ?_|refine Yao (fun _ hS _ => ?_)|refine Yar (fun _ _ hS _ => ?_))|refine Yd7 ?_|refine Yd8 ?_)
    have hre : (l.take (i + 1)).filterMap Zff = (l.take i).filterMap Zff := by rw [htk,List.filterMap_append]; simp [hen]
    refine Zaf (z := (i,b,n,q)) (i + 1,b,n,q) ⟨rfl,rfl,rfl,rfl,trivial⟩ ⟨hlt,by rw [hre]; exact hn,hnq,?_⟩ (by dsimp only; omega)
    rw [hre]
    exact hS.took
  ·obtain rfl : i = l.length := by omega
   have hS := hS2
   rw [List.take_length] at hn hS
   repeat (first|refine Yd0 ?_|refine Yey ?_|refine Yd9 ?_|refine Yez ?_)
   replace hS := hbk hS
   subst hn
   have hS : St W noF [own 290 2 b q (nmV (l.filterMap Zff))] _ := hS.took
   exact ⟨b,q,rfl,hS⟩
end Cr
namespace Cr
open Go Go.Proofs
set_option maxRecDepth 100000
set_option maxHeartbeats 2000000
attribute [local irreducible] Calls

def okC (c : UInt8) : Prop := (97 ≤ c.toNat ∧ c.toNat ≤ 122) ∨ (48 ≤ c.toNat ∧ c.toNat ≤ 57) ∨ c.toNat = 46 ∨ c.toNat = 45 ∨ c.toNat = 95
instance (c : UInt8) : Decidable (okC c) := by unfold okC; infer_instance
def nameOk (s : List UInt8) : Prop := 1 ≤ s.length ∧ s.length ≤ 24 ∧ s ≠ [46] ∧ s ≠ [46,46] ∧ ∀ c ∈ s,okC c
instance (s : List UInt8) : Decidable (nameOk s) := by unfold nameOk; infer_instance
theorem Z48 (c : UInt8) (W : World) : Calls Tryz.prog 91 #[.int .u8 (c.toNat : Int)] W (Ret fun v w => v = .bool (decide (okC c)) ∧ St W noF [] w) := by
 have hS := St.start W
 refine Zab Tryz.func91 rfl Tryz.ntmps91 rfl ?_
 repeat' (first | (refine G_id ?_; first | refine Zpr ?_ | refine Zfl rfl rfl ?_ | refine Zzf rfl rfl rfl rfl ?_ | refine G_no rfl rfl rfl rfl rfl rfl ?_ | refine Zl1 rfl rfl rfl rfl rfl ?_) | (refine X_id ?_; first | refine X_yl (Zcn rfl rfl) rfl rfl ?_ | refine X_yl (Zbq rfl rfl) rfl rfl ?_ | refine X_yl (Zkk rfl rfl rfl) rfl rfl ?_ | refine X_yl (Zho rfl rfl rfl) rfl rfl ?_ | refine X_yl (Zjc rfl rfl rfl (by omega)) rfl rfl ?_ | refine X_yl (Znb rfl rfl rfl (by omega)) rfl rfl ?_ | refine X_yl (Zjb rfl rfl rfl (by omega)) rfl rfl ?_ | refine X_yl (Zpl rfl rfl rfl) rfl rfl ?_ | refine X_yl (Zwv rfl rfl rfl) rfl rfl ?_ | refine X_yl (Zsz rfl rfl rfl) rfl rfl ?_) | (refine C_id ?_; first | refine Zc4 ?_ | refine Zav ?_ | refine Zkq ?_) | (refine E_id ?_; first | refine Zdv ?_ | refine Zit rfl (Zbm rfl) (Ret.mk ?_)) | (refine Zic (d := 5) rfl ?_ ?_ <;> intro hd) | (refine Zic (d := 9) rfl ?_ ?_ <;> intro hd) | (refine Zic (d := 12) rfl ?_ ?_ <;> intro hd) | (refine Zic (d := 17) rfl ?_ ?_ <;> intro hd) | (refine Zic (d := 21) rfl ?_ ?_ <;> intro hd) | (refine Zic (d := 25) rfl ?_ ?_ <;> intro hd) | (refine Zie rfl ?_ ?_ <;> intro hd))
 all_goals
  refine ⟨?_,hS⟩
  congr 1
  unfold okC
  first | (symm; exact decide_eq_true (by omega)) | (symm; exact decide_eq_false (by omega)) | exact decide_eq_decide.2 (by omega)
end Cr
namespace Cr
open Go Go.Proofs
set_option maxRecDepth 100000
set_option maxHeartbeats 2000000
attribute [local irreducible] Calls

theorem Zhd {s : List UInt8} (h : s.length < 1 ∨ 24 < s.length ∨ s = [46] ∨ s = [46,46]) : decide (nameOk s) = false := by
 refine decide_eq_false fun q => ?_
 obtain ⟨q1,q2,q3,q4,_⟩ := q
 rcases h with h | h | h | h
 ·omega
 ·omega
 ·exact q3 h
 ·exact q4 h
theorem Zve (s : List UInt8) (W : World) : Calls Tryz.prog 42 #[.string (str s)] W (Ret fun v w => v = .bool (decide (nameOk s)) ∧ St W noF [] w) := by
 have hS := St.start W
 have hz := Zcc s
 by_cases h1 : s.length < 1
 ·rw [Zhd (.inl h1)]
  refine Zab Tryz.func42 rfl Tryz.ntmps42 rfl ?_
  repeat (first|refine Yej ?_|(refine X_id ?_;first|refine Yaf ?_|refine Yag ?_|refine Ya5 ?_|refine Ycp ?_|refine Ya2 ?_)|refine Yae ?_|refine Ycm ?_|refine Yad ?_|refine Yah ?_|refine Yaj ?_|refine Ye5 ?_)
  exact ⟨rfl,hS⟩
 by_cases h2 : 24 < s.length
 ·rw [Zhd (.inr (.inl h2))]
  refine Zab Tryz.func42 rfl Tryz.ntmps42 rfl ?_
  repeat (first|refine Yeu ?_|(refine X_id ?_;first|refine Yaf ?_|refine Yag ?_|refine Ya5 ?_|refine Ya4 ?_|refine Ycp ?_|refine Ya3 ?_|refine Ybx ?_)|refine Yae ?_|refine Ycm ?_|refine Yad ?_|refine Yah ?_|refine Yaj ?_|refine Ye5 ?_)
  exact ⟨rfl,hS⟩
 by_cases h3 : s = [46]
 ·rw [Zhd (.inr (.inr (.inl h3)))]
  refine Zab Tryz.func42 rfl Tryz.ntmps42 rfl ?_
  repeat (first|refine Yeu ?_|(refine X_id ?_;first|refine Yaf ?_|refine Yag ?_|refine Ya5 ?_|refine Ya4 ?_|refine Ycp ?_|refine Ya3 ?_|refine Ybu ?_|refine Ycv ?_)|refine Yae ?_|refine Ycm ?_|refine Yad ?_|refine Yah ?_|refine Yaj ?_|refine Ye5 ?_)
  exact ⟨rfl,hS⟩
 by_cases h4 : s = [46,46]
 ·rw [Zhd (.inr (.inr (.inr h4)))]
  refine Zab Tryz.func42 rfl Tryz.ntmps42 rfl ?_
  repeat (first|refine Yeg ?_|(refine X_id ?_;first|refine Yaf ?_|refine Yag ?_|refine Ya4 ?_|refine Ycp ?_|refine Ya3 ?_|refine Ybu ?_|refine Ycv ?_|refine Ycq ?_)|refine Yae ?_|refine Ycm ?_|refine Yad ?_|refine Yah ?_|refine Yaj ?_|refine Ye5 ?_)
  exact ⟨rfl,hS⟩
 refine Zab Tryz.func42 rfl Tryz.ntmps42 rfl ?_
 repeat (first|refine Yeg ?_|(refine X_id ?_;first|refine Yaf ?_|refine Yag ?_|refine Ya4 ?_|refine Ycp ?_|refine Ya3 ?_|refine Ybu ?_|refine Ycq ?_)|refine Yae ?_|refine Zid ?_|refine Ycm ?_|refine Yad ?_|refine Yal ?_|refine Yak ?_|refine Yai ?_|refine Yab ?_)
 refine Zcp (α := Unit) (fun _ => []) (fun _ w => (∀ c ∈ s,okC c) ∧ St W noF [] w) ?_ ?_
 ·refine Zak (α := Nat) (fun i => [(0,.string (str s)),(21,.int .i64 (s.length : Nat)),(22,.int .i64 (i : Nat))]) (fun i w => i ≤ s.length ∧ (∀ c ∈ s.take i,okC c) ∧ St W noF [] w) (fun i => s.length - i) 0 ⟨rfl,rfl,rfl,trivial⟩ ⟨Nat.zero_le _,fun c hc => by simp at hc,hS⟩ ?_
  clear hS
  rintro i w ⟨hi,hok,hS⟩
  by_cases hlt : i < s.length
  ·obtain ⟨x,hx0⟩ : ∃ x,s[i]? = some x := ⟨_,List.getElem?_eq_getElem hlt⟩
   have hx : s[((i : Nat) : Int).toNat]? = some x := hx0
   have hq := Z48 x
   by_cases hc : okC x
   ·rw [decide_eq_true hc] at hq
    repeat (first|refine Yd0 ?_|(refine X_id ?_;first|(refine Zae 91 rfl rfl rfl rfl rfl hS (hq _) ?_;rintro _ _ rfl hS)|refine Yaf ?_|refine Yag ?_|refine Ya2 ?_|refine Yax ?_|refine Yc7 ?_)|refine Yae ?_|refine Yad ?_|refine Yal ?_|refine Yak ?_|refine Ya8 ?_|refine Yaj ?_|refine Yd6 ?_)
    refine Zaf (z := i) (i + 1) ⟨rfl,rfl,rfl,trivial⟩ ⟨hlt,fun c hc' => ?_,hS⟩ (by omega)
    rw [List.take_add_one,hx0] at hc'
    rcases List.mem_append.1 hc' with h | h
    ·exact hok c h
    ·obtain rfl : c = x := by simpa using h
     exact hc
   ·rw [decide_eq_false hc] at hq
    repeat (first|refine Yd0 ?_|(refine X_id ?_;first|(refine Zae 91 rfl rfl rfl rfl rfl hS (hq _) ?_;rintro _ _ rfl hS)|refine Yaf ?_|refine Yag ?_|refine Ya2 ?_|refine Yc7 ?_)|refine Ye1 ?_|refine Yab ?_|refine Yaq ?_|refine Yb6 ?_|refine Ya7 ?_|refine Yam ?_)
    refine ⟨?_,hS⟩
    rw [decide_eq_false (fun q : nameOk s => hc (q.2.2.2.2 x (List.mem_of_getElem? hx0)))]
  ·repeat (first|refine Yd0 ?_|refine Ya3 ?_|refine Yec ?_|refine Yd6 ?_)
   refine Zbi () trivial ⟨?_,hS⟩
   rwa [List.take_of_length_le (by omega)] at hok
 ·clear hS
  rintro _ w ⟨hok,hS⟩
  repeat (first|refine Yd0 ?_|refine Yag ?_|refine Yed ?_|refine Yab ?_|refine Yb6 ?_|refine Yam ?_)
  refine ⟨?_,hS⟩
  rw [decide_eq_true (show nameOk s from ⟨by omega,by omega,h3,h4,hok⟩)]
end Cr
