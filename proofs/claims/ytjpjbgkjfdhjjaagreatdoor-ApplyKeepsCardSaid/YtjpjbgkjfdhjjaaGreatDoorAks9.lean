/-
  Package codec: a reader takes the digits that come.
  Package codec: a reader takes a number and the byte behind it.
  Package codec,lists in lists too: a reader reads a list,given that it reads values.
  Package codec: a reader reads a value,lists in lists too: the parse in plain words (pvM) is what it does.
  Package codec: Next and Decode: what bytes say (decM).
  Package codec,lists in lists too: values made and copied.
  Package codec,lists in lists too: what is wrong with a value (chkM).
  Package codec: values made: Text,Int,Of; a leaf copied.
  Package codec: a writer; leaves and lists of leaves are written as encL and encT say.
  Package codec,lists in lists too: a right value is written as encM says; Encode.
-/
import Derived.Test.YtjpjbgkjfdhjjaaGreatDoorAks8
import Derived.Test.YtjpjbgkjfdhjjaaGreatDoorAks5
namespace Cr
open Go Go.Proofs
set_option maxRecDepth 100000
set_option maxHeartbeats 64000000
attribute [local irreducible] Calls

theorem Zxp {s : List UInt8} {i n : Nat} {t : List UInt8} (h : (s.drop i).take n = t) : (s.drop i).take (i + n - i) = t := by
 rw [show i + n - i = n by omega]; exact h
theorem Z5b {x : UInt8} (h : dig x = true) : ¬ ((x.toNat : Int) < 48) ∧ ¬ ((57 : Int) < (x.toNat : Int)) := by
 have := dig_iff.1 h
 constructor <;> omega
theorem Z5c {x : UInt8} (h : ¬ dig x = true) : ((x.toNat : Int) < 48) ∨ (¬ ((x.toNat : Int) < 48) ∧ (57 : Int) < (x.toNat : Int)) := by
 have h2 : ¬ (48 ≤ x.toNat ∧ x.toNat ≤ 57) := fun q => h (dig_iff.2 q)
 rcases Nat.lt_or_ge x.toNat 48 with h3 | h3
 ·exact .inl (by omega)
 ·exact .inr ⟨by omega,by omega⟩
theorem St.conv {W : World} {F : Nat → Prop} {rs rs' : List Res} {w : World} (h : St W F rs w) (e : rs = rs') : St W F rs' w := e ▸ h
theorem Z1w (p : Nat) (a : Option Addr) (s : List UInt8) (c : Nat) (hsc : s.length ≤ c) (i : Nat) (e : Int) (below : Bool) (W : World) (F : Nat → Prop) (hS : St W F [Rdr p a s.length c i e] W) (hb : Ro W F (bytes a s)) (hl : s.length ≤ 1099511627776) (hi : i ≤ s.length) :
  Calls Tryz.prog 273 #[.pointer (some ⟨p,0,none⟩),.bool below] W (Ret fun v w => v = .string (str (numS below (s.drop i))) ∧ St W F [Rdr p a s.length c (i + (numS below (s.drop i)).length) e] w) := by
 have hq := is_ p a s c i e 45
 have hm := Zid p a s.length c
 obtain ⟨g,hg⟩ : ∃ g,(sgn below (s.drop i)).length = g := ⟨_,rfl⟩
 have hgi : i + g ≤ s.length := by
  rw [← hg,Zrq]
  split
  ·rename_i h
   have := (List.getElem?_eq_some_iff.1 h.2).1
   simp; omega
  ·simpa using hi
 have h3 : (below = true ∧ s[i]? = some 45 ∧ g = 1) ∨ (below = true ∧ ¬ s[i]? = some 45 ∧ g = 0) ∨ (below = false ∧ g = 0) := by
  rw [Zrq] at hg;cases below
  ·exact .inr (.inr ⟨rfl,by rw [← hg]; simp⟩)
  ·by_cases hk : s[i]? = some 45
   ·exact .inl ⟨rfl,hk,by rw [← hg,if_pos ⟨rfl,hk⟩]; rfl⟩
   ·exact .inr (.inl ⟨rfl,hk,by rw [← hg,if_neg (fun h => hk h.2)]; rfl⟩)
 have hstop := fun j => Zve (s := s) (i := i) (below := below) (j := j)
 rw [hg] at hstop;have htk := Zg9 below (s.drop i)
 generalize numS below (s.drop i) = T at hstop htk ⊢;clear hg;refine Zab Tryz.func273 rfl Tryz.ntmps273 rfl ?_
 rcases h3 with ⟨rfl,hk,hg⟩ | ⟨rfl,hk,hg⟩ | ⟨rfl,hg⟩
 case' inl =>
  simp only [decide_eq_true hk] at hq
  repeat (first|refine Yeh ?_|(refine X_id ?_;first|(refine Zad 243 rfl rfl rfl rfl rfl hS (hq _ (hS.rd (List.mem_cons_self ..)) (hb.rd hS)) ?_;rintro _ _ rfl hS)|refine Yaf ?_|refine Yag ?_|refine Yat ?_|refine Yan ?_|refine Yba ?_|refine Yaw ?_|refine Yaq ?_|refine Yao (fun _ hS _ => ?_))|refine Yae ?_|refine Zgv ?_|refine Yce ?_|refine Yad ?_|refine Yal ?_|refine Yaj ?_|refine Yab ?_)
  have hS := hS.conv (rs' := [Rdr p a s.length c (i + g) e]) (by rw [hg]; rfl)
 case' inr.inl =>
  simp only [decide_eq_false hk] at hq
  repeat (first|refine Yeh ?_|(refine X_id ?_;first|(refine Zad 243 rfl rfl rfl rfl rfl hS (hq _ (hS.rd (List.mem_cons_self ..)) (hb.rd hS)) ?_;rintro _ _ rfl hS)|refine Yaf ?_|refine Yag ?_|refine Yat ?_|refine Yan ?_|refine Yba ?_|refine Yaq ?_)|refine Yae ?_|refine Zgv ?_|refine Yce ?_|refine Yad ?_|refine Yal ?_|refine Yak ?_|refine Yai ?_|refine Yab ?_)
  have hS := hS.conv (rs' := [Rdr p a s.length c (i + g) e]) (by rw [hg]; rfl)
 case' inr.inr =>
  repeat (first|refine Yek ?_|(refine X_id ?_;first|refine Yaf ?_|refine Yag ?_|refine Yat ?_|refine Yan ?_|refine Ya3 ?_|refine Yaq ?_)|refine Yae ?_|refine Zgv ?_|refine Yce ?_|refine Yad ?_|refine Yal ?_|refine Yak ?_|refine Yai ?_|refine Yab ?_)
  have hS := hS.conv (rs' := [Rdr p a s.length c (i + g) e]) (by rw [hg]; rfl)
 all_goals
  clear hq hg;refine Zcd (α := Unit) (fun _ => [(0,.pointer (some ⟨p,0,none⟩)),(5,.int .i64 (i : Nat))]) (fun _ w => i + T.length ≤ s.length ∧ St W F [Rdr p a s.length c (i + T.length) e] w) ?_ ?_
  ·refine Zak (α := Nat) (fun _ => [(0,.pointer (some ⟨p,0,none⟩)),(5,.int .i64 (i : Nat))])
    (fun j w => i + g + j ≤ s.length ∧ (∀ k c,k < j → s[i + g + k]? = some c → dig c = true) ∧ St W F [Rdr p a s.length c (i + g + j) e] w) (fun j => s.length - j) 0 ⟨rfl,rfl,trivial⟩ ⟨hgi,fun k c hk => by omega,hS⟩ ?_
   clear hS;rintro j w ⟨hj,hd,hS⟩
   by_cases hlt : i + g + j < s.length
   ·obtain ⟨ab,ao,rfl⟩ := hb.start.base (by intro e; have := Zal s; rw [e] at this; simp at this; omega)
    have hm := hm (i + g + j) e
    simp only [decide_eq_true hlt] at hm
    obtain ⟨x,hx⟩ : ∃ x,s[i + g + j]? = some x := ⟨_,List.getElem?_eq_getElem hlt⟩
    have hx2 : s.getD ((((i + g + j : Nat) : Int)).toNat * 1) 0 = x := by
     rw [List.getD_eq_getElem?_getD,show ((((i + g + j : Nat) : Int)).toNat * 1) = i + g + j by omega,hx]; rfl
    by_cases hdx : dig x = true
    ·obtain ⟨d1,d2⟩ := Z5b hdx
     rw [← hx2] at d1 d2;repeat (first|refine Yd1 ?_|(refine X_id ?_;first|(refine Zad 241 rfl rfl rfl rfl rfl hS (hm _ (hS.rd (List.mem_cons_self ..))) ?_;rintro _ _ rfl hS)|refine Yaf ?_|refine Yat ?_|refine Yan ?_)|refine Yd5 ?_|refine Yab ?_)
     refine Zaq (.s 0 (.s 1 (.s 2 (.s 3 (.s 4 (.s 5 (.s 6 (.s 7 (.s 8 (.s 9 (.s 10 (.s 11 (.s 12 .nil))))))))))))) mixed (by kernel_rfl) rfl ?_
     have hS := hS.drew
     repeat (first|refine Yeh ?_|(refine X_id ?_;first|refine Yaf ?_|refine Yag ?_|refine Yat ?_|refine Yan ?_|refine Ya3 ?_|refine Ya1 ?_|refine Ybq ?_|refine Yaw ?_|refine Yaq ?_|refine Yao (fun _ hS _ => ?_))|refine Ye4 ?_|refine Yd9 ?_|(refine Zae ?_;first|refine Ya2 ?_|refine Ya4 ?_|refine Ybl ?_|refine Ybu ?_|refine Ybk ?_|refine Yb5 ?_|refine Ybm ?_|refine Ycs ?_))
     refine Zaf (j + 1) ⟨rfl,rfl,trivial⟩ ⟨by omega,fun k c hk hc => ?_,hS⟩ (by omega)
     rcases Nat.lt_or_ge k j with h | h
     ·exact hd k c h hc
     ·obtain rfl : k = j := by omega
      rw [hx] at hc;rw [← Option.some.inj hc]; exact hdx
    ·have hT := hstop j hd (fun c hc => by
      rw [hx] at hc;rw [← Option.some.inj hc]; simpa using hdx) hj
     rcases Z5c hdx with d1 | ⟨d1,d2⟩
     ·rw [← hx2] at d1
      repeat (first|refine Yd1 ?_|(refine X_id ?_;first|(refine Zad 241 rfl rfl rfl rfl rfl hS (hm _ (hS.rd (List.mem_cons_self ..))) ?_;rintro _ _ rfl hS)|refine Yaf ?_|refine Yat ?_|refine Yan ?_)|refine Yd5 ?_|refine Yab ?_)
      refine Zaq (.s 0 (.s 1 (.s 2 (.s 3 (.s 4 (.s 5 (.s 6 (.s 7 (.s 8 (.s 9 (.s 10 (.s 11 (.s 12 .nil))))))))))))) mixed (by kernel_rfl) rfl ?_
      have hS := hS.drew
      repeat (first|refine Yek ?_|refine Yaf ?_|refine Yag ?_|refine Yba ?_|refine Ya0 ?_|refine Yae ?_|refine Yad ?_|refine Yal ?_|refine Ya6 ?_|refine Yaj ?_|refine Yfc ?_|(refine Zae ?_;first|refine Ya2 ?_|refine Ya4 ?_|refine Ybl ?_|refine Ybu ?_|refine Ybk ?_|refine Yb5 ?_|refine Ybm ?_|refine Ycs ?_))
      exact Zcb () ⟨rfl,rfl,trivial⟩ ⟨by omega,hS.conv (by rw [hT,Nat.add_assoc])⟩
     ·rw [← hx2] at d1 d2
      repeat (first|refine Yd1 ?_|(refine X_id ?_;first|(refine Zad 241 rfl rfl rfl rfl rfl hS (hm _ (hS.rd (List.mem_cons_self ..))) ?_;rintro _ _ rfl hS)|refine Yaf ?_|refine Yat ?_|refine Yan ?_)|refine Yd5 ?_|refine Yab ?_)
      refine Zaq (.s 0 (.s 1 (.s 2 (.s 3 (.s 4 (.s 5 (.s 6 (.s 7 (.s 8 (.s 9 (.s 10 (.s 11 (.s 12 .nil))))))))))))) mixed (by kernel_rfl) rfl ?_
      have hS := hS.drew
      repeat (first|refine Yeh ?_|(refine X_id ?_;first|refine Yaf ?_|refine Yag ?_|refine Ya3 ?_|refine Ya1 ?_|refine Ybv ?_)|refine Yae ?_|refine Yad ?_|refine Yal ?_|refine Ya6 ?_|refine Yaj ?_|refine Yfc ?_|(refine Zae ?_;first|refine Ya2 ?_|refine Ya4 ?_|refine Ybl ?_|refine Ybu ?_|refine Ybk ?_|refine Yb5 ?_|refine Ybm ?_|refine Ycs ?_))
      exact Zcb () ⟨rfl,rfl,trivial⟩ ⟨by omega,hS.conv (by rw [hT,Nat.add_assoc])⟩
   ·have hm := hm (i + g + j) e
    simp only [decide_eq_false hlt] at hm
    have hT := hstop j hd (fun c hc => by rw [List.getElem?_eq_none (by omega)] at hc; cases hc) hj
    repeat (first|refine Yd1 ?_|(refine X_id ?_;first|(refine Zad 241 rfl rfl rfl rfl rfl hS (hm _ (hS.rd (List.mem_cons_self ..))) ?_;rintro _ _ rfl hS)|refine Yaf ?_|refine Yat ?_|refine Yan ?_)|refine Yed ?_|refine Yd7 ?_)
    exact Zcb () ⟨rfl,rfl,trivial⟩ ⟨by omega,hS.conv (by rw [hT,Nat.add_assoc])⟩
  ·clear hS
   rintro _ w ⟨hT,hS⟩
   repeat (first|refine Yae ?_)
   have hsb := hb.subBytes (l := i) (h := i + T.length) (c := c) (by omega) (by omega)
   rw [Zxp htk] at hsb;refine Zaq (.s 0 (.s 1 (.s 2 (.s 3 (.s 4 (.s 5 (.s 6 (.s 7 (.s 8 (.s 9 (.s 10 (.s 11 (.s 12 (.s 13 .nil)))))))))))))) mixed (by kernel_rfl) rfl ?_
   have hS := hS.drew
   repeat (first|(refine Zae ?_;first|refine Ya4 ?_|refine Ybu ?_|refine Ybk ?_|refine Ybm ?_))
   refine Zah rfl rfl (fun _ => Zam (l := i) (h := i + T.length) rfl rfl rfl rfl (.inr ⟨_,_,rfl,by omega,by omega,by omega⟩) (.inr ⟨_,_,rfl,by omega,by omega,by omega⟩)) rfl rfl ?_
   refine Zb1 (fun w' => Rd w' (bytes (sub a i 1 c) T)) rfl rfl (hsb.rd hS) (fun _ h => Zcu rfl rfl h (by omega)) rfl rfl ?_
   repeat (first|refine Yah ?_|refine Yab ?_|refine Yb3 ?_|refine Yam ?_|(refine Zae ?_;first|refine Ye0 ?_))
   exact ⟨rfl,hS⟩
def Z4m (p : Nat) (a : Option Addr) (s : List UInt8) (c : Nat) (W : World) (F : Nat → Prop) (r : Option (Int × List UInt8)) (v : Value) (w : World) : Prop :=
 match r with
 | some (n,t) => v = .int .i64 n ∧ ∃ i,i ≤ s.length ∧ s.drop i = t ∧ St W F [Rdr p a s.length c i 0] w
 | none => v = .int .i64 0 ∧ ∃ i e,i ≤ s.length ∧ e ≠ 0 ∧ St W F [Rdr p a s.length c i e] w
instance : Und Tryz.prog 376 (.interface #[("Error", 382)]) := ⟨Tryz.underlying376⟩
theorem Lg.at_ {W : World} {F : Nat → Prop} {rs : List Res} {w : World} (H : Lg W F) (hS : St W F rs w) : Lg w noF := by
 obtain ⟨h1,tp,p,h2⟩ := H
 exact ⟨(h1.rd hS).ro,tp,p,(h2.rd hS).ro⟩
theorem Z4z (d : List UInt8) : ∀ a,(∀ c ∈ d,dig c = true) → (∃ u,Lib.parseUint10 a d = .ok u) ∨ Lib.parseUint10 a d = .range := by
 induction d with
 | nil => intro a _; exact .inl ⟨a,by rw [Lib.parseUint10]⟩
 | cons c d ih =>
  intro a hd
  rw [Lib.parseUint10,if_pos (dig_iff.1 (hd c (List.mem_cons_self ..)))]
  split
  ·exact .inr rfl
  ·split
   ·exact .inr rfl
   ·exact ih _ fun x hx => hd x (List.mem_cons_of_mem _ hx)
theorem Zzu {d : List UInt8} (h0 : d ≠ []) (hd : ∀ c ∈ d,dig c = true) : (∃ u,Lib.parseMag d = .ok u) ∨ Lib.parseMag d = .range := by
 unfold Lib.parseMag
 rw [if_neg h0];exact Z4z d 0 hd
theorem Zt9 {below : Bool} {l : List UInt8} (h : ¬ badN (numS below l)) : (∃ v,Lib.atoiAll (numS below l) = .ok v) ∨ Lib.atoiAll (numS below l) = .range := by
 have key : ∀ (neg : Prop) [Decidable neg] (u : Nat),(∃ v,(if ¬ neg ∧ 9223372036854775808 ≤ u then Lib.NumEnd.range else if neg ∧ 9223372036854775808 < u then .range else .ok (if neg then -(u : Int) else u)) = .ok v) ∨
   (if ¬ neg ∧ 9223372036854775808 ≤ u then Lib.NumEnd.range else if neg ∧ 9223372036854775808 < u then .range else .ok (if neg then -(u : Int) else u)) = .range := fun neg _ u => by
  split
  ·exact .inr rfl
  ·split
   ·exact .inr rfl
   ·exact .inl ⟨_,rfl⟩
 obtain ⟨d,hd,hs | ⟨hs,_⟩⟩ := Zh3 below l
 ·rw [hs] at h ⊢
  cases d with
  | nil => exact absurd (.inl rfl) h
  | cons c d =>
   have hc := Z1e (hd c (List.mem_cons_self ..))
   unfold Lib.atoiAll
   simp only
   rw [if_neg hc.2];rcases Zzu (by simp) hd with ⟨u,hu⟩ | hu
   ·rw [hu]; exact key _ u
   ·rw [hu]; exact .inr rfl
 ·rw [hs] at h ⊢
  unfold Lib.atoiAll
  simp only
  rw [if_pos (.inr rfl)];rcases Zzu (fun hn => h (.inr (.inl (by rw [hn])))) hd with ⟨u,hu⟩ | hu
  ·rw [hu]; exact key _ u
  ·rw [hu]; exact .inr rfl
theorem Zo6 (p : Nat) (a : Option Addr) (s : List UInt8) (c : Nat) (hsc : s.length ≤ c) (i : Nat) (below : Bool) (k : UInt8) (W : World) (F : Nat → Prop) (hS : St W F [Rdr p a s.length c i 0] W) (hb : Ro W F (bytes a s)) (hl : s.length ≤ 1099511627776) (hi : i ≤ s.length) (hG : Lg W F) :
  Calls Tryz.prog 246 #[.pointer (some ⟨p,0,none⟩),.bool below,.int .u8 (k.toNat : Int)] W (Ret fun v w => Z4m p a s c W F (num below k (s.drop i)) v w) := by
 have hdg := Z1w p a s c hsc i 0 below
 have hT := Zg9 below (s.drop i)
 have hTl := Z1d below (s.drop i)
 have hsy := Zt9 (below := below) (l := s.drop i)
 unfold num
 generalize numS below (s.drop i) = T at hdg hT hTl hsy ⊢;rw [List.length_drop] at hTl;have hz := Zb2 T
 have hTl' : i + T.length ≤ s.length := by omega
 rw [List.drop_drop];refine Zab Tryz.func246 rfl Tryz.ntmps246 rfl ?_
 repeat (first|refine Yd1 ?_|refine Yef ?_|refine Yd2 ?_|refine Yab ?_)
 obtain ⟨_,hc,hr,hw,hbk⟩ := hS.call [true]
 refine Zaa _ rfl rfl rfl rfl rfl (hdg _ _ hc (hw _ hb) hl hi) ?_
 rintro _ w ⟨rfl,hS⟩
 replace hS := hbk hS
 clear hc hr hw hbk;repeat (first|refine Yd1 ?_|refine Yaf ?_|refine Yag ?_|refine Yat ?_|refine Yan ?_|refine Yd2 ?_|refine Yab ?_)
 have hm := Zid p a s.length c (i + T.length) 0
 by_cases hlt : i + T.length < s.length
 ·simp only [decide_eq_true hlt] at hm
  refine Zad 241 rfl rfl rfl rfl rfl hS (hm _ (hS.rd (List.mem_cons_self ..))) ?_
  rintro _ w rfl hS
  have hdr := List.drop_eq_getElem_cons hlt
  generalize hx0 : s[i + T.length] = x at hdr;have hx : s[i + T.length]? = some x := by rw [List.getElem?_eq_getElem hlt,hx0]
  rw [hdr];simp only
  have hq := is_ p a s c (i + T.length) 0 k
  refine Zew rfl rfl ?_
  refine X_yl (Zjb rfl rfl) rfl rfl ?_
  refine Zpt ?_
  refine Zdd ?_
  refine Zbf rfl ?_
  refine Ze1 ?_
  refine Zdd ?_
  refine Zcm ?_
  refine Zcm ?_
  refine Zs7 (α := Bool) (fun b => [(0,.pointer (some ⟨p,0,none⟩)),(2,.int .u8 (k.toNat : Int)),(7,.string (str T)),(57,.bool b)]) (fun b w => (b = true ↔ badN T ∨ x ≠ k) ∧ St W F [Rdr p a s.length c (i + T.length) 0] w) ?_ ?_
  ·by_cases h1 : T = []
   ·repeat (first|refine Yac ?_|refine Yaa ?_|refine Ybe ?_|refine Yc5 ?_|refine Yaf ?_|refine Yba ?_|refine Yck ?_|refine Yad ?_)
    exact Zcb true ⟨rfl,rfl,rfl,rfl,trivial⟩ ⟨⟨fun _ => .inl (.inl h1),fun _ => rfl⟩,hS⟩
   ·by_cases h2 : T = [45]
    ·repeat (first|refine Yac ?_|refine Yaa ?_|refine Yav ?_|refine Ybe ?_|refine Yc5 ?_|(refine X_id ?_;first|refine Yaf ?_|refine Yba ?_|refine Ya3 ?_|refine Yck ?_|refine Ycc ?_)|refine Yad ?_)
     exact Zcb true ⟨rfl,rfl,rfl,rfl,trivial⟩ ⟨⟨fun _ => .inl (.inr (.inl h2)),fun _ => rfl⟩,hS⟩
    ·by_cases h3 : T = [45,48]
     ·repeat (first|refine Yac ?_|refine Yaa ?_|refine Yav ?_|refine Ybe ?_|refine Yc5 ?_|(refine X_id ?_;first|refine Yaf ?_|refine Yba ?_|refine Ya3 ?_|refine Yck ?_|refine Ycc ?_)|refine Yad ?_)
      exact Zcb true ⟨rfl,rfl,rfl,rfl,trivial⟩ ⟨⟨fun _ => .inl (.inr (.inr (.inl h3))),fun _ => rfl⟩,hS⟩
     ·obtain ⟨t,r,ht⟩ : ∃ t r,T = t :: r := by
       cases T with
       | nil => exact absurd rfl h1
       | cons t r => exact ⟨t,r,rfl⟩
      have ht0 : T[(0 : Int).toNat]? = some t := by rw [ht]; rfl
      have hth : T.head? = some t := by rw [ht]; rfl
      by_cases h4 : (t.toNat : Int) = 48 ∧ 1 < T.length
      ·obtain ⟨h4,h5⟩ := h4
       repeat (first|refine Yac ?_|refine Yaa ?_|refine Yav ?_|refine Ybe ?_|refine Yc5 ?_|(refine X_id ?_;first|refine Yaf ?_|refine Yba ?_|refine Ya3 ?_|refine Yb0 ?_|refine Ybf ?_|refine Ybv ?_|refine Ycc ?_|refine Yc0 ?_)|refine Yad ?_)
       refine Zcb true ⟨rfl,rfl,rfl,rfl,trivial⟩ ⟨⟨fun _ => .inl (.inr (.inr (.inr (.inl ⟨?_,h5⟩)))),fun _ => rfl⟩,hS⟩
       rw [hth,show t = 48 from UInt8.toNat_inj.1 (by have : (48 : UInt8).toNat = 48 := rfl; omega)]
      ·by_cases h6 : 2 < T.length ∧ List.take (2 - 0) (List.drop 0 T) = [45,48]
       ·obtain ⟨h6,h7⟩ := h6
        have h4' : ¬ (t.toNat : Int) = 48 := fun h => h4 ⟨h,by omega⟩
        repeat (first|refine Yev ?_|(refine X_id ?_;first|refine Yaf ?_|refine Yba ?_|refine Ya3 ?_|refine Yb0 ?_|refine Ybg ?_|refine Ybv ?_|refine Yck ?_|refine Ycc ?_|refine Yc0 ?_|refine Ydv ?_)|refine Yad ?_)
        exact Zcb true ⟨rfl,rfl,rfl,rfl,trivial⟩ ⟨⟨fun _ => .inl (.inr (.inr (.inr (.inr ⟨h6,by simpa using h7⟩)))),fun _ => rfl⟩,hS⟩
       ·have hgood : ¬ badN T := by
         rintro (h | h | h | ⟨h,h'⟩ | ⟨h,h'⟩)
         ·exact h1 h
         ·exact h2 h
         ·exact h3 h
         ·rw [hth] at h
          exact h4 ⟨by rw [Option.some.inj h]; rfl,h'⟩
         ·exact h6 ⟨h,by simpa using h'⟩
        have hcase : (¬ (t.toNat : Int) = 48 ∧ 2 < T.length ∧ ¬ List.take (2 - 0) (List.drop 0 T) = [45,48]) ∨ (¬ (t.toNat : Int) = 48 ∧ ¬ 2 < T.length) ∨ ((t.toNat : Int) = 48 ∧ ¬ 1 < T.length) := by
         by_cases q : (t.toNat : Int) = 48
         ·exact .inr (.inr ⟨q,fun h => h4 ⟨q,h⟩⟩)
         ·by_cases q2 : 2 < T.length
          ·exact .inl ⟨q,q2,fun h => h6 ⟨q2,h⟩⟩
          ·exact .inr (.inl ⟨q,q2⟩)
        have hlen : 1 ≤ T.length := by rw [ht]; simp
        clear ht hth;by_cases hxk : s[i + T.length]? = some k
        ·have hxe : x = k := by rw [hx] at hxk; exact Option.some.inj hxk
         simp only [decide_eq_true hxk] at hq
         rcases hcase with ⟨q1,q2,q3⟩ | ⟨q1,q2⟩ | ⟨q1,q2⟩
         all_goals
          repeat (first|refine Yev ?_|(refine X_id ?_;first|(refine Zad 243 rfl rfl rfl rfl rfl hS (hq _ (hS.rd (List.mem_cons_self ..)) (hb.rd hS)) ?_;rintro _ _ rfl hS)|refine Yaf ?_|refine Yat ?_|refine Yan ?_|refine Yba ?_|refine Ya3 ?_|refine Ybb ?_|refine Yb0 ?_|refine Ybf ?_|refine Ybg ?_|refine Ybv ?_|refine Ybq ?_|refine Ycc ?_|refine Yc0 ?_|refine Ydv ?_)|refine Yad ?_)
          exact Zcb false ⟨rfl,rfl,rfl,rfl,trivial⟩ ⟨⟨fun h => (Bool.noConfusion h),fun h => (h.elim hgood (fun q => q hxe)).elim⟩,hS⟩
        ·have hxe : x ≠ k := fun h => hxk (by rw [hx,h])
         simp only [decide_eq_false hxk] at hq
         rcases hcase with ⟨q1,q2,q3⟩ | ⟨q1,q2⟩ | ⟨q1,q2⟩
         all_goals
          repeat (first|refine Yev ?_|(refine X_id ?_;first|(refine Zad 243 rfl rfl rfl rfl rfl hS (hq _ (hS.rd (List.mem_cons_self ..)) (hb.rd hS)) ?_;rintro _ _ rfl hS)|refine Yaf ?_|refine Yat ?_|refine Yan ?_|refine Yba ?_|refine Ya3 ?_|refine Ybn ?_|refine Yb0 ?_|refine Ybf ?_|refine Ybg ?_|refine Ybv ?_|refine Ybq ?_|refine Ycc ?_|refine Yc0 ?_|refine Ydv ?_)|refine Yad ?_)
          exact Zcb true ⟨rfl,rfl,rfl,rfl,trivial⟩ ⟨⟨fun _ => .inr hxe,fun _ => rfl⟩,hS⟩
  ·clear hS
   rintro bad w ⟨hbad,hS⟩
   cases bad with
   | true =>
    rw [if_pos (hbad.1 rfl)];repeat (first|refine Yaa ?_|refine Yaf ?_|refine Yeb ?_)
    obtain ⟨_,hc,hr,hw,hbk⟩ := hS.call [true]
    refine Zaa _ rfl rfl rfl rfl rfl (Zjf p a s.length c (i + T.length) 0 3 _ _ hc) ?_
    rintro _ w ⟨rfl,hS⟩
    replace hS := hbk hS
    clear hc hr hw hbk;repeat (first|refine Yd1 ?_|refine Yag ?_|refine Yee ?_|refine Yej ?_)
    exact ⟨rfl,_,3,hTl',by decide,hS⟩
   | false =>
    have hgood : ¬ (badN T ∨ x ≠ k) := fun h => by have := hbad.2 h; cases this
    rw [if_neg hgood];have hxk : x = k := Decidable.not_not.1 fun h => hgood (.inr h)
    have hsyn := hsy (fun h => hgood (.inl h))
    repeat (first|refine Yaa ?_|refine Yaf ?_|refine Yec ?_|refine Yab ?_)
    refine Zad 274 rfl rfl rfl rfl rfl hS (Z5d T _ _ (hG.at_ hS) (by omega) hsyn) ?_
    rintro _ w ⟨n,er,rfl,hres⟩ hS
    rcases hres with ⟨hn,rfl⟩ | ⟨hn,t,pp,rfl⟩
    ·rw [hn]
     repeat (first|refine Yd1 ?_|(refine X_id ?_;first|refine Yaf ?_|refine Yag ?_|refine Yax ?_|refine X_yl (Zq9 rfl rfl) rfl rfl ?_)|refine Yec ?_|refine Yab ?_)
     obtain ⟨_,hc,hr,hw,hbk⟩ := hS.call [true]
     refine Zaa _ rfl rfl rfl rfl rfl (Zxn p a s c (i + T.length) 0 k _ _ hc (hw _ hb) hl) ?_
     rintro _ w ⟨rfl,hS⟩
     replace hS := hbk hS
     clear hc hr hw hbk;repeat (first|refine Yd1 ?_|refine Yef ?_|refine Yee ?_|refine Yd3 ?_)
     rw [show Ze2 s (i + T.length) 0 k = (i + T.length + 1,0) by unfold Ze2; rw [if_neg (by simp),if_neg (by simpa using hlt),if_pos (by rw [hx,hxk])]] at hS
     exact ⟨rfl,_,by omega,rfl,hS⟩
    ·rw [hn]
     repeat (first|refine Yd1 ?_|(refine X_id ?_;first|refine Yaf ?_|refine Yag ?_|refine Yax ?_|refine X_yl (Zpf rfl rfl rfl) rfl rfl ?_)|refine Yeb ?_|refine Yab ?_)
     obtain ⟨_,hc,hr,hw,hbk⟩ := hS.call [true]
     refine Zaa _ rfl rfl rfl rfl rfl (Zjf p a s.length c (i + T.length) 0 2 _ _ hc) ?_
     rintro _ w ⟨rfl,hS⟩
     replace hS := hbk hS
     clear hc hr hw hbk;repeat (first|refine Yd1 ?_|refine Yag ?_|refine Yee ?_|refine Yej ?_)
     exact ⟨rfl,_,2,hTl',by decide,hS⟩
 ·simp only [decide_eq_false hlt] at hm
  rw [List.drop_of_length_le (by omega)];repeat (first|refine Yd1 ?_|(refine X_id ?_;first|(refine Zad 241 rfl rfl rfl rfl rfl hS (hm _ (hS.rd (List.mem_cons_self ..))) ?_;rintro _ _ rfl hS)|refine Yaf ?_|refine Ybn ?_)|refine Yeb ?_|refine Yab ?_)
  obtain ⟨_,hc,hr,hw,hbk⟩ := hS.call [true]
  refine Zaa _ rfl rfl rfl rfl rfl (Zjf p a s.length c (i + T.length) 0 4 _ _ hc) ?_
  rintro _ w ⟨rfl,hS⟩
  replace hS := hbk hS
  clear hc hr hw hbk;repeat (first|refine Yd1 ?_|refine Yag ?_|refine Yee ?_|refine Yej ?_)
  exact ⟨rfl,_,4,hTl',by decide,hS⟩
def Z5f (p : Nat) (a : Option Addr) (s : List UInt8) (c : Nat) (W : World) (F : Nat → Prop) (r : Option (Mv × List UInt8)) (v : Value) (w : World) : Prop :=
 match r with
 | some (t,l) => ∃ cs X,v = .agg (List.toArray cs) ∧ Mrd (RX X) t cs ∧ ∃ i,i ≤ s.length ∧ s.drop i = l ∧ St W F [bag X,Rdr p a s.length c i 0] w
 | none => ∃ k n a1 n1 c1 a2 n2 c2,v = .agg (List.toArray [.int .i64 k,.int .i64 n,.slice a1 n1 c1,.slice a2 n2 c2]) ∧ ∃ i e,i ≤ s.length ∧ e ≠ 0 ∧ St W F [Rdr p a s.length c i e] w
def Z5j (p : Nat) (a : Option Addr) (s : List UInt8) (c : Nat) (W : World) (F : Nat → Prop) (r : Option (List Mv × List UInt8)) (v : Value) (w : World) : Prop :=
 match r with
 | some (x,l) => ∃ b q rows X,v = .slice b x.length q ∧ RX X b rows.flatten ∧ Mrds (RX X) x rows ∧ ∃ i,i ≤ s.length ∧ s.drop i = l ∧ St W F [bag X,Rdr p a s.length c i 0] w
 | none => ∃ b m q,v = .slice b m q ∧ ∃ i e,i ≤ s.length ∧ e ≠ 0 ∧ St W F [Rdr p a s.length c i e] w
def Zno (p : Nat) (a : Option Addr) (s : List UInt8) (c : Nat) (f : Nat) : Prop :=
 ∀ (i deep : Nat) (W : World) (F : Nat → Prop),i ≤ s.length → deep ≤ 9 → 2 * (s.length - i) + 1 ≤ f → Lg W F → Ro W F (bytes a s) → St W F [Rdr p a s.length c i 0] W →
  Calls Tryz.prog 212 #[.pointer (some ⟨p,0,none⟩),.int .i64 (deep : Nat)] W (Ret fun v w => Z5f p a s c W F (pvM f deep (s.drop i)) v w)
def Zw4 (p : Nat) (a : Option Addr) (s : List UInt8) (c : Nat) (f : Nat) : Prop :=
 ∀ (i deep : Nat) (W : World) (F : Nat → Prop),s[i]? = some 40 → deep ≤ 9 → 2 * (s.length - (i + 1)) + 2 ≤ f → Lg W F → Ro W F (bytes a s) → St W F [Rdr p a s.length c i 0] W →
  Calls Tryz.prog 244 #[.pointer (some ⟨p,0,none⟩),.int .i64 (deep : Nat)] W (Ret fun v w => Z5j p a s c W F (if 8 < deep then none else plM f deep (s.drop (i + 1))) v w)

theorem Zu7 (f deep : Nat) : pvM f deep [] = none := by cases f <;> simp [pvM]
theorem Zx3 (f deep : Nat) (l : List UInt8) (h : l.head? ≠ some 41) : plM (f + 1) deep l = match pvM f (deep + 1) l with
  | none => none
  | some (t,r') => match plM f deep r' with
   | none => none
   | some (x,r'') => some (t :: x,r'') := by
 cases l with
 | nil => rw [Zu7]; simp [plM]
 | cons c l =>
  rw [plM,if_neg (fun e => h (by rw [e]; rfl))]
  cases pvM f (deep + 1) (c :: l) with
  | none => rfl
  | some q =>
   obtain ⟨t,r'⟩ := q
   simp only
   cases plM f deep r' with
   | none => rfl
   | some q => rfl
def Z2g (top p : Nat) (a : Option Addr) (s : List UInt8) (c : Nat) (deep : Nat) (res : Option (List Mv × List UInt8)) (W : World) (F : Nat → Prop) (z : Nat × Option Addr × Nat × Nat) (w : World) : Prop :=
 (∃ f i x rows X,z.1 = f + 1 ∧ deep ≤ 8 ∧ f ≤ top ∧ z.2.2.1 = x.length ∧ x.length ≤ z.2.2.2 ∧ i ≤ s.length ∧ x.length ≤ i ∧ 2 * (s.length - i) + 2 ≤ f ∧ res = (plM f deep (s.drop i)).map (fun q => (x ++ q.1,q.2)) ∧ Mrds (RX X) x rows ∧
  St W F [own 206 4 z.2.1 z.2.2.2 rows.flatten,bag X,Rdr p a s.length c i 0] w) ∨
 (res = none ∧ ∃ i e,i ≤ s.length ∧ e ≠ 0 ∧ St W F [Rdr p a s.length c i e] w)
def Z5k (p : Nat) (a : Option Addr) (s : List UInt8) (c : Nat) (res : Option (List Mv × List UInt8)) (W : World) (F : Nat → Prop) (z : Option Addr × Nat × Nat) (w : World) : Prop :=
 (∃ i x rows X,z.2.1 = x.length ∧ s[i]? = some 41 ∧ res = some (x,s.drop (i + 1)) ∧ Mrds (RX X) x rows ∧
  St W F [own 206 4 z.1 z.2.2 rows.flatten,bag X,Rdr p a s.length c i 0] w) ∨
 (res = none ∧ ∃ i e,i ≤ s.length ∧ e ≠ 0 ∧ St W F [Rdr p a s.length c i e] w)
theorem Zyc (p : Nat) (a : Option Addr) (s : List UInt8) (c : Nat) (hl : s.length ≤ 1099511627776) (f : Nat) (hv : ∀ g,g < f → Zno p a s c g) : Zw4 p a s c f := by
 intro i deep W F hi hd hf hG hb hS
 have hil := (List.getElem?_eq_some_iff.1 hi).1
 obtain ⟨res,hres⟩ : ∃ res,res = (if 8 < deep then none else plM f deep (s.drop (i + 1))) := ⟨_,rfl⟩
 rw [← hres];refine Zab Tryz.func244 rfl Tryz.ntmps244 rfl ?_
 repeat (first|refine Yd1 ?_|refine Yef ?_|refine Yd2 ?_|refine Yab ?_)
 obtain ⟨_,hc,hr,hw,hbk⟩ := hS.call [true]
 refine Zaa _ rfl rfl rfl rfl rfl (Zxn p a s c i 0 40 _ _ hc (hw _ hb) hl) ?_
 rintro _ w ⟨rfl,hS⟩
 replace hS := hbk hS
 clear hc hr hw hbk;rw [show Ze2 s i 0 40 = (i + 1,0) by unfold Ze2; rw [if_neg (by simp),if_neg (by simpa using hil),if_pos hi]] at hS
 simp only at hS
 by_cases h8 : 8 < deep
 case' pos =>
  rw [if_pos h8] at hres;repeat (first|refine Yd1 ?_|refine Yaf ?_|refine Ybv ?_|refine Yeb ?_|refine Yab ?_)
  obtain ⟨_,hc,hr,hw,hbk⟩ := hS.call [true]
  refine Zaa _ rfl rfl rfl rfl rfl (Zjf p a s.length c (i + 1) 0 18 _ _ hc) ?_
  rintro _ w ⟨rfl,hS⟩
  replace hS := hbk hS
  clear hc hr hw hbk;repeat (first|refine Yd1 ?_|refine Yag ?_|refine Yd4 ?_|refine Yab ?_)
  have hI : ∃ z0,Z2g f p a s c deep res W F (z0,none,0,0) _ := ⟨0,.inr ⟨hres,_,18,hil,by decide,hS⟩⟩
 case' neg =>
  rw [if_neg h8] at hres;repeat (first|refine Yd1 ?_|refine Yaf ?_|refine Yag ?_|refine Ybq ?_|refine Ye4 ?_|refine Yab ?_)
  have hI : ∃ z0,Z2g f p a s c deep res W F (z0,none,0,0) _ := ⟨f + 1,.inl ⟨f,i + 1,[],[],[],rfl,by omega,Nat.le_refl _,rfl,Nat.le_refl _,hil,Nat.zero_le _,hf,by rw [hres]; cases plM f deep (s.drop (i + 1)) <;> simp,.nil,(hS.bagNil).own_none _ _ _⟩⟩
 all_goals
  obtain ⟨z0,hI⟩ := hI
  clear hS hres;refine Zcd (α := Option Addr × Nat × Nat) (fun z => [(0,.pointer (some ⟨p,0,none⟩)),(5,.slice z.1 z.2.1 z.2.2)]) (Z5k p a s c res W F) ?_ ?_
  ·refine Zak (α := Nat × Option Addr × Nat × Nat) (fun z => [(0,.pointer (some ⟨p,0,none⟩)),(1,.int .i64 (deep : Nat)),(5,.slice z.2.1 z.2.2.1 z.2.2.2)]) (Z2g f p a s c deep res W F) (fun z => z.1) (z0,none,0,0) ⟨rfl,rfl,rfl,trivial⟩ hI ?_
   clear hI;rintro ⟨m,b,n,q⟩ w (⟨g,j,x,rows,X,hm,hd8,hgf,hn,hnq,hj,hxj,hg,hr,hM,hS⟩ | ⟨hr,j,e,hj,he,hS⟩)
   ·simp only at hm hn hnq hS
    subst hm hn
    have hrl := hM.flat
    have hq41 := is_ p a s c j 0 41
    obtain ⟨g',rfl⟩ : ∃ g',g = g' + 1 := ⟨g - 1,by omega⟩
    by_cases h41 : s[j]? = some 41
    ·simp only [decide_eq_true h41] at hq41
     repeat (first|refine Yeh ?_|(refine X_id ?_;first|(refine Zad 243 rfl rfl rfl rfl rfl hS (hq41 _ (hS.rd (List.mem_cons_of_mem _ (List.mem_cons_of_mem _ (List.mem_cons_self ..)))) (hb.rd hS)) ?_;rintro _ _ rfl hS)|refine Yaf ?_|refine Yat ?_|refine Yan ?_|refine Yba ?_|refine Ybb ?_|refine Ybf ?_|refine Yaq ?_)|refine Yed ?_|refine Yd7 ?_)
     refine Zcb (b,x.length,q) ⟨rfl,rfl,trivial⟩ (.inl ⟨j,x,rows,X,rfl,h41,?_,hM,hS⟩)
     obtain ⟨hjl,hje⟩ := List.getElem?_eq_some_iff.1 h41
     rw [hr,List.drop_eq_getElem_cons hjl,hje,plM,if_pos rfl];simp
    ·simp only [decide_eq_false h41] at hq41
     rw [Zx3 g' deep _ (by rw [List.head?_drop]; exact h41)] at hr
     repeat (first|refine Yeh ?_|(refine X_id ?_;first|(refine Zad 243 rfl rfl rfl rfl rfl hS (hq41 _ (hS.rd (List.mem_cons_of_mem _ (List.mem_cons_of_mem _ (List.mem_cons_self ..)))) (hb.rd hS)) ?_;rintro _ _ rfl hS)|refine Yaf ?_|refine Yat ?_|refine Yan ?_|refine Yba ?_|refine Ybn ?_|refine Ybf ?_|refine Yaw ?_|refine Yaq ?_)|refine Yd5 ?_|refine Yab ?_)
     obtain ⟨_,hc,_,hw,hbk⟩ := hS.call [false,false,true]
     refine Zaa _ rfl rfl rfl rfl rfl (hv g' (by omega) j (deep + 1) _ _ hj (by omega) (by omega) (hG.mono hw) (hw _ hb) hc) ?_
     rintro v w hV
     cases hp : pvM g' (deep + 1) (s.drop j) with
     | none =>
      rw [hp] at hV hr;obtain ⟨k1,k2,a1,n1,c1,a2,n2,c2,rfl,j',e',hj',he',hS⟩ := hV
      replace hS := hbk hS
      clear hbk hw hc;simp only at hr
      repeat (first|refine Yaa ?_|refine Ybi (fun _ _ hS _ => ?_))
      have hnw := (hS.rd (List.mem_cons_self ..)).own_row
      refine Zar rfl rfl rfl rfl rfl hS hrl hnq hnw rfl (by simp [Value.oneCell']) (by dsimp only; omega) (by simp only [maxLen]; omega) (fun b' q' w hS hq' _ => ?_)
      repeat (first|refine Yd1 ?_|refine Yag ?_|refine Yau ?_)
      exact Zaf (z := (g' + 1 + 1,b,x.length,q)) (0,b',x.length + 1,q') ⟨rfl,rfl,rfl,trivial⟩ (.inr ⟨by rw [hr]; rfl,j',e',hj',he',hS.took⟩) (by simp)
     | some u =>
      obtain ⟨t,l⟩ := u
      rw [hp] at hV hr;obtain ⟨cs,Y,rfl,hMt,j',hj',hdl,hS⟩ := hV
      replace hS := hbk hS
      clear hbk hw hc;obtain ⟨a1,c1,a2,c2,rows2,rfl,_⟩ := hMt.lit
      have hlen := (Z26 g').1 _ _ _ _ hp
      rw [← hdl] at hlen hr;simp only [List.length_drop] at hlen
      simp only at hr
      repeat (first|refine Yaa ?_|refine Ybi (fun _ _ hS _ => ?_))
      have hnw := (hS.rd (List.mem_cons_self ..)).own_row
      refine Zar rfl rfl rfl rfl rfl hS hrl hnq hnw rfl (by simp [Value.oneCell']) (by dsimp only; omega) (by simp only [maxLen]; omega) (fun b' q' w hS hq' _ => ?_)
      repeat (first|refine Yd1 ?_|refine Yag ?_|refine Yau ?_)
      have hS : St W F [bag X,bag Y,own 206 4 b' q' (rows.flatten ++ [.int .i64 t.kind,.int .i64 t.num,.slice a1 t.txt.length c1,.slice a2 t.lst.length c2]),Rdr p a s.length c j' 0] w := hS.took
      replace hS := hS.bagJoin
      refine Zaf (z := (g' + 1 + 1,b,x.length,q)) (g' + 1,b',x.length + 1,q') ⟨rfl,rfl,rfl,trivial⟩ (.inl ⟨g',j',x ++ [t],rows ++ [[.int .i64 t.kind,.int .i64 t.num,.slice a1 t.txt.length c1,.slice a2 t.lst.length c2]],X ++ Y,rfl,hd8,by omega,by simp,by simpa using hq',hj',by simp; omega,by omega,?_,(hM.mono fun _ _ h => h.left).snoc (hMt.mono fun _ _ h => h.right),?_⟩) (by simp)
      ·rw [hr]
       cases plM g' deep (s.drop j') with
       | none => rfl
       | some q => simp
      ·rw [List.flatten_append]
       simpa using hS.took
   ·repeat (first|refine Yek ?_|(refine X_id ?_;first|refine Yaf ?_|refine Yat ?_|refine Yan ?_|refine Ya3 ?_|refine Ybg ?_|refine Yaq ?_)|refine Yed ?_|refine Yd7 ?_)
    exact Zcb (b,n,q) ⟨rfl,rfl,trivial⟩ (.inr ⟨hr,j,e,hj,he,hS⟩)
  ·clear hI
   rintro ⟨b,n,q⟩ w (⟨j,x,rows,X,hn,h41,hr,hM,hS⟩ | ⟨hr,j,e,hj,he,hS⟩)
   ·simp only at hn hS
    subst hn
    have hjl := (List.getElem?_eq_some_iff.1 h41).1
    repeat (first|refine Yaa ?_|refine Yaf ?_|refine Yd2 ?_)
    obtain ⟨_,hc,hr,hw,hbk⟩ := hS.call [false,false,true]
    refine Zaa _ rfl rfl rfl rfl rfl (Zxn p a s c j 0 41 _ _ hc (hw _ hb) hl) ?_
    rintro _ w ⟨rfl,hS⟩
    replace hS := hbk hS
    clear hc hr hw hbk;rw [show Ze2 s j 0 41 = (j + 1,0) by unfold Ze2; rw [if_neg (by simp),if_neg (by simpa using hjl),if_pos h41]] at hS
    simp only at hS
    repeat (first|refine Yd1 ?_|refine Yef ?_|refine Yee ?_|refine Yd3 ?_)
    rw [hr];have hS : St W F [own 206 4 b q rows.flatten,bag X,Rdr p a s.length c (j + 1) 0] _ := hS.took
    exact ⟨b,q,rows,_,rfl,.mem (List.mem_cons_self ..),hM.mono fun _ _ h => h.tail,j + 1,hjl,rfl,hS.bagAdd fun _ h => h.row⟩
   ·repeat (first|refine Yaa ?_|refine Yaf ?_|refine Yd2 ?_)
    obtain ⟨_,hc,hr,hw,hbk⟩ := hS.call [true]
    refine Zaa _ rfl rfl rfl rfl rfl (Zxm p a s.length c j e 41 _ _ hc he) ?_
    rintro _ w ⟨rfl,hS⟩
    replace hS := hbk hS
    clear hc hr hw hbk;repeat (first|refine Yd1 ?_|refine Yef ?_|refine Yee ?_|refine Yd3 ?_)
    rw [hr];exact ⟨b,n,q,rfl,j,e,hj,he,hS⟩
theorem Zx2 (f deep : Nat) (r : List UInt8) : pvM (f + 1) deep (40 :: r) = (if 8 < deep then none else plM f deep r).map fun q => (liM q.1,q.2) := by
 rw [pvM,if_pos rfl]
 split
 ·rfl
 ·cases plM f deep r <;> rfl
theorem Z04 (f deep : Nat) (r : List UInt8) : pvM (f + 1) deep (105 :: r) = (num true 59 r).map fun q => (nuM q.1,q.2) := by
 rw [pvM,if_neg (by decide),if_pos rfl];cases num true 59 r <;> rfl
theorem Z03 (f deep : Nat) (c : UInt8) (r : List UInt8) (h1 : ¬ c = 40) (h2 : ¬ c = 105) : pvM (f + 1) deep (c :: r) =
  (num false 58 (c :: r)).bind fun q => if q.1.toNat ≤ q.2.length then some (txM (q.2.take q.1.toNat),q.2.drop q.1.toNat) else none := by
 rw [pvM,if_neg h1,if_neg h2];cases num false 58 (c :: r) <;> rfl
theorem Zri (p : Nat) (a : Option Addr) (n c : Nat) (i : Nat) (k : Int) (W : World) (F : Nat → Prop) (hS : St W F [Rdr p a n c i 0] W) :
  Calls Tryz.prog 242 #[.pointer (some ⟨p,0,none⟩),.int .i64 k] W (Ret fun v w => v = .tuple #[] ∧ St W F [Rdr p a n c i k] w) := Zjf p a n c i 0 k W F hS
theorem Zuj (p : Nat) (a : Option Addr) (s : List UInt8) (c : Nat) (hsc : s.length ≤ c) (hl : s.length ≤ 1073741824) (f : Nat) (hL : Zw4 p a s c f) : Zno p a s c (f + 1) := by
 intro i deep W F hi hd hf hG hb hS
 have hm := Zid p a s.length c i 0
 have q40 := is_ p a s c i 0 40
 have q105 := is_ p a s c i 0 105
 refine Zab Tryz.func212 rfl Tryz.ntmps212 rfl ?_
 by_cases hlt : i < s.length
 ·simp only [decide_eq_true hlt] at hm
  have hdr := List.drop_eq_getElem_cons hlt
  generalize hx0 : s[i] = x at hdr;have hx : s[i]? = some x := by rw [List.getElem?_eq_getElem hlt,hx0]
  rw [hdr];by_cases h40 : x = 40
  ·subst h40
   simp only [decide_eq_true hx] at q40
   have hLi := hL i deep
   rw [Zx2];generalize (if 8 < deep then none else plM f deep (s.drop (i + 1))) = res at hLi ⊢;repeat (first|refine Yd1 ?_|(refine X_id ?_;first|(refine Zad 241 rfl rfl rfl rfl rfl hS (hm _ (hS.rd (List.mem_cons_of_mem _ (List.mem_cons_self ..)))) ?_;rintro _ _ rfl hS)|(refine Zad 243 rfl rfl rfl rfl rfl hS (q40 _ (hS.rd (List.mem_cons_of_mem _ (List.mem_cons_self ..))) (hb.rd hS)) ?_;rintro _ _ rfl hS)|refine Yaf ?_|refine Yag ?_|refine Yat ?_|refine Yan ?_|refine Ybb ?_|refine Yas (fun _ _ hS _ => ?_))|refine Yfd ?_|refine Yab ?_)
   obtain ⟨_,hc,_,hw,hbk⟩ := hS.call [false,true]
   refine Zaa _ rfl rfl rfl rfl rfl (hLi _ _ hx hd (by omega) (hG.mono hw) (hw _ hb) hc) ?_
   rintro v w hV
   cases res with
   | none =>
    obtain ⟨b,m,q,rfl,j,e,hj,he,hS⟩ := hV
    replace hS := hbk hS
    clear hbk hw hc;repeat (first|refine Yd1 ?_|refine Ybo ?_|refine Yao (fun _ hS _ => ?_)|refine Yah ?_|refine Yab ?_|refine Yap ?_|refine Ya9 ?_|refine Ybx ?_)
    exact ⟨_,_,_,_,_,_,_,_,rfl,j,e,hj,he,hS.took⟩
   | some u =>
    obtain ⟨x,t⟩ := u
    obtain ⟨b,q,rows,X,rfl,hb2,hM,j,hj,hdj,hS⟩ := hV
    replace hS := hbk hS
    clear hbk hw hc;repeat (first|refine Yd1 ?_|refine Ybo ?_|refine Yao (fun _ hS _ => ?_)|refine Yah ?_|refine Yab ?_|refine Yap ?_|refine Ya9 ?_|refine Ybx ?_)
    have hS : St W F [bag X,Rdr p a s.length c j 0] _ := hS.took
    exact ⟨_,X,rfl,.mk (k := 2) (n := 0) (b := []) (l := x) (Nat.zero_le _) .nil hb2 hM.1 hM.2,j,hj,hdj,hS⟩
  ·have h40' : ¬ s[i]? = some 40 := fun h => h40 (by rw [hx] at h; exact Option.some.inj h)
   simp only [decide_eq_false h40'] at q40
   by_cases h105 : x = 105
   ·subst h105
    simp only [decide_eq_true hx] at q105
    rw [Z04];have hN := Zo6 p a s c hsc (i + 1) true 59
    generalize num true 59 (s.drop (i + 1)) = res at hN ⊢;repeat (first|refine Yd1 ?_|(refine X_id ?_;first|(refine Zad 241 rfl rfl rfl rfl rfl hS (hm _ (hS.rd (List.mem_cons_of_mem _ (List.mem_cons_self ..)))) ?_;rintro _ _ rfl hS)|(refine Zad 243 rfl rfl rfl rfl rfl hS (q40 _ (hS.rd (List.mem_cons_of_mem _ (List.mem_cons_self ..))) (hb.rd hS)) ?_;rintro _ _ rfl hS)|(refine Zad 243 rfl rfl rfl rfl rfl hS (q105 _ (hS.rd (List.mem_cons_of_mem _ (List.mem_cons_self ..))) (hb.rd hS)) ?_;rintro _ _ rfl hS)|refine Yaf ?_|refine Yag ?_|refine Yat ?_|refine Yan ?_|refine Ybb ?_|refine Yas (fun _ _ hS _ => ?_))|refine Yfd ?_|refine Yab ?_)
    obtain ⟨_,hc,hr,hw,hbk⟩ := hS.call [false,true]
    refine Zaa _ rfl rfl rfl rfl rfl (Zxn p a s c i 0 105 _ _ hc (hw _ hb) (by omega)) ?_
    rintro _ w ⟨rfl,hS⟩
    replace hS := hbk hS
    clear hc hr hw hbk;rw [show Ze2 s i 0 105 = (i + 1,0) by unfold Ze2; rw [if_neg (by simp),if_neg (by simpa using hlt),if_pos hx]] at hS
    simp only at hS
    repeat (first|refine Yd1 ?_|refine Yaf ?_|refine Yd2 ?_|refine Yab ?_)
    obtain ⟨_,hc,_,hw,hbk⟩ := hS.call [true,false]
    refine Zaa _ rfl rfl rfl rfl rfl (hN _ _ hc (hw _ hb) (by omega) (by omega) (hG.mono hw)) ?_
    rintro v w hV
    cases res with
    | none =>
     obtain ⟨rfl,j,e,hj,he,hS⟩ := hV
     replace hS := hbk hS
     clear hbk hw hc;repeat (first|refine Yd1 ?_|refine Ybo ?_|refine Yao (fun _ hS _ => ?_)|refine Yah ?_|refine Yab ?_|refine Yap ?_|refine Ya9 ?_|refine Ybx ?_)
     exact ⟨_,_,_,_,_,_,_,_,rfl,j,e,hj,he,hS.took⟩
    | some u =>
     obtain ⟨n,t⟩ := u
     obtain ⟨rfl,j,hj,hdj,hS⟩ := hV
     replace hS := hbk hS
     clear hbk hw hc;repeat (first|refine Yd1 ?_|refine Ybo ?_|refine Yao (fun _ hS _ => ?_)|refine Yah ?_|refine Yab ?_|refine Yap ?_|refine Ya9 ?_|refine Ybx ?_)
     have hS : St W F [Rdr p a s.length c j 0] _ := hS.took
     exact ⟨_,[],rfl,.mk (k := 0) (n := n) (b := []) (l := []) (rows := []) (Nat.zero_le _) .nil .nil rfl (fun _ _ _ h => by simp at h),j,hj,hdj,hS.bagNil⟩
   ·have h105' : ¬ s[i]? = some 105 := fun h => h105 (by rw [hx] at h; exact Option.some.inj h)
    simp only [decide_eq_false h105'] at q105
    rw [Z03 _ _ _ _ h40 h105,← hdr];have hN := Zo6 p a s c hsc i false 58
    have hnn : ∀ n t,num false 58 (s.drop i) = some (n,t) → 0 ≤ n := fun n t h => Zll h
    generalize num false 58 (s.drop i) = res at hN hnn ⊢;repeat (first|refine Yd1 ?_|(refine X_id ?_;first|(refine Zad 241 rfl rfl rfl rfl rfl hS (hm _ (hS.rd (List.mem_cons_of_mem _ (List.mem_cons_self ..)))) ?_;rintro _ _ rfl hS)|(refine Zad 243 rfl rfl rfl rfl rfl hS (q40 _ (hS.rd (List.mem_cons_of_mem _ (List.mem_cons_self ..))) (hb.rd hS)) ?_;rintro _ _ rfl hS)|(refine Zad 243 rfl rfl rfl rfl rfl hS (q105 _ (hS.rd (List.mem_cons_of_mem _ (List.mem_cons_self ..))) (hb.rd hS)) ?_;rintro _ _ rfl hS)|refine Yaf ?_|refine Yag ?_|refine Yat ?_|refine Yan ?_|refine Ybb ?_|refine Yas (fun _ _ hS _ => ?_))|refine Yen ?_|refine Yab ?_)
    obtain ⟨_,hc,_,hw,hbk⟩ := hS.call [false,true]
    refine Zaa _ rfl rfl rfl rfl rfl (hN _ _ hc (hw _ hb) (by omega) (by omega) (hG.mono hw)) ?_
    rintro v w hV
    cases res with
    | none =>
     obtain ⟨rfl,j,e,hj,he,hS⟩ := hV
     replace hS := hbk hS
     clear hbk hw hc;repeat (first|refine Yd1 ?_|refine Yag ?_|refine Yae ?_|refine Yab ?_)
     refine Zaq (.s 0 (.s 1 (.s 2 (.s 3 (.s 4 (.s 5 (.s 6 (.s 7 (.s 8 (.s 9 (.s 10 (.s 11 (.s 12 (.s 13 (.s 14 (.s 15 (.s 16 (.s 17 (.s 18 (.s 19 (.s 20 .nil))))))))))))))))))))) mixed (by kernel_rfl) rfl ?_
     have hS := hS.drew
     repeat (first|refine Yd1 ?_|(refine X_id ?_;first|refine Yaf ?_|refine Yat ?_|refine Yan ?_|refine Ybg ?_|refine Ybo ?_|refine Yaq ?_|refine Yao (fun _ hS _ => ?_))|refine Yeq ?_|refine Yab ?_|refine Yau ?_|refine Ybx ?_|(refine Zae ?_;first|refine Ya2 ?_|refine Ya4 ?_|refine Ybu ?_|refine Ybk ?_|refine Yca ?_|refine Zah rfl rfl (fun _ => Zhs rfl rfl rfl (by omega)) rfl rfl ?_|refine Ybm ?_|refine Ycf ?_))
     exact ⟨_,_,_,_,_,_,_,_,rfl,j,e,hj,he,hS.took⟩
    | some u =>
     obtain ⟨n,t⟩ := u
     obtain ⟨rfl,j,hj,hdj,hS⟩ := hV
     replace hS := hbk hS
     clear hbk hw hc;obtain ⟨m,rfl⟩ : ∃ m : Nat,n = m := ⟨n.toNat,by have := hnn n t rfl; omega⟩
     have htl : t.length = s.length - j := by rw [← hdj,List.length_drop]
     simp only [Option.bind_some,Int.toNat_natCast]
     by_cases hmt : m ≤ t.length
     ·rw [if_pos hmt]
      repeat (first|refine Yd1 ?_|refine Yag ?_|refine Yae ?_|refine Yab ?_)
      refine Zaq (.s 0 (.s 1 (.s 2 (.s 3 (.s 4 (.s 5 (.s 6 (.s 7 (.s 8 (.s 9 (.s 10 (.s 11 (.s 12 (.s 13 (.s 14 (.s 15 (.s 16 (.s 17 (.s 18 (.s 19 (.s 20 .nil))))))))))))))))))))) mixed (by kernel_rfl) rfl ?_
      have hS := hS.drew
      repeat (first|refine Yd1 ?_|(refine X_id ?_;first|refine Yaf ?_|refine Yat ?_|refine Yan ?_|refine Ybf ?_|refine Yaw ?_|refine Yaq ?_|refine Yao (fun _ hS _ => ?_))|refine Yew ?_|refine Yab ?_|(refine Zae ?_;first|refine Ya2 ?_|refine Ya4 ?_|refine Ybu ?_|refine Ybk ?_|refine Ycg ?_|refine Ydp ?_|refine Ybm ?_|refine Ycb ?_|refine Ycy ?_|refine Ycr ?_|refine Ydu ?_|refine Zb4 rfl rfl rfl rfl (fun _ => Znh rfl rfl rfl (by omega)) rfl rfl ?_|refine Ydy ?_|refine Ycz ?_))
      have hS := hS.conv (rs' := [Rdr p a s.length c (j + m) 0,pts _ (.cells (List.toArray _) _ _)]) rfl
      refine Zaq (.s 0 (.s 1 (.s 2 (.s 3 (.s 4 (.s 5 (.s 6 (.s 7 (.s 8 (.s 9 (.s 10 (.s 11 (.s 12 (.s 13 (.s 14 (.s 15 (.s 16 (.s 17 (.h 18 (.s 19 (.h 20 .nil .no)) .no))))))))))))))))))) mixed (by kernel_rfl) rfl ?_
      have hS := hS.drew
      repeat (first|(refine Zae ?_;first|refine Ya4 ?_|refine Ybu ?_|refine Ybk ?_|refine Ycp ?_|refine Ybm ?_))
      have hsb : Ro W F (bytes (Cr.sub a j 1 c) (t.take m)) := by
       have := hb.subBytes (l := j) (h := j + m) (c := c) (by omega) (by omega)
       rwa [show j + m - j = m by omega,hdj] at this
      refine Zah rfl rfl (fun _ => Zam (l := j) (h := j + m) rfl rfl rfl rfl (.inr ⟨_,_,rfl,by omega,by omega,by omega⟩) (.inr ⟨_,_,rfl,by omega,by omega,by omega⟩)) rfl rfl ?_
      repeat (first|(refine Zae ?_;first|refine Yay ?_))
      refine Zaa _ rfl rfl rfl rfl rfl (Zeu _ _ _ (t.take m) _ (hsb.rd hS) (by simp; omega) (by omega)) ?_
      rintro _ w ⟨a',c',rfl,_,hc',hS'⟩
      replace hS := hS.plus hS';clear hS';repeat (first|refine Yao (fun _ hS _ => ?_)|refine Yah ?_|refine Yab ?_|refine Yap ?_|refine Ya9 ?_|refine Ybx ?_|(refine Zae ?_;first|refine Ya2 ?_|refine Yb8 ?_|refine Yay ?_)|(refine Zac ?_;first|refine Yaz ?_))
      have hS : St W F [own 5 1 a' c' (bv (t.take m)),Rdr p a s.length c (j + m) 0] _ := hS.took
      have hS := hS.toBag (a := a') (cs := bv (t.take m)) fun _ h => h.row
      have hmt' : (t.take m).length = j + m - j := by simp; omega
      rw [← hmt'];exact ⟨_,_,rfl,.mk (k := 1) (n := 0) (b := t.take m) (l := []) (rows := []) (by rw [hmt']; omega) (.mem (List.mem_cons_self ..)) .nil rfl (fun _ _ _ h => by simp at h),j + m,by omega,by rw [← hdj,List.drop_drop],hS⟩
     ·rw [if_neg hmt]
      repeat (first|refine Yd1 ?_|refine Yag ?_|refine Yae ?_|refine Yab ?_)
      refine Zaq (.s 0 (.s 1 (.s 2 (.s 3 (.s 4 (.s 5 (.s 6 (.s 7 (.s 8 (.s 9 (.s 10 (.s 11 (.s 12 (.s 13 (.s 14 (.s 15 (.s 16 (.s 17 (.s 18 (.s 19 (.s 20 .nil))))))))))))))))))))) mixed (by kernel_rfl) rfl ?_
      have hS := hS.drew
      repeat (first|refine Yaa ?_|refine Yaf ?_|refine Yad ?_|refine Yaj ?_|refine Yab ?_|(refine Zae ?_;first|refine Ya2 ?_|refine Ya4 ?_|refine Ybu ?_|refine Ybk ?_|refine Ycg ?_|refine Ydp ?_|refine Ybm ?_|refine Ycb ?_|refine Ycy ?_|refine Ycr ?_|refine Ydu ?_|refine Zb4 rfl rfl rfl rfl (fun _ => Zs0 rfl rfl rfl (by omega)) rfl rfl ?_|refine Ydy ?_|refine Ycz ?_))
      obtain ⟨_,hc,hr,hw,hbk⟩ := hS.call [true,false]
      refine Zaa _ rfl rfl rfl rfl rfl (Zri p a s.length c j 4 _ _ hc) ?_
      rintro _ w ⟨rfl,hS⟩
      replace hS := hbk hS
      clear hc hr hw hbk;repeat (first|refine Yd1 ?_|(refine X_id ?_;first|refine Yaf ?_|refine Yat ?_|refine Yan ?_|refine Ybg ?_|refine Ybo ?_|refine Yaq ?_|refine Yao (fun _ hS _ => ?_))|refine Yeq ?_|refine Yab ?_|refine Yau ?_|refine Ybx ?_)
      exact ⟨_,_,_,_,_,_,_,_,rfl,j,4,hj,by decide,hS.took⟩
 ·simp only [decide_eq_false hlt] at hm
  rw [List.drop_of_length_le (by omega)];repeat (first|refine Yd1 ?_|(refine X_id ?_;first|(refine Zad 241 rfl rfl rfl rfl rfl hS (hm _ (hS.rd (List.mem_cons_of_mem _ (List.mem_cons_self ..)))) ?_;rintro _ _ rfl hS)|refine Yaf ?_|refine Yag ?_|refine Yat ?_|refine Yan ?_|refine Ybn ?_|refine Yas (fun _ _ hS _ => ?_))|refine Yfa ?_|refine Yab ?_)
  obtain ⟨_,hc,hr,hw,hbk⟩ := hS.call [false,true]
  refine Zaa _ rfl rfl rfl rfl rfl (Zri p a s.length c i 4 _ _ hc) ?_
  rintro _ w ⟨rfl,hS⟩
  replace hS := hbk hS
  clear hc hr hw hbk;repeat (first|refine Yd1 ?_|refine Ybo ?_|refine Yao (fun _ hS _ => ?_)|refine Yee ?_|refine Yab ?_|refine Yau ?_|refine Ybx ?_)
  rw [Zu7];exact ⟨_,_,_,_,_,_,_,_,rfl,i,4,hi,by decide,hS.took⟩
theorem Z0o (p : Nat) (a : Option Addr) (s : List UInt8) (c : Nat) (hsc : s.length ≤ c) (hl : s.length ≤ 1073741824) (f : Nat) : Zno p a s c f := by
 induction f using Nat.strongRecOn with
 | _ f ih =>
  cases f with
  | zero => intro i deep W F hi hd hf; omega
  | succ f => exact Zuj p a s c hsc hl f (Zyc p a s c (by omega) f fun g hg => ih g (by omega))
def Z5i (W : World) (r : Option (Mv × List UInt8)) (v : Value) (w : World) : Prop :=
 match r with
 | some (t,l) => ∃ cs X b q,v = .tuple #[.agg (List.toArray cs),.slice b l.length q,.int .i64 0] ∧ Mrd (RX X) t cs ∧ St W noF [bag X] w
 | none => ∃ e,v = .tuple #[.agg (List.toArray [.int .i64 0,.int .i64 0,.slice none 0 0,.slice none 0 0]),.slice none 0 0,.int .i64 e] ∧ e ≠ 0 ∧ St W noF [] w
theorem Z3e (a : Option Addr) (s : List UInt8) (c : Nat) (hsc : s.length ≤ c) (hl : s.length ≤ 131072) (W : World) (hG : Lg W noF) (hb : Ro W noF (bytes a s)) :
  Calls Tryz.prog 179 #[.slice a s.length c] W (Ret fun v w => Z5i W (pvM (2 * s.length + 1) 1 s) v w) := by
 have hS := St.start W
 refine Zab Tryz.func179 rfl Tryz.ntmps179 rfl ?_
 repeat (first|refine Yd1 ?_|(refine X_id ?_;first|refine Yaf ?_|refine Yag ?_|refine Yar ?_|refine Ybq ?_|refine Ybo ?_|refine Ybc (fun _ _ hS _ => ?_)|refine Yas (fun _ _ hS _ => ?_))|refine Yec ?_|refine Yab ?_)
 rename_i r _ _;have hv := Z0o r a s c hsc (by omega) (2 * s.length + 1) 0 1
 rw [List.drop_zero] at hv;generalize pvM (2 * s.length + 1) 1 s = res at hv ⊢;obtain ⟨_,hc,_,hw,hbk⟩ := hS.call [true,false]
 refine Zaa _ rfl rfl rfl rfl rfl (hv _ _ (Nat.zero_le _) (by omega) (by omega) (hG.mono hw) (hw _ hb) hc) ?_
 rintro v w hV
 cases res with
 | none =>
  obtain ⟨k,n,a1,n1,c1,a2,n2,c2,rfl,j,e,hj,he,hS⟩ := hV
  replace hS := hbk hS
  clear hbk hw hc;repeat (first|refine Yd1 ?_|(refine X_id ?_;first|refine Yaf ?_|refine Yat ?_|refine Yan ?_|refine Ybj ?_|refine Yaq ?_|refine Yao (fun _ hS _ => ?_)|refine Yas (fun _ _ hS _ => ?_))|refine Yeb ?_|refine Yab ?_)
  refine Zaq (.s 0 (.s 1 (.s 2 (.s 3 (.s 4 (.h 5 (.s 6 (.s 7 .nil)) .no)))))) mixed (by kernel_rfl) rfl ?_
  have hS := hS.drew
  repeat (first|refine Yao (fun _ hS _ => ?_)|refine Yah ?_|refine Yab ?_|refine Yap ?_|refine Ydx ?_|(refine Zae ?_;first|refine Ya2 ?_|refine Ya4 ?_|refine Ybl ?_|refine Ybu ?_|refine Ybk ?_|refine Yb8 ?_|refine Ybm ?_|refine Yay ?_)|(refine Zac ?_;first|refine Yaz ?_))
  exact ⟨e,rfl,he,hS.took⟩
 | some u =>
  obtain ⟨t,l⟩ := u
  obtain ⟨cs,X,rfl,hM,j,hj,hdj,hS⟩ := hV
  replace hS := hbk hS
  clear hbk hw hc;obtain ⟨a1,c1,a2,c2,rows2,rfl,_⟩ := hM.lit
  have hsb : Ro W noF (bytes (Cr.sub a j 1 c) l) := by
   have := hb.subBytes (l := j) (h := s.length) (c := c) (by omega) (by omega)
   rwa [hdj,List.take_of_length_le (by rw [← hdj]; simp)] at this
  have hll : l.length = s.length - j := by rw [← hdj,List.length_drop]
  repeat (first|refine Yd1 ?_|(refine X_id ?_;first|refine Yaf ?_|refine Yat ?_|refine Yan ?_|refine Ya5 ?_|refine Yaq ?_|refine Yao (fun _ hS _ => ?_)|refine Yas (fun _ _ hS _ => ?_))|refine Yec ?_|refine Yab ?_)
  refine Zaq (.s 0 (.s 1 (.s 2 (.s 3 (.s 4 (.s 5 (.s 6 (.s 7 (.h 8 (.h 9 (.s 10 (.s 11 .nil)) .no) .no))))))))) mixed (by kernel_rfl) rfl ?_
  have hS := hS.drew
  repeat (first|(refine Zae ?_;first|refine Ya4 ?_|refine Ybu ?_|refine Ybk ?_|refine Ybm ?_|refine Yb1 ?_))
  refine Zah rfl rfl (fun _ => Zam (l := j) (h := s.length) rfl rfl rfl rfl (.inl ⟨rfl,rfl⟩) (.inr ⟨_,_,rfl,by omega,by omega,by omega⟩)) rfl rfl ?_
  repeat (first|(refine Zae ?_;first|refine Yay ?_))
  refine Zaa _ rfl rfl rfl rfl rfl (Zeu _ _ _ l _ (hsb.rd hS) hll (by omega)) ?_
  rintro _ w ⟨a',c',rfl,_,_,hS'⟩
  replace hS := hS.plus hS';clear hS';rw [← hll];repeat (first|refine Yao (fun _ hS _ => ?_)|refine Yah ?_|refine Yab ?_|refine Ydx ?_|(refine Zae ?_;first|refine Ya2 ?_|refine Ybl ?_|refine Yay ?_)|(refine Zac ?_;first|refine Yaz ?_))
  exact ⟨_,X,a',c',rfl,hM,hS.took⟩
def Z5m (W : World) (r : Option Mv) (v : Value) (w : World) : Prop :=
 match r with
 | some t => ∃ cs X,v = .tuple #[.agg (List.toArray cs),.int .i64 0] ∧ Mrd (RX X) t cs ∧ St W noF [bag X] w
 | none => ∃ e,v = .tuple #[.agg (List.toArray [.int .i64 0,.int .i64 0,.slice none 0 0,.slice none 0 0]),.int .i64 e] ∧ e ≠ 0 ∧ St W noF [] w
theorem Zy3 (a : Option Addr) (s : List UInt8) (c : Nat) (hsc : s.length ≤ c) (hl : s.length ≤ 131072) (W : World) (hG : Lg W noF) (hb : Ro W noF (bytes a s)) :
  Calls Tryz.prog 139 #[.slice a s.length c] W (Ret fun v w => Z5m W (decM s) v w) := by
 have hS := St.start W
 have hN := Z3e a s c hsc hl
 unfold decM
 generalize pvM (2 * s.length + 1) 1 s = res at hN ⊢;refine Zab Tryz.func139 rfl Tryz.ntmps139 rfl ?_
 repeat (first|refine Yd1 ?_|refine Yef ?_|refine Yas (fun _ _ hS _ => ?_)|refine Yd2 ?_|refine Yab ?_)
 obtain ⟨_,hc,_,hw,hbk⟩ := hS.call [false]
 refine Zaa _ rfl rfl rfl rfl rfl (hN _ ((hG.mono hw).at_ hc) ((hw _ hb).rd hc).ro) ?_
 rintro v w hV
 cases res with
 | none =>
  obtain ⟨e,rfl,he,hS'⟩ := hV
  replace hS := hS.plus hS';clear hbk hw hc;repeat (first|refine Yd1 ?_|(refine X_id ?_;first|refine Yaf ?_|refine Yag ?_|refine Yax ?_|refine Ybj ?_|refine Ybo ?_|refine Yao (fun _ hS _ => ?_)|refine Yas (fun _ _ hS _ => ?_))|refine Yeo ?_|refine Yab ?_|refine Yap ?_|refine Ya9 ?_|refine Ybz ?_)
  exact ⟨e,rfl,he,hS.took⟩
 | some u =>
  obtain ⟨t,l⟩ := u
  obtain ⟨cs,X,b,q,rfl,hM,hS'⟩ := hV
  replace hS := hS.plus hS';clear hbk hw hc;obtain ⟨a1,c1,a2,c2,rows2,rfl,_⟩ := hM.lit
  cases l with
  | nil =>
   simp only [List.length_nil]
   repeat (first|refine Yd1 ?_|(refine X_id ?_;first|refine Yaf ?_|refine Yag ?_|refine Yax ?_|refine Yar ?_|refine Ya5 ?_|refine Ybq ?_|refine Ybh ?_|refine Yao (fun _ hS _ => ?_)|refine Yas (fun _ _ hS _ => ?_))|refine Yer ?_|refine Yab ?_|refine Yau ?_|refine Ybz ?_)
   exact ⟨_,X,rfl,hM,hS.took⟩
  | cons x l =>
   simp only [List.length_cons]
   repeat (first|refine Yd1 ?_|(refine X_id ?_;first|refine Yaf ?_|refine Yag ?_|refine Yax ?_|refine Yar ?_|refine Ya5 ?_|refine Ybv ?_|refine Ybo ?_|refine Yao (fun _ hS _ => ?_)|refine Yas (fun _ _ hS _ => ?_))|refine Yel ?_|refine Yab ?_|refine Yap ?_|refine Ya9 ?_|refine Ybz ?_)
   exact ⟨3,rfl,by decide,hS.took⟩
theorem Z2q (s : List UInt8) (W : World) : Calls Tryz.prog 99 #[.string (str s)] W (Ret fun v w => ∃ b c X,v = .agg (List.toArray [.int .i64 1,.int .i64 0,.slice b s.length c,.slice none 0 0]) ∧ Mrd (RX X) (txM s) [.int .i64 1,.int .i64 0,.slice b s.length c,.slice none 0 0] ∧ St W noF [bag X] w) := by
 have hS := St.start W
 refine Zab Tryz.func99 rfl Tryz.ntmps99 rfl ?_
 repeat (first|refine Yd1 ?_|(refine X_id ?_;first|refine Yaf ?_|refine Ybo ?_|refine Yao (fun _ hS _ => ?_)|refine Yas (fun _ _ hS _ => ?_)|refine Zif rfl rfl rfl rfl hS (fun _ _ _ hS _ => ?_))|refine Yee ?_|refine Yab ?_|refine Ybx ?_)
 have hS := hS.pick [0]
 exact ⟨_,_,_,rfl,.mk (rows := []) (by assumption) (.mem (List.mem_cons_self ..)) .nil rfl (fun _ _ _ h => by simp at h),hS.toBag fun _ h => h⟩
theorem Z46 (n : Int) (W : World) : Calls Tryz.prog 100 #[.int .i64 n] W (Ret fun v w => v = .agg (List.toArray [.int .i64 0,.int .i64 n,.slice none 0 0,.slice none 0 0]) ∧ St W noF [] w) := by
 have hS := St.start W
 refine Zab Tryz.func100 rfl Tryz.ntmps100 rfl ?_
 repeat (first|refine Yd1 ?_|refine Yaf ?_|refine Ybo ?_|refine Yao (fun _ hS _ => ?_)|refine Yas (fun _ _ hS _ => ?_)|refine Yee ?_|refine Yab ?_|refine Ybx ?_)
 exact ⟨rfl,hS.took⟩
theorem Z3b {R : Option Addr → List Value → Prop} (h0 : ∀ a,R a []) (n : Int) : Mrd R (nuM n) [.int .i64 0,.int .i64 n,.slice none 0 0,.slice none 0 0] :=
 .mk (b := []) (l := []) (rows := []) (Nat.zero_le _) (h0 _) (h0 _) rfl (fun _ _ _ h => by simp at h)
theorem Zy5 : ∀ (d : Nat) (v : Mv) (cs : List Value) (W : World) (F : Nat → Prop),Mrd (RoR W F) v cs → wM v ≤ 1048576 → d ≤ 8 →
  Calls Tryz.prog 149 #[.agg (List.toArray cs),.int .i64 (d : Nat)] W (Ret fun u w => ∃ cs' X,u = .agg (List.toArray cs') ∧ Mrd (RX X) (Zea d v) cs' ∧ St W noF [bag X] w) := by
 intro d
 induction d with
 | zero =>
  intro v cs W F hv hw hd
  have hS := St.start W
  obtain ⟨k,n,b,l⟩ := v
  rw [Znx] at hw;obtain ⟨a1,c1,a2,c2,rows,rfl,hc1,hb,hr,hM⟩ := hv.lit
  simp only [Mv.kind,Mv.num,Mv.txt,Mv.lst] at *
  replace hb : Ro W noF (bytes a1 b) := hb.start.ro
  refine Zab Tryz.func149 rfl Tryz.ntmps149 rfl ?_
  repeat (first|refine Yd1 ?_|refine Yan ?_|refine Yaq ?_|refine Ybc (fun _ _ hS _ => ?_)|refine Yas (fun _ _ hS _ => ?_)|refine Yd2 ?_|refine Yab ?_)
  refine Zaa _ rfl rfl rfl rfl rfl (Zeu _ _ _ b _ (hb.rd hS) rfl (by omega)) ?_
  rintro _ w ⟨a',c',rfl,_,hca,hS'⟩
  replace hS := hS.plus hS';clear hS';repeat (first|refine Yd1 ?_|(refine X_id ?_;first|refine Yaf ?_|refine Yag ?_|refine Yan ?_|refine Ybq ?_|refine Yaq ?_|refine Ybh ?_|refine Yao (fun _ hS _ => ?_))|refine Yeq ?_|refine Yab ?_|refine Ybx ?_)
  have hS : St W noF [own 5 1 a' c' (bv b)] _ := hS.took
  exact ⟨_,_,rfl,.mk' (rows := []) rfl rfl hca (.mem (List.mem_cons_self ..)) .nil rfl (fun _ _ _ h => by simp at h),hS.toBag fun _ h => h.row⟩
 | succ d ih =>
  intro v cs W F hv hw hd
  have hS := St.start W
  obtain ⟨k,n,b,l⟩ := v
  rw [Znx] at hw;obtain ⟨a1,c1,a2,c2,rows,rfl,hc1,hb,hr,hM⟩ := hv.lit
  simp only [Mv.kind,Mv.num,Mv.txt,Mv.lst] at *
  have hwl := Zjk l
  replace hb : Ro W noF (bytes a1 b) := hb.start.ro
  replace hr : Ro W noF (row a2 rows.flatten) := hr.start.ro
  replace hM : Mrds (RoR W noF) l rows := hM.mono fun _ _ h => h.start.ro
  refine Zab Tryz.func149 rfl Tryz.ntmps149 rfl ?_
  repeat (first|refine Yd1 ?_|refine Yan ?_|refine Yaq ?_|refine Ybc (fun _ _ hS _ => ?_)|refine Yas (fun _ _ hS _ => ?_)|refine Yd2 ?_|refine Yab ?_)
  rename_i b2 _ _ _ b4 _ _;refine Zaa _ rfl rfl rfl rfl rfl (Zeu _ _ _ b _ (hb.rd hS) rfl (by omega)) ?_
  rintro _ w ⟨a',c',rfl,_,hca,hS'⟩
  replace hS := hS.plus hS';clear hS';repeat (first|refine Yd1 ?_|(refine X_id ?_;first|refine Yaf ?_|refine Yag ?_|refine Yan ?_|refine Yar ?_|refine Ybv ?_|refine Yaq ?_|refine Yao (fun _ hS _ => ?_))|refine Yfa ?_|refine Yab ?_)
  have hS : St W noF [own 5 1 a' c' (bv b),pts b4 (.cells (List.toArray [.int .i64 0,.int .i64 0,.slice none 0 0,.slice none 0 0]) 206 (0,0)),pts b2 (.cells (List.toArray [.int .i64 k,.int .i64 n,.slice a' b.length c',.slice none 0 0]) 206 (0,0))] _ := hS.took
  refine Zak (α := Nat × Option Addr × Nat) (fun z => [(1,.int .i64 ((d + 1 : Nat) : Int)),(2,.pointer (some ⟨b2,0,none⟩)),(4,.pointer (some ⟨b4,0,none⟩)),(17,.slice a2 l.length c2),(18,.int .i64 (l.length : Nat)),(19,.int .i64 (z.1 : Nat))])
   (fun z w => z.1 ≤ l.length ∧ z.1 ≤ z.2.2 ∧ ∃ rows' X,Mrds (RX X) ((l.take z.1).map (Zea d)) rows' ∧ St W noF [own 206 4 z.2.1 z.2.2 rows'.flatten,bag X,own 5 1 a' c' (bv b),pts b4 (.cells (List.toArray [.int .i64 0,.int .i64 0,.slice none 0 0,.slice none 0 0]) 206 (0,0)),pts b2 (.cells (List.toArray [.int .i64 k,.int .i64 n,.slice a' b.length c',.slice z.2.1 z.1 z.2.2]) 206 (0,0))] w)
   (fun z => l.length - z.1) (0,none,0) ⟨rfl,rfl,rfl,rfl,rfl,rfl,trivial⟩ ⟨Nat.zero_le _,Nat.le_refl _,[],[],.nil,(hS.bagNil).own_none _ _ _⟩ ?_
  clear hS;rintro ⟨i,q,qc⟩ w ⟨hi,hiq,rows',X,hMs,hS2⟩
  simp only at hi hiq hMs hS2
  have hrl : rows'.flatten.length = i * 4 := by rw [hMs.flat,List.length_map,List.length_take,Nat.min_eq_left hi]
  by_cases hlt : i < l.length
  ·obtain ⟨y,hyx⟩ : ∃ y,y = l[i] := ⟨_,rfl⟩
   have hy0 : l[i]? = some y := by rw [hyx]; exact List.getElem?_eq_getElem hlt
   have hyw := Zjj (List.mem_of_getElem? hy0)
   obtain ⟨cs,hxs,hy⟩ := hM.at_ hy0
   obtain ⟨d1,e1,d2,e2,rows2,rfl,_⟩ := hy.lit
   obtain ⟨ab,ao,rfl⟩ := hr.start.base (by
    intro e
    rw [e] at hxs;simp at hxs)
   have hS := hS2
   repeat (first|refine Yd1 ?_|(refine X_id ?_;first|refine Ya0 ?_|refine Ybd ?_|refine Ybp ?_|refine Yao (fun _ hS _ => ?_)|refine Yas (fun _ _ hS _ => ?_))|refine Yd5 ?_|refine Yab ?_)
   refine Zaq (.s 0 (.s 1 (.s 2 (.s 3 (.s 4 (.h 5 (.h 6 (.h 7 (.s 8 (.h 9 .nil .no)) .no) .no) .no)))))) mixed (by kernel_rfl) rfl ?_
   have hS := hS.drew
   repeat (first|(refine Zae ?_;first|refine Ya4 ?_|refine Ybk ?_|refine Ycp ?_|refine Ybm ?_|refine Yb1 ?_|refine Yay ?_))
   rw [show (((d + 1 : Nat) : Int) - 1) = ((d : Nat) : Int) by omega]
   refine Zaa _ rfl rfl rfl rfl rfl (ih y _ _ noF (hy.mono fun _ _ h => (h.rd hS).ro) (by omega) (by omega)) ?_
   rintro _ w ⟨cs',Y,rfl,hY,hS'⟩
   replace hS := hS.plus hS';clear hS';obtain ⟨g1,h1,g2,h2,rows3,rfl,_⟩ := hY.lit
   repeat (first|refine Ybi (fun _ _ hS _ => ?_)|(refine Zae ?_;first|refine Yay ?_)|(refine Zac ?_;first|refine Yaz ?_))
   have hnw := (hS.rd (List.mem_cons_self ..)).own_row
   refine Zar rfl rfl rfl rfl rfl hS hrl hiq hnw rfl (by simp [Value.oneCell']) (by omega) (by simp only [maxLen]; omega) (fun b' q' w hS hq' _ => ?_)
   repeat (first|refine Yd1 ?_|refine Yd6 ?_|refine Yao (fun _ hS _ => ?_)|refine Yad ?_|refine Yd9 ?_|(refine Zae ?_;first|refine Ya2 ?_|refine Ybk ?_|refine Yay ?_)|(refine Zac ?_;first|refine Yaz ?_))
   refine Zaf (z := (i,q,qc)) (i + 1,b',q') ⟨rfl,rfl,rfl,rfl,rfl,rfl,trivial⟩ ⟨hlt,hq',rows' ++ [[.int .i64 (Zea d y).kind,.int .i64 (Zea d y).num,.slice g1 (Zea d y).txt.length h1,.slice g2 (Zea d y).lst.length h2]],X ++ Y,?_,?_⟩ (by dsimp only; omega)
   ·rw [List.take_succ_eq_append_getElem hlt,← hyx,List.map_append]
    exact (hMs.mono fun _ _ h => h.left).snoc (hY.mono fun _ _ h => h.right)
   ·have hS : St W noF [bag X,bag Y,own 206 4 b' q' (rows'.flatten ++ [.int .i64 (Zea d y).kind,.int .i64 (Zea d y).num,.slice g1 (Zea d y).txt.length h1,.slice g2 (Zea d y).lst.length h2]),own 5 1 a' c' (bv b),pts b4 (.cells (List.toArray [.int .i64 0,.int .i64 0,.slice none 0 0,.slice none 0 0]) 206 (0,0)),pts b2 (.cells (List.toArray [.int .i64 k,.int .i64 n,.slice a' b.length c',.slice b' (i + 1) q']) 206 (0,0))] _ := hS.took
    have hS := hS.bagJoin
    rw [List.flatten_append]
    simpa using hS.took
  ·obtain rfl : i = l.length := by omega
   have hS := hS2
   repeat (first|refine Yd1 ?_|refine Ya1 ?_|refine Ybh ?_|refine Yao (fun _ hS _ => ?_)|refine Yea ?_|refine Yab ?_|refine Ya7 ?_|refine Ya8 ?_|refine Ybx ?_)
   rw [List.take_length] at hMs;have hS : St W noF [own 206 4 q qc rows'.flatten,own 5 1 a' c' (bv b),bag X] _ := hS.took
   have hS := (hS.second (r' := own 5 1 a' c' (bv b)) fun _ h => h)
   have hS : St W noF [own 5 1 a' c' (bv b),bag X,own 206 4 q qc rows'.flatten] _ := hS.took
   have hS := hS.bagAdd (a := a') (cs := bv b) fun _ h => h.row
   have hS : St W noF [own 206 4 q qc rows'.flatten,bag ((a',bv b) :: X)] _ := hS.took
   have hS := hS.bagAdd (a := q) (cs := rows'.flatten) fun _ h => h.row
   exact ⟨_,_,rfl,.mk' rfl (by rw [List.length_map]) hca (.mem (List.mem_cons_of_mem _ (List.mem_cons_self ..))) (.mem (List.mem_cons_self ..)) hMs.1 (fun i y cs h1 h2 => (hMs.2 i y cs h1 h2).mono fun _ _ h => h.tail.tail),hS⟩
theorem of_M (a : Option Addr) (l : List Mv) (c : Nat) (rows : List (List Value)) (W : World) (hr : Ro W noF (row a rows.flatten)) (hM : Mrds (RoR W noF) l rows) (hw : wMs l ≤ 1048576) :
  Calls Tryz.prog 98 #[.slice a l.length c] W (Ret fun v w => ∃ b q rows' X,v = .agg (List.toArray [.int .i64 2,.int .i64 0,.slice none 0 0,.slice b l.length q]) ∧ l.length ≤ q ∧ Mrds (RX X) (l.map (Zea 8)) rows' ∧ St W noF [own 206 4 b q rows'.flatten,bag X] w) := by
 have hS := St.start W
 have hwl := Zjk l
 refine Zab Tryz.func98 rfl Tryz.ntmps98 rfl ?_
 repeat (first|refine Yd1 ?_|(refine X_id ?_;first|refine Yaf ?_|refine Yar ?_|refine Ybo ?_|refine Yao (fun _ hS _ => ?_)|refine Yas (fun _ _ hS _ => ?_))|refine Yd4 ?_|refine Yab ?_)
 rename_i b2 _ _ _ b3 _ _ _ _ _;refine Zak (α := Nat × Option Addr × Nat) (fun z => [(2,.pointer (some ⟨b2,0,none⟩)),(3,.pointer (some ⟨b3,0,none⟩)),(7,.slice a l.length c),(8,.int .i64 (l.length : Nat)),(9,.int .i64 (z.1 : Nat))])
  (fun z w => z.1 ≤ l.length ∧ z.1 ≤ z.2.2 ∧ ∃ rows' X,Mrds (RX X) ((l.take z.1).map (Zea 8)) rows' ∧ St W noF [own 206 4 z.2.1 z.2.2 rows'.flatten,bag X,pts b3 (.cells (List.toArray [.int .i64 2,.int .i64 0,.slice none 0 0,.slice z.2.1 z.1 z.2.2]) 206 (0,0)),pts b2 (.cells (List.toArray [.int .i64 0,.int .i64 0,.slice none 0 0,.slice none 0 0]) 206 (0,0))] w)
  (fun z => l.length - z.1) (0,none,0) ⟨rfl,rfl,rfl,rfl,rfl,trivial⟩ ⟨Nat.zero_le _,Nat.le_refl _,[],[],.nil,(hS.bagNil).own_none _ _ _⟩ ?_
 clear hS;rintro ⟨i,b,q⟩ w ⟨hi,hiq,rows',X,hMs,hS2⟩
 simp only at hi hiq hMs hS2
 have hrl : rows'.flatten.length = i * 4 := by rw [hMs.flat,List.length_map,List.length_take,Nat.min_eq_left hi]
 by_cases hlt : i < l.length
 ·obtain ⟨y,hyx⟩ : ∃ y,y = l[i] := ⟨_,rfl⟩
  have hy0 : l[i]? = some y := by rw [hyx]; exact List.getElem?_eq_getElem hlt
  have hyw := Zjj (List.mem_of_getElem? hy0)
  obtain ⟨cs,hxs,hy⟩ := hM.at_ hy0
  obtain ⟨d1,e1,d2,e2,rows2,rfl,_⟩ := hy.lit
  obtain ⟨ab,ao,rfl⟩ := hr.start.base (by
   intro e
   rw [e] at hxs;simp at hxs)
  have hS := hS2
  repeat (first|refine Yd1 ?_|(refine X_id ?_;first|refine Ya0 ?_|refine Ybd ?_|refine Ybp ?_|refine Yao (fun _ hS _ => ?_)|refine Yas (fun _ _ hS _ => ?_))|refine Yd5 ?_|refine Yab ?_)
  refine Zaq (.s 0 (.s 1 (.s 2 (.h 3 (.h 4 (.h 5 (.s 6 (.h 7 .nil .no)) .no) .no) .no)))) mixed (by kernel_rfl) rfl ?_
  have hS := hS.drew
  repeat (first|(refine Zae ?_;first|refine Ybk ?_|refine Ybm ?_|refine Yb1 ?_|refine Yay ?_))
  refine Zaa _ rfl rfl rfl rfl rfl (Zy5 8 y _ _ noF (hy.mono fun _ _ h => (h.rd hS).ro) (by omega) (by omega)) ?_
  rintro _ w ⟨cs',Y,rfl,hY,hS'⟩
  replace hS := hS.plus hS';clear hS';obtain ⟨g1,h1,g2,h2,rows3,rfl,_⟩ := hY.lit
  repeat (first|refine Ybi (fun _ _ hS _ => ?_)|(refine Zae ?_;first|refine Yay ?_)|(refine Zac ?_;first|refine Yaz ?_))
  have hnw := (hS.rd (List.mem_cons_self ..)).own_row
  refine Zar rfl rfl rfl rfl rfl hS hrl hiq hnw rfl (by simp [Value.oneCell']) (by omega) (by simp only [maxLen]; omega) (fun b' q' w hS hq' _ => ?_)
  repeat (first|refine Yd1 ?_|refine Yd6 ?_|refine Yao (fun _ hS _ => ?_)|refine Yad ?_|refine Yd9 ?_|(refine Zae ?_;first|refine Ya2 ?_|refine Ybk ?_|refine Yay ?_)|(refine Zac ?_;first|refine Yaz ?_))
  refine Zaf (z := (i,b,q)) (i + 1,b',q') ⟨rfl,rfl,rfl,rfl,rfl,trivial⟩ ⟨hlt,hq',rows' ++ [[.int .i64 (Zea 8 y).kind,.int .i64 (Zea 8 y).num,.slice g1 (Zea 8 y).txt.length h1,.slice g2 (Zea 8 y).lst.length h2]],X ++ Y,?_,?_⟩ (by dsimp only; omega)
  ·rw [List.take_succ_eq_append_getElem hlt,← hyx,List.map_append]
   exact (hMs.mono fun _ _ h => h.left).snoc (hY.mono fun _ _ h => h.right)
  ·have hS : St W noF [bag X,bag Y,own 206 4 b' q' (rows'.flatten ++ [.int .i64 (Zea 8 y).kind,.int .i64 (Zea 8 y).num,.slice g1 (Zea 8 y).txt.length h1,.slice g2 (Zea 8 y).lst.length h2]),
    pts b3 (.cells (List.toArray [.int .i64 2,.int .i64 0,.slice none 0 0,.slice b' (i + 1) q']) 206 (0,0)),pts b2 (.cells (List.toArray [.int .i64 0,.int .i64 0,.slice none 0 0,.slice none 0 0]) 206 (0,0))] _ := hS.took
   have hS := hS.bagJoin
   rw [List.flatten_append]
   simpa using hS.took
 ·obtain rfl : i = l.length := by omega
  have hS := hS2
  repeat (first|refine Yd1 ?_|refine Ya1 ?_|refine Ybh ?_|refine Yao (fun _ hS _ => ?_)|refine Yea ?_|refine Yab ?_|refine Ya7 ?_|refine Ya8 ?_|refine Ybx ?_)
  rw [List.take_length] at hMs;exact ⟨b,q,rows',X,rfl,hiq,hMs,hS.took⟩
theorem Zzw (k n : Int) (b : List UInt8) (l : List Mv) (a1 a2 : Option Addr) (c1 c2 : Nat) (W : World) :
  Calls Tryz.prog 191 #[.agg (List.toArray [.int .i64 k,.int .i64 n,.slice a1 b.length c1,.slice a2 l.length c2])] W (Ret fun v w => v = .bool (kdM k n b l) ∧ St W noF [] w) := by
 have hS := St.start W
 by_cases h0 : k = 0
 ·subst h0
  cases b with
  | cons x b =>
   simp only [List.length_cons]
   refine Zab Tryz.func191 rfl Tryz.ntmps191 rfl ?_
   repeat (first|refine Yek ?_|(refine X_id ?_;first|refine Yaf ?_|refine Yag ?_|refine Yan ?_|refine Ya3 ?_|refine Yar ?_|refine Ybf ?_|refine Ybg ?_|refine Yaq ?_|refine Ybc (fun _ _ hS _ => ?_))|refine Yeo ?_|refine Yem ?_)
   refine ⟨?_,hS.drops⟩
   simp [kdM, *]
  | nil =>
   cases l with
   | cons x l =>
    simp only [List.length_cons]
    refine Zab Tryz.func191 rfl Tryz.ntmps191 rfl ?_
    repeat (first|refine Yeh ?_|(refine X_id ?_;first|refine Yaf ?_|refine Yag ?_|refine Yan ?_|refine Yba ?_|refine Yar ?_|refine Ybf ?_|refine Ybg ?_|refine Ycq ?_|refine Yaq ?_|refine Ybc (fun _ _ hS _ => ?_))|refine Yeo ?_|refine Yem ?_)
    refine ⟨?_,hS.drops⟩
    simp [kdM, *]
   | nil =>
    refine Zab Tryz.func191 rfl Tryz.ntmps191 rfl ?_
    repeat (first|refine Yeh ?_|(refine X_id ?_;first|refine Yaf ?_|refine Yag ?_|refine Yan ?_|refine Yba ?_|refine Yar ?_|refine Ybf ?_|refine Ycq ?_|refine Yaq ?_|refine Ybc (fun _ _ hS _ => ?_))|refine Yeo ?_|refine Yem ?_)
    refine ⟨?_,hS.drops⟩
    simp [kdM, *]
 ·by_cases h1 : k = 1
  ·subst h1
   by_cases hn : n = 0
   ·subst hn
    cases l with
    | cons x l =>
     simp only [List.length_cons]
     refine Zab Tryz.func191 rfl Tryz.ntmps191 rfl ?_
     repeat (first|refine Yeh ?_|(refine X_id ?_;first|refine Yaf ?_|refine Yag ?_|refine Yan ?_|refine Yba ?_|refine Yar ?_|refine Ybf ?_|refine Ybg ?_|refine Yaq ?_|refine Ybc (fun _ _ hS _ => ?_))|refine Yel ?_|refine Yem ?_)
     refine ⟨?_,hS.drops⟩
     simp [kdM, *]
    | nil =>
     refine Zab Tryz.func191 rfl Tryz.ntmps191 rfl ?_
     repeat (first|refine Yeh ?_|(refine X_id ?_;first|refine Yaf ?_|refine Yag ?_|refine Yan ?_|refine Yba ?_|refine Yar ?_|refine Ybf ?_|refine Ybg ?_|refine Ycq ?_|refine Yaq ?_|refine Ybc (fun _ _ hS _ => ?_))|refine Yel ?_|refine Yem ?_)
     refine ⟨?_,hS.drops⟩
     simp [kdM, *]
   ·skip
    refine Zab Tryz.func191 rfl Tryz.ntmps191 rfl ?_
    repeat (first|refine Yek ?_|(refine X_id ?_;first|refine Yaf ?_|refine Yag ?_|refine Yan ?_|refine Ya3 ?_|refine Ybf ?_|refine Ybg ?_|refine Yaq ?_|refine Ybc (fun _ _ hS _ => ?_))|refine Yel ?_|refine Yem ?_)
    refine ⟨?_,hS.drops⟩
    simp [kdM, *]
  ·by_cases h2 : k = 2
   ·subst h2
    by_cases hn : n = 0
    ·subst hn
     cases b with
     | cons x b =>
      simp only [List.length_cons]
      refine Zab Tryz.func191 rfl Tryz.ntmps191 rfl ?_
      repeat (first|refine Yeh ?_|(refine X_id ?_;first|refine Yaf ?_|refine Yag ?_|refine Yan ?_|refine Yba ?_|refine Yar ?_|refine Ybf ?_|refine Ybg ?_|refine Yaq ?_|refine Ybc (fun _ _ hS _ => ?_))|refine Yel ?_|refine Yem ?_)
      refine ⟨?_,hS.drops⟩
      simp [kdM, *]
     | nil =>
      refine Zab Tryz.func191 rfl Tryz.ntmps191 rfl ?_
      repeat (first|refine Yeh ?_|(refine X_id ?_;first|refine Yaf ?_|refine Yag ?_|refine Yan ?_|refine Yba ?_|refine Yar ?_|refine Ybf ?_|refine Ybg ?_|refine Ycq ?_|refine Yaq ?_|refine Ybc (fun _ _ hS _ => ?_))|refine Yel ?_|refine Yem ?_)
      refine ⟨?_,hS.drops⟩
      simp [kdM, *]
    ·skip
     refine Zab Tryz.func191 rfl Tryz.ntmps191 rfl ?_
     repeat (first|refine Yek ?_|(refine X_id ?_;first|refine Yaf ?_|refine Yag ?_|refine Yan ?_|refine Ya3 ?_|refine Ybf ?_|refine Ybg ?_|refine Yaq ?_|refine Ybc (fun _ _ hS _ => ?_))|refine Yel ?_|refine Yem ?_)
     refine ⟨?_,hS.drops⟩
     simp [kdM, *]
   ·skip
    refine Zab Tryz.func191 rfl Tryz.ntmps191 rfl ?_
    repeat (first|refine Yd1 ?_|(refine X_id ?_;first|refine Yag ?_|refine Yan ?_|refine Ybg ?_|refine Yaq ?_|refine Ybc (fun _ _ hS _ => ?_))|refine Yer ?_|refine Yab ?_|refine Yau ?_|refine Yam ?_)
    refine ⟨?_,hS.drops⟩
    simp [kdM, *]
theorem Zgp {f : Mv → Int} : ∀ {l : List Mv} {i : Nat},(∀ j,j < i → ∀ y,l[j]? = some y → f y = 0) → Zhk (l.map f) = Zhk ((l.drop i).map f)
 | [],i,_ => by simp
 | x :: l,0,_ => rfl
 | x :: l,i + 1,h => by
  have h0 := h 0 (by omega) x rfl
  rw [List.map_cons,Zhk,if_pos h0,List.drop_succ_cons];exact Zgp fun j hj y hy => h (j + 1) (by omega) y (by simpa using hy)
theorem Z12 : ∀ (m : Nat) (v : Mv) (cs : List Value) (deep : Nat) (W : World) (F : Nat → Prop),deep + m = 9 → Mrd (RoR W F) v cs → wM v ≤ 1048576 →
  Calls Tryz.prog 150 #[.agg (List.toArray cs),.int .i64 (deep : Nat)] W (Ret fun u w => u = .int .i64 (chkM m v) ∧ St W noF [] w) := by
 intro m
 induction m with
 | zero =>
  intro v cs deep W F hd hv hw
  have hS := St.start W
  obtain ⟨k,n,b,l⟩ := v
  obtain ⟨a1,c1,a2,c2,rows,rfl,hc1,hb,hr,hM⟩ := hv.lit
  simp only [Mv.kind,Mv.num,Mv.txt,Mv.lst] at *
  have hk := fun W => Zzw k n b l a1 a2 c1 c2 W
  rw [chkM];obtain rfl : deep = 9 := by omega
  by_cases hkd : kdM k n b l = true
  ·rw [if_pos hkd]
   simp only [hkd] at hk
   by_cases h2 : k = 2
   ·subst h2
    rw [if_pos rfl];refine Zab Tryz.func150 rfl Tryz.ntmps150 rfl ?_
    repeat (first|refine Yeh ?_|(refine X_id ?_;first|(refine Zad 191 rfl rfl rfl rfl rfl hS (hk _) ?_;rintro _ _ rfl hS)|refine Yaf ?_|refine Yag ?_|refine Yan ?_|refine Yba ?_|refine Ybb ?_|refine Ybf ?_|refine Ybv ?_|refine Yaq ?_|refine Ybh ?_|refine Ybc (fun _ _ hS _ => ?_))|refine Yel ?_|refine Yem ?_)
    exact ⟨rfl,hS.drops⟩
   ·rw [if_neg h2]
    have hl0 : l = [] := by
     rcases Zom hkd with ⟨_,_,h⟩ | ⟨_,_,h⟩ | ⟨h,_,_⟩
     ·exact h
     ·exact h
     ·exact absurd h h2
    subst hl0
    refine Zab Tryz.func150 rfl Tryz.ntmps150 rfl ?_
    repeat (first|refine Yek ?_|(refine X_id ?_;first|(refine Zad 191 rfl rfl rfl rfl rfl hS (hk _) ?_;rintro _ _ rfl hS)|refine Yaf ?_|refine Yag ?_|refine Yan ?_|refine Ya3 ?_|refine Ybb ?_|refine Yar ?_|refine Ybg ?_|refine Yaq ?_|refine Ybh ?_|refine Ybc (fun _ _ hS _ => ?_))|refine Ye4 ?_|refine Yd9 ?_)
    refine Zak (α := Unit) (fun _ => [(22,.int .i64 0),(23,.int .i64 0)]) (fun _ w => St W noF [] w) (fun _ => 0) () ⟨rfl,rfl,trivial⟩ hS.drops ?_
    clear hS;rintro _ w hS
    repeat (first|refine Yd1 ?_|refine Yag ?_|refine Ya1 ?_|refine Yea ?_|refine Ye3 ?_)
    exact ⟨rfl,hS⟩
  ·rw [if_neg hkd]
   simp only [eq_false_of_ne_true hkd] at hk
   refine Zab Tryz.func150 rfl Tryz.ntmps150 rfl ?_
   repeat (first|refine Yd1 ?_|(refine X_id ?_;first|(refine Zad 191 rfl rfl rfl rfl rfl hS (hk _) ?_;rintro _ _ rfl hS)|refine Yag ?_|refine Ybn ?_|refine Ybh ?_|refine Ybc (fun _ _ hS _ => ?_))|refine Yeo ?_|refine Yem ?_)
   exact ⟨rfl,hS.drops⟩
 | succ m ih =>
  intro v cs deep W F hd hv hw
  have hS := St.start W
  obtain ⟨k,n,b,l⟩ := v
  obtain ⟨a1,c1,a2,c2,rows,rfl,hc1,hb,hr,hM⟩ := hv.lit
  simp only [Mv.kind,Mv.num,Mv.txt,Mv.lst] at *
  rw [Znx] at hw;have hwl := Zjk l
  replace hr : Ro W noF (row a2 rows.flatten) := hr.start.ro
  replace hM : Mrds (RoR W noF) l rows := hM.mono fun _ _ h => h.start.ro
  have hk := fun W => Zzw k n b l a1 a2 c1 c2 W
  rw [chkM];by_cases hkd : kdM k n b l = true
  ·rw [if_pos hkd]
   simp only [hkd] at hk
   refine Zab Tryz.func150 rfl Tryz.ntmps150 rfl ?_
   by_cases h2 : k = 2
   case' pos =>
    subst h2
    repeat (first|refine Yeh ?_|(refine X_id ?_;first|(refine Zad 191 rfl rfl rfl rfl rfl hS (hk _) ?_;rintro _ _ rfl hS)|refine Yaf ?_|refine Yag ?_|refine Yan ?_|refine Yba ?_|refine Ybb ?_|refine Yar ?_|refine Ybf ?_|refine Ybq ?_|refine Yaq ?_|refine Ybh ?_|refine Ybc (fun _ _ hS _ => ?_))|refine Ye4 ?_|refine Yd9 ?_)
   case' neg =>
    repeat (first|refine Yek ?_|(refine X_id ?_;first|(refine Zad 191 rfl rfl rfl rfl rfl hS (hk _) ?_;rintro _ _ rfl hS)|refine Yaf ?_|refine Yag ?_|refine Yan ?_|refine Ya3 ?_|refine Ybb ?_|refine Yar ?_|refine Ybg ?_|refine Yaq ?_|refine Ybh ?_|refine Ybc (fun _ _ hS _ => ?_))|refine Ye4 ?_|refine Yd9 ?_)
   all_goals
    refine Zak (α := Nat) (fun i => [(1,.int .i64 (deep : Nat)),(21,.slice a2 l.length c2),(22,.int .i64 (l.length : Nat)),(23,.int .i64 (i : Nat))]) (fun i w => i ≤ l.length ∧ (∀ j,j < i → ∀ y,l[j]? = some y → chkM m y = 0) ∧ St W noF [] w) (fun i => l.length - i) 0 ⟨rfl,rfl,rfl,rfl,trivial⟩ ⟨Nat.zero_le _,fun j hj => absurd hj (by omega),hS.drops⟩ ?_
    clear hS;rintro i w ⟨hi,hz,hS2⟩
    by_cases hlt : i < l.length
    ·obtain ⟨y,hyx⟩ : ∃ y,y = l[i] := ⟨_,rfl⟩
     have hy0 : l[i]? = some y := by rw [hyx]; exact List.getElem?_eq_getElem hlt
     have hyw := Zjj (List.mem_of_getElem? hy0)
     obtain ⟨cs,hxs,hy⟩ := hM.at_ hy0
     obtain ⟨d1,e1,d2,e2,rows2,rfl,_⟩ := hy.lit
     obtain ⟨ab,ao,rfl⟩ := hr.start.base (by
      intro e
      rw [e] at hxs;simp at hxs)
     have hdr : (l.drop i).map (chkM m) = chkM m y :: (l.drop (i + 1)).map (chkM m) := by rw [List.drop_eq_getElem_cons hlt,← hyx]; rfl
     have ihy := fun W h => ih y [.int .i64 y.kind,.int .i64 y.num,.slice d1 y.txt.length e1,.slice d2 y.lst.length e2] (deep + 1) W noF (by omega) h (by omega)
     obtain ⟨e,he⟩ : ∃ e,e = chkM m y := ⟨_,rfl⟩
     rw [← he] at ihy hdr;have hS := hS2
     repeat (first|refine Yd1 ?_|(refine X_id ?_;first|refine Yaf ?_|refine Ya0 ?_|refine Ybd ?_|refine Yaw ?_|refine Ybh ?_|refine Ybp ?_|refine Yao (fun _ hS _ => ?_)|refine Yas (fun _ _ hS _ => ?_))|refine Yd5 ?_|refine Yab ?_)
     rw [show ((deep : Nat) : Int) + 1 = ((deep + 1 : Nat) : Int) by omega]
     refine Zad 150 rfl rfl rfl rfl rfl hS (ihy _ (hy.mono fun _ _ h => (h.rd hS).ro)) ?_
     rintro _ w rfl hS
     by_cases h0 : e = 0
     ·subst h0
      repeat (first|refine Yd1 ?_|refine Yaf ?_|refine Yag ?_|refine Ya5 ?_|refine Yaw ?_|refine Yec ?_|refine Yd9 ?_)
      exact Zaf (i + 1) ⟨rfl,rfl,rfl,rfl,trivial⟩ ⟨hlt,fun j hj z hzj => by
       by_cases hji : j = i
       ·subst hji
        rw [hy0] at hzj;cases hzj
        exact he.symm
       ·exact hz j (by omega) z hzj,hS.drops⟩ (by omega)
     ·repeat (first|refine Yd1 ?_|refine Yaf ?_|refine Yag ?_|refine Ybj ?_|refine Yei ?_|refine Yem ?_)
      rw [Zgp hz,hdr,Zhk,if_neg h0];exact ⟨rfl,hS.drops⟩
    ·obtain rfl : i = l.length := by omega
     have hS := hS2
     repeat (first|refine Yd1 ?_|refine Yag ?_|refine Ya1 ?_|refine Yea ?_|refine Ye3 ?_)
     rw [Zgp hz,List.drop_length];exact ⟨rfl,hS⟩
  ·rw [if_neg hkd]
   simp only [eq_false_of_ne_true hkd] at hk
   refine Zab Tryz.func150 rfl Tryz.ntmps150 rfl ?_
   repeat (first|refine Yd1 ?_|(refine X_id ?_;first|(refine Zad 191 rfl rfl rfl rfl rfl hS (hk _) ?_;rintro _ _ rfl hS)|refine Yag ?_|refine Ybn ?_|refine Ybh ?_|refine Ybc (fun _ _ hS _ => ?_))|refine Yeo ?_|refine Yem ?_)
   exact ⟨rfl,hS.drops⟩
abbrev Wt (p : Nat) (b : Option Addr) (q : Nat) (s : List UInt8) : List Res := [pts p (.cells (List.toArray [.slice b s.length q,.bool false]) 273 (0,0)),own 5 1 b q (bv s)]
theorem Zo5 (p : Nat) (b : Option Addr) (q : Nat) (s : List UInt8) (a : Option Addr) (t : List UInt8) (c m : Nat) (W : World) (F : Nat → Prop) (hq : s.length ≤ q) (hm : t.length = m) (hS : St W F (Wt p b q s) W) (ht : Ro W F (bytes a t)) (hl : s.length + t.length ≤ 131072) :
  Calls Tryz.prog 192 #[.pointer (some ⟨p,0,none⟩),.slice a m c] W (Ret fun v w => (v = .tuple #[] ∧ ∃ b' q',(s ++ t).length ≤ q' ∧ St W F (Wt p b' q' (s ++ t)) w)) := by
 subst hm
 refine Zab Tryz.func192 rfl Tryz.ntmps192 rfl ?_
 repeat (first|refine Yeh ?_|(refine X_id ?_;first|refine Yaf ?_|refine Yat ?_|refine Yan ?_|refine Ya3 ?_|refine Ybn ?_|refine Yar ?_|refine Ybq ?_|refine Yaw ?_|refine Yaq ?_|refine Yao (fun _ hS _ => ?_))|refine Yeb ?_|refine Yab ?_)
 refine Zar rfl rfl rfl rfl rfl hS (by simp) hq (ht.rd hS) (by simp) Zdw (by omega) (by simp only [maxLen]; omega) (fun b' q' w hS hq' _ => ?_)
 repeat (first|refine Yd1 ?_|refine Yat ?_|refine Yan ?_|refine Yao (fun _ hS _ => ?_)|refine Ybs ?_)
 refine ⟨rfl,b',q',by simpa using hq',?_⟩
 exact St.conv (rs := [pts p (.cells (List.toArray [.slice b' ((s.length + t.length : Nat)) q',.bool false]) 273 (0,0)),own 5 1 b' q' (bv s ++ bv t)]) hS.took (by show _ = [_,_]; rw [List.length_append,Zdx])
theorem Zt1 (l : List Mv) (i : Nat) : (Zay (l.take i)).length ≤ (Zay l).length := by
 have := congrArg List.length (congrArg Zay (List.take_append_drop i l))
 rw [Zfj,List.length_append] at this; omega
theorem Zt2 (l : List Mv) (y : Mv) : Zay (l ++ [y]) = Zay l ++ encM y := by rw [Zfj,Zay,Zay,List.append_nil]
theorem Zzl (n : Int) (cs : List Value) (p : Nat) (b : Option Addr) (q : Nat) (s : List UInt8) (W : World) (F : Nat → Prop) (hq : s.length ≤ q) (hv : Mrd (RoR W F) (nuM n) cs) (hfit : fitM (nuM n)) (hS : St W F (Wt p b q s) W) (hl : s.length + (encM (nuM n)).length ≤ 131072) (hG : Lg W F) :
  Calls Tryz.prog 151 #[.pointer (some ⟨p,0,none⟩),.agg (List.toArray cs)] W (Ret fun u w => (u = .tuple #[] ∧ ∃ b' q',(s ++ encM (nuM n)).length ≤ q' ∧ St W F (Wt p b' q' (s ++ encM (nuM n))) w)) := by
 obtain ⟨a1,c1,a2,c2,rows,rfl,_⟩ := hv.lit
 simp only [Mv.kind,Mv.num,Mv.txt,Mv.lst,List.length_nil] at *
 rw [fitM] at hfit;have e : encM (nuM n) = [105] ++ Lib.itoa n ++ [59] := by rw [Zd2]; simp
 rw [e] at hl ⊢;have hl2 := hl
 simp only [List.length_append,List.length_cons,List.length_nil] at hl2
 refine Zab Tryz.func151 rfl Tryz.ntmps151 rfl ?_
 repeat (first|refine Yd1 ?_|(refine X_id ?_;first|(refine Zad 72 rfl rfl rfl rfl rfl hS (Zyi n _ _ (hG.at_ hS) hfit.1.1 hfit.1.2) ?_;rintro _ _ rfl hS)|refine Yaf ?_|refine Yag ?_|refine Yan ?_|refine Ybf ?_|refine Yaq ?_|refine Ybc (fun _ _ hS _ => ?_)|refine Yc3 ?_|refine Zif rfl rfl rfl rfl hS (fun _ _ _ hS _ => ?_))|refine Yfa ?_|refine Yab ?_)
 obtain ⟨_,hc,hr,hw,hbk⟩ := hS.call [false,false,true,true]
 refine Zaa _ rfl rfl rfl rfl rfl (Zo5 p b q s _ _ _ _ _ _ hq rfl hc (hr _ (List.mem_cons_self ..)) hl) ?_
 rintro _ w ⟨rfl,b',q',hq',hS⟩
 replace hS := hbk hS
 clear hc hr hw hbk;repeat (first|refine Yac ?_|refine Yau ?_|refine Ybs ?_)
 exact ⟨rfl,b',q',hq',hS.took⟩
theorem Zzk (t : List UInt8) (cs : List Value) (p : Nat) (b : Option Addr) (q : Nat) (s : List UInt8) (W : World) (F : Nat → Prop) (hq : s.length ≤ q) (hv : Mrd (RoR W F) (txM t) cs) (hfit : fitM (txM t)) (hS : St W F (Wt p b q s) W) (hl : s.length + (encM (txM t)).length ≤ 131072) (hG : Lg W F) :
  Calls Tryz.prog 151 #[.pointer (some ⟨p,0,none⟩),.agg (List.toArray cs)] W (Ret fun u w => (u = .tuple #[] ∧ ∃ b' q',(s ++ encM (txM t)).length ≤ q' ∧ St W F (Wt p b' q' (s ++ encM (txM t))) w)) := by
 obtain ⟨a,c,a2,c2,rows,rfl,hc1,hb,_⟩ := hv.lit
 simp only [Mv.kind,Mv.num,Mv.txt,Mv.lst,List.length_nil] at *
 rw [fitM] at hfit;have e : s ++ encM (txM t) = (s ++ (Lib.itoa (t.length : Nat) ++ [58])) ++ t := by rw [Zes]; simp
 have hl2 := congrArg List.length e
 rw [List.length_append] at hl2;rw [e];rw [hl2] at hl;simp only [List.length_append,List.length_cons,List.length_nil] at hl
 refine Zab Tryz.func151 rfl Tryz.ntmps151 rfl ?_
 repeat (first|refine Yd1 ?_|(refine X_id ?_;first|(refine Zad 72 rfl rfl rfl rfl rfl hS (Zyi (t.length : Nat) _ _ (hG.at_ hS) (by omega) (by omega)) ?_;rintro _ _ rfl hS)|refine Yaf ?_|refine Yag ?_|refine Yan ?_|refine Yar ?_|refine Ybf ?_|refine Ybg ?_|refine Yaq ?_|refine Ybc (fun _ _ hS _ => ?_)|refine Yc3 ?_|refine Zif rfl rfl rfl rfl hS (fun _ _ _ hS _ => ?_))|refine Yfd ?_|refine Yab ?_)
 obtain ⟨_,hc,hr,hw,hbk⟩ := hS.call [false,false,true,true]
 refine Zaa _ rfl rfl rfl rfl rfl (Zo5 p b q s _ _ _ _ _ _ hq rfl hc (hr _ (List.mem_cons_self ..)) (by simp; omega)) ?_
 rintro _ w ⟨rfl,b',q',hq',hS⟩
 replace hS := hbk hS
 clear hc hr hw hbk;repeat (first|refine Yd1 ?_|refine Yaf ?_|refine Yan ?_|refine Yaq ?_|refine Yad ?_|refine Yab ?_)
 obtain ⟨_,hc,hr,hw,hbk⟩ := hS.call [true,true,false,false]
 refine Zaa _ rfl rfl rfl rfl rfl (Zo5 p b' q' _ a t c t.length _ _ hq' rfl hc (hw _ hb) (by simp; omega)) ?_
 rintro _ w ⟨rfl,b2,q2,hq2,hS⟩
 replace hS := hbk hS
 clear hc hr hw hbk;repeat (first|refine Yac ?_|refine Yau ?_|refine Ybs ?_)
 exact ⟨rfl,b2,q2,hq2,hS.took⟩
theorem Zxd : ∀ (m : Nat) (v : Mv) (cs : List Value) (p : Nat) (b : Option Addr) (q : Nat) (s : List UInt8) (W : World) (F : Nat → Prop),s.length ≤ q → Mrd (RoR W F) v cs → wM v ≤ 1048576 → chkM m v = 0 → fitM v → St W F (Wt p b q s) W → s.length + (encM v).length ≤ 131072 → Lg W F →
  Calls Tryz.prog 151 #[.pointer (some ⟨p,0,none⟩),.agg (List.toArray cs)] W (Ret fun u w => (u = .tuple #[] ∧ ∃ b' q',(s ++ encM v).length ≤ q' ∧ St W F (Wt p b' q' (s ++ encM v)) w)) := by
 intro m
 induction m with
 | zero =>
  intro v cs p b q s W F hq hv hwv hck hfit hS hl hG
  rcases Zei hck with ⟨n,rfl⟩ | ⟨t,rfl⟩ | ⟨l,m',_,h',_⟩
  ·exact Zzl n cs p b q s W F hq hv hfit hS hl hG
  ·exact Zzk t cs p b q s W F hq hv hfit hS hl hG
  ·cases h'
 | succ m ih =>
  intro v cs p b q s W F hq hv hwv hck hfit hS hl hG
  rcases Zei hck with ⟨n,rfl⟩ | ⟨t,rfl⟩ | ⟨l,m',rfl,h',hck⟩
  ·exact Zzl n cs p b q s W F hq hv hfit hS hl hG
  ·exact Zzk t cs p b q s W F hq hv hfit hS hl hG
  obtain rfl : m = m' := by omega
  obtain ⟨a1,c1,a,c,rows,rfl,hc1,hb0,hr0,hx⟩ := hv.lit
  simp only [Mv.kind,Mv.num,Mv.txt,Mv.lst,List.length_nil] at *
  rw [Znx] at hwv;rw [fitM] at hfit;have hwl := Zjk l
  have e : s ++ encM (liM l) = ((s ++ [40]) ++ Zay l) ++ [41] := by rw [Zbj]; simp
  have hl2 := congrArg List.length e
  rw [List.length_append] at hl2;rw [e];rw [hl2] at hl;simp only [List.length_append,List.length_cons,List.length_nil] at hl
  refine Zab Tryz.func151 rfl Tryz.ntmps151 rfl ?_
  repeat (first|refine Yd1 ?_|(refine X_id ?_;first|refine Yaf ?_|refine Yag ?_|refine Yan ?_|refine Ybf ?_|refine Ybg ?_|refine Yaq ?_|refine Ybc (fun _ _ hS _ => ?_)|refine Ybi (fun _ _ hS _ => ?_))|refine Yfd ?_|refine Yab ?_)
  obtain ⟨_,hc,hr,hw,hbk⟩ := hS.call [false,false,true,true]
  refine Zaa _ rfl rfl rfl rfl rfl (Zo5 p b q s _ [40] _ _ _ _ hq rfl hc (hr _ (List.mem_cons_self ..)).own_row (by simp; omega)) ?_
  rintro _ w ⟨rfl,b',q',hq',hS⟩
  replace hS := hbk hS
  clear hc hr hw hbk;repeat (first|refine Yd1 ?_|refine Yaf ?_|refine Yan ?_|refine Yar ?_|refine Yaq ?_|refine Yd4 ?_|refine Yab ?_)
  refine Zak (α := Nat × Option Addr × Nat) (fun z => [(0,.pointer (some ⟨p,0,none⟩)),(38,.slice a l.length c),(39,.int .i64 (l.length : Nat)),(40,.int .i64 (z.1 : Nat))])
   (fun z w => z.1 ≤ l.length ∧ ((s ++ [40]) ++ Zay (l.take z.1)).length ≤ z.2.2 ∧ St W F (Wt p z.2.1 z.2.2 ((s ++ [40]) ++ Zay (l.take z.1))) w) (fun z => l.length - z.1) (0,b',q') ⟨rfl,rfl,rfl,rfl,trivial⟩ ⟨Nat.zero_le _,by simpa [Zay] using hq',by rw [List.take_zero,Zay,List.append_nil]; exact hS.took⟩ ?_
  clear hS;rintro ⟨i,b2,q2⟩ w ⟨hi,hq2,hS2⟩
  simp only at hi hq2 hS2
  by_cases hlt : i < l.length
  ·obtain ⟨y,hyx⟩ : ∃ y,y = l[i] := ⟨_,rfl⟩
   have hy0 : l[i]? = some y := by rw [hyx]; exact List.getElem?_eq_getElem hlt
   have hymem : y ∈ l := List.mem_of_getElem? hy0
   have hyw := Zjj hymem
   obtain ⟨cs,hxs,hy⟩ := hx.at_ hy0
   obtain ⟨d1,e1,d2,e2,rows2,rfl,_⟩ := hy.lit
   have hr := hr0
   obtain ⟨ab,ao,rfl⟩ := hr.start.base (by
    intro e
    rw [e] at hxs;simp at hxs)
   have htk : Zay (l.take (i + 1)) = Zay (l.take i) ++ encM y := by
    rw [List.take_succ_eq_append_getElem hlt,← hyx,Zt2]
   have hle := Zt1 l (i + 1)
   rw [htk,List.length_append] at hle;have hS := hS2
   repeat (first|refine Yd1 ?_|(refine X_id ?_;first|refine Yaf ?_|refine Ya0 ?_|refine Ybd ?_|refine Ybh ?_|refine Ybp ?_|refine Yao (fun _ hS _ => ?_)|refine Yas (fun _ _ hS _ => ?_))|refine Yd5 ?_|refine Yab ?_)
   obtain ⟨_,hc,hr,hw,hbk⟩ := hS.call [false,true,true]
   refine Zaa _ rfl rfl rfl rfl rfl (ih y _ p b2 q2 _ _ _ hq2 (hy.mono fun _ _ h => hw _ h) (by omega) (hck y hymem) (fitMs_mem.1 hfit.2.2 y hymem) hc (by simp; omega) (hG.mono hw)) ?_
   rintro _ w ⟨rfl,b3,q3,hq3,hS⟩
   replace hS := hbk hS
   clear hc hr hw hbk;repeat (first|refine Yd1 ?_|refine Yd6 ?_|refine Yad ?_|refine Yd9 ?_)
   refine Zaf (z := (i,b2,q2)) (i + 1,b3,q3) ⟨rfl,rfl,rfl,rfl,trivial⟩ ⟨hlt,?_,?_⟩ (by dsimp only; omega)
   ·rw [htk,← List.append_assoc]; exact hq3
   ·rw [htk,← List.append_assoc]; exact hS.took
  ·obtain rfl : i = l.length := by omega
   have hS := hS2
   rw [List.take_length] at hS hq2;repeat (first|refine Yd1 ?_|refine Yaf ?_|refine Ya1 ?_|refine Ybi (fun _ _ hS _ => ?_)|refine Yed ?_|refine Yd7 ?_)
   obtain ⟨_,hc,hr,hw,hbk⟩ := hS.call [false,true,true]
   refine Zaa _ rfl rfl rfl rfl rfl (Zo5 p b2 q2 _ _ [41] _ _ _ _ hq2 rfl hc (hr _ (List.mem_cons_self ..)).own_row (by simp; omega)) ?_
   rintro _ w ⟨rfl,b3,q3,hq3,hS⟩
   replace hS := hbk hS
   clear hc hr hw hbk;repeat (first|refine Yac ?_|refine Yau ?_|refine Ybs ?_)
   exact ⟨rfl,b3,q3,hq3,hS.took⟩
theorem Zyz (v : Mv) (cs : List Value) (W : World) (hv : Mrd (RoR W noF) v cs) (hwv : wM v ≤ 1048576) (hfit : fitM v) (hl : (encM v).length ≤ 131072) (hG : Lg W noF) :
  Calls Tryz.prog 101 #[.agg (List.toArray cs)] W (Ret fun u w => (chkM 8 v ≠ 0 ∧ u = .tuple #[.slice none 0 0,.int .i64 (chkM 8 v)] ∧ St W noF [] w) ∨ (chkM 8 v = 0 ∧ ∃ b q,u = .tuple #[.slice b (encM v).length q,.int .i64 0] ∧ (encM v).length ≤ q ∧ St W noF [own 5 1 b q (bv (encM v))] w)) := by
 have hS := St.start W
 have hck := fun W h => Z12 8 v cs 1 W noF rfl h hwv
 obtain ⟨a1,c1,a2,c2,rows,rfl,_⟩ := hv.lit
 obtain ⟨e,he⟩ : ∃ e,e = chkM 8 v := ⟨_,rfl⟩
 rw [← he] at hck ⊢;by_cases h0 : e = 0
 ·subst h0
  refine Zab Tryz.func101 rfl Tryz.ntmps101 rfl ?_
  repeat (first|refine Yd1 ?_|(refine X_id ?_;first|(refine Zad 150 rfl rfl rfl rfl rfl hS (hck _ (hv.mono fun _ _ h => (h.rd hS).ro)) ?_;rintro _ _ rfl hS)|refine Yaf ?_|refine Yag ?_|refine Ya5 ?_|refine Ybo ?_|refine Ybh ?_|refine Ybc (fun _ _ hS _ => ?_))|refine Yec ?_|refine Yab ?_)
  rename_i p _ _;replace hS := hS.head (r' := pts p (.cells (List.toArray [.slice none 0 0,.bool false]) 273 (0,0))) (fun _ h => h)
  replace hS := hS.own_none 5 1 none
  have hS := hS.pick [1,0,0]
  obtain ⟨_,hc,hr,hw,hbk⟩ := hS.call [true,true,false]
  refine Zaa _ rfl rfl rfl rfl rfl (Zxd 8 v _ p none 0 [] _ _ (Nat.le_refl _) (hv.mono fun _ _ h => hw _ h) hwv he.symm hfit hc (by simpa using hl) (hG.mono hw)) ?_
  rintro _ w ⟨rfl,b,q,hq,hS⟩
  replace hS := hbk hS
  clear hc hr hw hbk;rw [List.nil_append] at hS hq;repeat (first|refine Yd1 ?_|(refine X_id ?_;first|refine Yaf ?_|refine Yag ?_|refine Yat ?_|refine Yan ?_|refine Yaq ?_)|refine Yeq ?_|refine Yep ?_)
  refine .inr ⟨rfl,b,q,rfl,hq,?_⟩
  have hS := hS.pick [1]
  exact hS
 ·refine Zab Tryz.func101 rfl Tryz.ntmps101 rfl ?_
  repeat (first|refine Yd1 ?_|(refine X_id ?_;first|(refine Zad 150 rfl rfl rfl rfl rfl hS (hck _ (hv.mono fun _ _ h => (h.rd hS).ro)) ?_;rintro _ _ rfl hS)|refine Yaf ?_|refine Yag ?_|refine Ybj ?_|refine Ybh ?_|refine Ybc (fun _ _ hS _ => ?_))|refine Yei ?_|refine Yab ?_|refine Yap ?_|refine Ybr ?_)
  exact .inl ⟨h0,rfl,hS.drops⟩
end Cr
