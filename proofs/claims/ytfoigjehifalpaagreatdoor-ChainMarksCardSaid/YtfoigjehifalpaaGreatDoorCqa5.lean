/-
  The document's table of the digest,out of primes.
  What the document's digest computes,as its operations tell it.
  The document's digest: a block more.
  The document's table is the program's two.
  The words of a digest as natural numbers below 2^32: what the two sides' operations do to them. No program is in sight.
  The two sides' rounds of the digest are the same,over natural numbers.
  The document's rounds,over natural numbers.
  A block more: the two sides' words are the same.
  Layer 2 (digest): Sum.
  Layer 2 (digest): Framed.
  Bytes told one by one are blocks told one by one.
  Bytes made; lists of byte slices as a resource. Over any program.
-/
import Derived.Test.YtfoigjehifalpaaGreatDoorCqa4
import Derived.KernelRfl
import Derived.Test.YtfoigjehifalpaaGreatDoorCqa3
import Derived.Laws.BitsLemmas
namespace Cr
open Go Go.Proofs
set_option maxRecDepth 100000
set_option maxHeartbeats 64000000
attribute [local irreducible] Calls

def Zfh (p : Nat) : Nat → Nat
 | 0 => 0
 | q + 1 => Zfh p q + (if p % (q + 1) = 0 then 1 else 0)
def nTo : Nat → Nat
 | 0 => 0
 | m + 1 => nTo m + (if Zfh (2 + m) (2 + m) = 2 then 1 else 0)
def Zc7 : Nat → List Int
 | 0 => List.replicate 72 0
 | m + 1 =>
  if Zfh (2 + m) (2 + m) = 2 then (if nTo m < 8 then (Zc7 m).set (nTo m) (Zau ((2 + m : Nat) : Int) 2) else Zc7 m).set (8 + nTo m) (Zau ((2 + m : Nat) : Int) 3) else Zc7 m
theorem Zbw : ∀ m,(Zc7 m).length = 72
 | 0 => rfl
 | m + 1 => by
  unfold Zc7
  split
  ·rw [List.length_set]; split
   ·rw [List.length_set]; exact Zbw m
   ·exact Zbw m
  ·exact Zbw m
theorem Z09 : ∀ {a b : Nat},a ≤ b → nTo a ≤ nTo b := fun {a b} h => by
 induction h with
 | refl => exact Nat.le_refl _
 | step _ ih => exact Nat.le_trans ih (by simp only [nTo]; omega)
theorem Z4m : nTo 309 = 63 := by kernel_rfl
theorem Z4l : nTo 310 = 64 := by kernel_rfl
theorem Qa5 (W : World) : Calls Tryz.prog 18 #[] W (Ret fun v w => v = .agg (ints .i64 (Zc7 310)).toArray ∧ St W noF [] w) := by
 have hS := St.start W
 refine Zab Tryz.func18 rfl Tryz.ntmps18 rfl ?_
 repeat (first|refine Yeg ?_|refine Yag ?_|refine Yar (fun _ _ hS _ => ?_)|refine Yej ?_|refine Yab ?_)
 rename_i b0 _ _ _ b1 _ _
 replace hS : St W noF [pts b1 (.cells (ints .i64 (Zc7 0)).toArray 61),pts b0 (.cells (List.replicate 72 (.int .i64 0)).toArray 61)] _ := hS
 refine Zaj (α := Nat) (fun m => [(0,.pointer (some ⟨b0,0,none⟩)),(1,.pointer (some ⟨b1,0,none⟩)),(2,.int .i64 (nTo m : Nat)),(3,.int .u64 ((2 + m : Nat) : Int))])
  (fun m w => m ≤ 310 ∧ St W noF [pts b1 (.cells (ints .i64 (Zc7 m)).toArray 61),pts b0 (.cells (List.replicate 72 (.int .i64 0)).toArray 61)] w) (fun m => 310 - m) 0 ⟨rfl,rfl,rfl,rfl,trivial⟩ ⟨Nat.zero_le _,hS⟩ ?_
 clear hS
 rintro m w ⟨hm,hS⟩
 have htl := Zbw m
 by_cases h1 : m < 310
 ·have hn : nTo m < 64 := by have := Z09 (show m ≤ 309 by omega); rw [Z4m] at this; omega
  obtain ⟨n,hne⟩ : ∃ n,n = nTo m := ⟨_,rfl⟩
  obtain ⟨T,hT⟩ : ∃ T,T = Zc7 m := ⟨_,rfl⟩
  obtain ⟨p,hp⟩ : ∃ p : Nat,p = 2 + m := ⟨_,rfl⟩
  have hs1 : nTo (m + 1) = n + (if Zfh p p = 2 then 1 else 0) := by rw [nTo,← hne,← hp]
  have hs2 : Zc7 (m + 1) = if Zfh p p = 2 then (if n < 8 then T.set n (Zau (p : Int) 2) else T).set (8 + n) (Zau (p : Int) 3) else T := by rw [Zc7,← hne,← hp,← hT]
  have hp1 : 2 + (m + 1) = p + 1 := by omega
  rw [← hne] at hn
  rw [← hT] at hS htl
  rw [← hne,← hp]
  repeat (first|refine Yeg ?_|refine Yaf ?_|refine Yag ?_|refine Ya1 ?_|refine Yek ?_|refine Yab ?_)
  refine Zbk (α := Unit) (fun _ => [(0,.pointer (some ⟨b0,0,none⟩)),(1,.pointer (some ⟨b1,0,none⟩)),(2,.int .i64 (n : Nat)),(3,.int .u64 (p : Int)),(4,.int .i64 (Zfh p p : Nat))])
   (fun _ w => St W noF [pts b1 (.cells (ints .i64 T).toArray 61),pts b0 (.cells (List.replicate 72 (.int .i64 0)).toArray 61)] w) ?_ ?_
  ·refine Zaj (α := Nat) (fun q => [(0,.pointer (some ⟨b0,0,none⟩)),(1,.pointer (some ⟨b1,0,none⟩)),(2,.int .i64 (n : Nat)),(3,.int .u64 (p : Int)),(4,.int .i64 (Zfh p q : Nat)),(5,.int .u64 ((q + 1 : Nat) : Int))])
    (fun q w => q ≤ p ∧ Zfh p q ≤ q ∧ St W noF [pts b1 (.cells (ints .i64 T).toArray 61),pts b0 (.cells (List.replicate 72 (.int .i64 0)).toArray 61)] w) (fun q => p - q) 0 ⟨rfl,rfl,rfl,rfl,rfl,rfl,trivial⟩ ⟨Nat.zero_le _,Nat.le_refl _,hS⟩ ?_
   clear hS
   rintro q w ⟨hq,hd,hS⟩
   have hw : IntKind.u64.wrap (((q + 1 : Nat) : Int) + 1) = ((q + 1 + 1 : Nat) : Int) := by simp only [IntKind.wrap,IntKind.bits,IntKind.signed]; simp; omega
   by_cases h2 : q < p
   ·have hmod : (p : Int) % ((q + 1 : Nat) : Int) = ((p % (q + 1) : Nat) : Int) := (Int.natCast_emod _ _).symm
    obtain ⟨r,hr⟩ : ∃ r,r = p % (q + 1) := ⟨_,rfl⟩
    by_cases h3 : r = 0
    ·have e : Zfh p (q + 1) = Zfh p q + 1 := by rw [Zfh,if_pos (by rw [← hr]; exact h3)]
     have hmod0 : (p : Int) % ((q + 1 : Nat) : Int) = 0 := by rw [hmod,← hr,h3]; rfl
     repeat (first|refine Yeg ?_|(refine X_id ?_;first|refine Yaf ?_|refine Yag ?_|refine Ybh ?_|refine Ydg ?_|refine Yay ?_|refine Yck ?_|refine Ycb ?_)|refine Yek ?_|refine Yeo ?_)
     refine Zaf (q + 1) ⟨rfl,rfl,rfl,rfl,by rw [e]; rfl,by show some _ = some _; rw [← hw],trivial⟩ ⟨h2,by omega,hS⟩ (by omega)
    ·have e : Zfh p (q + 1) = Zfh p q := by rw [Zfh,if_neg (by rw [← hr]; exact h3)]; rfl
     have hmod0 : ¬ (p : Int) % ((q + 1 : Nat) : Int) = 0 := by rw [hmod,← hr]; omega
     repeat (first|refine Yeg ?_|(refine X_id ?_;first|refine Yaf ?_|refine Yag ?_|refine Ybi ?_|refine Ydg ?_|refine Yck ?_|refine Ycb ?_)|refine Yen ?_|refine Yeo ?_)
     refine Zaf (q + 1) ⟨rfl,rfl,rfl,rfl,by rw [e]; rfl,by show some _ = some _; rw [← hw],trivial⟩ ⟨h2,by omega,hS⟩ (by omega)
   ·obtain rfl : q = p := by omega
    repeat (first|refine Yeg ?_|refine Yaf ?_|refine Yd2 ?_|refine Yet ?_|refine Yem ?_)
    exact Zbj () ⟨rfl,rfl,rfl,rfl,rfl,trivial⟩ hS
  ·clear hS
   rintro _ w hS
   have hw : IntKind.u64.wrap ((p : Int) + 1) = ((2 + (m + 1) : Nat) : Int) := by simp only [IntKind.wrap,IntKind.bits,IntKind.signed]; simp; omega
   obtain ⟨dv,hdv⟩ : ∃ dv,dv = Zfh p p := ⟨_,rfl⟩
   rw [← hdv] at hs1 hs2 ⊢
   by_cases h3 : dv = 2
   ·rw [if_pos h3] at hs1 hs2
    by_cases h4 : n < 8
    ·rw [if_pos h4] at hs2
     repeat (first|refine Yeg ?_|refine Yaf ?_|refine Ybb ?_|refine Ya1 ?_|refine Yfd ?_|refine Yab ?_)
     refine Zad _ rfl rfl rfl rfl rfl hS (Z33 (p : Int) 2 _ (by omega) (by omega)) ?_
     rintro _ w rfl hS
     repeat (first|refine Yeg ?_|refine Yaf ?_|refine Yan ?_|refine Ycn ?_|refine Yco (fun _ hS => ?_)|refine Yeh ?_|refine Yab ?_)
     rw [show (0 : Nat) + (n : Int).toNat * 1 = n by omega] at hS
     obtain ⟨T2,hT2⟩ : ∃ T2,T2 = T.set n (Zau (p : Int) 2) := ⟨_,rfl⟩
     have htl : T2.length = 72 := by rw [hT2]; simpa using htl
     rw [← hT2] at hS hs2
     refine Zad _ rfl rfl rfl rfl rfl hS (Z33 (p : Int) 3 _ (by omega) (by omega)) ?_
     rintro _ w rfl hS
     repeat (first|refine Yeg ?_|(refine X_id ?_;first|refine Yaf ?_|refine Yag ?_|refine Yan ?_|refine Ycn ?_|refine Yay ?_|refine Yck ?_|refine Yco (fun _ hS => ?_))|refine Yad ?_|refine Yeo ?_)
     rw [show (0 : Nat) + 8 + (n : Int).toNat * 1 = 8 + n by omega] at hS
     exact Zaf (m + 1) ⟨rfl,rfl,by rw [hs1]; rfl,by show some _ = some _; rw [← hw],trivial⟩ ⟨h1,by rw [hs2]; exact hS⟩ (by omega)
    ·rw [if_neg h4] at hs2
     repeat (first|refine Yeg ?_|refine Yaf ?_|refine Ybb ?_|refine Yaz ?_|refine Yes ?_|refine Yab ?_)
     refine Zad _ rfl rfl rfl rfl rfl hS (Z33 (p : Int) 3 _ (by omega) (by omega)) ?_
     rintro _ w rfl hS
     repeat (first|refine Yeg ?_|(refine X_id ?_;first|refine Yaf ?_|refine Yag ?_|refine Yan ?_|refine Ycn ?_|refine Yay ?_|refine Yck ?_|refine Yco (fun _ hS => ?_))|refine Yad ?_|refine Yeo ?_)
     rw [show (0 : Nat) + 8 + (n : Int).toNat * 1 = 8 + n by omega] at hS
     exact Zaf (m + 1) ⟨rfl,rfl,by rw [hs1]; rfl,by show some _ = some _; rw [← hw],trivial⟩ ⟨h1,by rw [hs2]; exact hS⟩ (by omega)
   ·rw [if_neg h3] at hs1 hs2
    repeat (first|refine Yeg ?_|refine Yaf ?_|refine Yag ?_|refine Ybl ?_|refine Yck ?_|refine Yae ?_|refine Yad ?_|refine Ya4 ?_|refine Yak ?_|refine Yem ?_)
    exact Zaf (m + 1) ⟨rfl,rfl,by rw [hs1]; rfl,by show some _ = some _; rw [← hw],trivial⟩ ⟨h1,by rw [hs2]; exact hS⟩ (by omega)
 ·obtain rfl : m = 310 := by omega
  have h64 := Z4l
  have hl72 : LenO (ints .i64 (Zc7 310)) 72 := ⟨by rw [ints_length]; exact Zbw 310⟩
  repeat (first|refine Yeg ?_|refine Yaf ?_|refine Yaz ?_|refine Ybf ?_|refine Yao (fun _ hS _ => ?_)|refine Yep ?_|refine Yeq ?_)
  exact ⟨rfl,hS.drops⟩
end Cr
namespace Cr
open Go
set_option maxHeartbeats 64000000
def Znz (x : Int) (n : Nat) : Int := IntKind.i64.wrap (ishr .i64 x n + ishl .i64 (x.tmod (ishl .i64 1 n)) (32 - n))
theorem Zt2 : ∀ n,n ≤ 32 → ishl .i64 1 n = 2 ^ n := by
 intro n hn
 unfold ishl
 have e : (2 : Int) ^ n = ((2 ^ n : Nat) : Int) := by push_cast; rfl
 have : 2 ^ n ≤ 2 ^ 32 := Nat.pow_le_pow_right (by omega) hn
 rw [show min n IntKind.i64.bits = n from Nat.min_eq_left (Nat.le_trans hn (by decide)),Int.one_mul,e]
 generalize 2 ^ n = m at this ⊢
 rw [IntKind.wrap_i64]; omega
abbrev iw (x : Int) : Int := IntKind.i64.wrap x
def w16 (b : List UInt8) (i : Nat) : Int :=
 iw (iw (iw (ishl .i64 (iw (b.getD (4 * i) 0).toNat) 24 + ishl .i64 (iw (b.getD (4 * i + 1) 0).toNat) 16) + ishl .i64 (iw (b.getD (4 * i + 2) 0).toNat) 8) + iw (b.getD (4 * i + 3) 0).toNat)
def sigI (x : Int) (p q r : Nat) : Int := ixor .i64 (ixor .i64 (Znz x p) (Znz x q)) (ishr .i64 x r)
def Z2s (L : List Int) (i : Nat) : Int := (iw (iw (iw (L.getD (i - 16) 0 + sigI (L.getD (i - 15) 0) 7 18 3) + L.getD (i - 7) 0) + sigI (L.getD (i - 2) 0) 17 19 10)).tmod 4294967296
def Zb4 (b : List UInt8) : Nat → List Int
 | 0 => List.replicate 64 0
 | i + 1 => (Zb4 b i).set i (if i < 16 then w16 b i else Z2s (Zb4 b i) i)
theorem Ze3 (b : List UInt8) : ∀ i,(Zb4 b i).length = 64
 | 0 => by simp [Zb4]
 | i + 1 => by simp [Zb4,Ze3 b i]
structure E8 where
 a : Int
 b : Int
 c : Int
 d : Int
 e : Int
 f : Int
 g : Int
 h : Int
def Zva (x : Int) (p q r : Nat) : Int := ixor .i64 (ixor .i64 (Znz x p) (Znz x q)) (Znz x r)
def Z3u (T X : List Int) (i : Nat) (s : E8) : Int := iw (iw (iw (iw (s.h + Zva s.e 6 11 25) + iw (iand .i64 s.e s.f + iand .i64 (iw (4294967295 - s.e)) s.g)) + T.getD (8 + i) 0) + X.getD i 0)
def Z58 (s : E8) : Int := iw (Zva s.a 2 13 22 + ior .i64 (ior .i64 (iand .i64 s.a s.b) (iand .i64 s.a s.c)) (iand .i64 s.b s.c))
def Zny (T X : List Int) (i : Nat) (s : E8) : E8 := ⟨(iw (Z3u T X i s + Z58 s)).tmod 4294967296,s.a,s.b,s.c,(iw (s.d + Z3u T X i s)).tmod 4294967296,s.e,s.f,s.g⟩
def E8.list (s : E8) : List Int := [s.a,s.b,s.c,s.d,s.e,s.f,s.g,s.h]
def sumI (L H : List Int) : Nat → List Int
 | 0 => L
 | i + 1 => (sumI L H i).set i ((iw ((sumI L H i).getD i 0 + H.getD i 0)).tmod 4294967296)
theorem Zkx (L H : List Int) : ∀ i,(sumI L H i).length = L.length
 | 0 => rfl
 | i + 1 => by simp [sumI,Zkx L H i]
def Zb1 (T X H : List Int) : Nat → E8
 | 0 => ⟨H.getD 0 0,H.getD 1 0,H.getD 2 0,H.getD 3 0,H.getD 4 0,H.getD 5 0,H.getD 6 0,H.getD 7 0⟩
 | i + 1 => Zny T X i (Zb1 T X H i)
def Zz9 (T H : List Int) (b : List UInt8) : List Int := sumI (Zb1 T (Zb4 b 64) H 64).list H 8
end Cr
namespace Cr
open Go Go.Proofs
set_option maxRecDepth 100000
set_option maxHeartbeats 64000000
attribute [local irreducible] Calls

theorem Ze4 (x : Int) (n : Nat) (W : World) (hn : n ≤ 32) : Calls Tryz.prog 169 #[.int .i64 x,.int .i64 (n : Nat)] W (Ret fun v w => v = .int .i64 (Znz x n) ∧ St W noF [] w) := by
 have hS := St.start W
 have hb : ¬ ishl .i64 1 ((n : Int)).toNat = 0 := by
  rw [Int.toNat_natCast,Zt2 n hn]
  have := Int.pow_pos (n := 2) (m := n) (by omega)
  omega
 refine Zab Tryz.func169 rfl Tryz.ntmps169 rfl ?_
 repeat (first|refine Yeg ?_|refine Yag ?_|refine Yeh ?_|refine Yab ?_)
 refine Zan (.s 0 (.s 1 (.s 2 (.s 3 (.s 4 (.s 5 (.s 6 (.s 7 (.s 8 (.s 9 (.s 10 (.s 11 .nil)))))))))))) mixed (by kernel_rfl) rfl ?_
 have hS := hS.drew
 repeat (first|refine Yah ?_|refine Yei ?_|(refine Zae ?_;first|refine Yaw ?_|refine Ya0 ?_|refine Ybj ?_|refine Ych ?_|refine Yci ?_|refine Yde ?_|refine Ydl ?_|refine Ydz ?_))
 refine ⟨?_,hS⟩
 rw [Znz,Int.toNat_natCast,show (32 - (n : Int)).toNat = 32 - n by omega]
abbrev two (p : Nat) (x y : Int) : Res := pts p (.cells #[.int .i64 x,.int .i64 y] 305)
theorem Z91 (T H : List Int) (hT : T.length = 72) (hH : H.length = 8) (a : Option Addr) (c : Nat) (b : List UInt8) (W : World) (hb : Rd W (bytes a b)) (h64 : b.length = 64) :
  Calls Tryz.prog 111 #[.agg (ints .i64 T).toArray,.agg (ints .i64 H).toArray,.slice a 64 c] W (Ret fun v w => v = .agg (ints .i64 (Zz9 T H b)).toArray ∧ St W noF [] w) := by
 have hS := St.start W
 have hbo := hb.ro
 obtain ⟨ab,ao,rfl⟩ := hb.base (by intro e; have := Zag b; rw [e] at this; simp at this; omega)
 clear hb
 have hb := hbo
 have hl72 : LenO (ints .i64 T) 72 := ⟨by rw [ints_length,hT]⟩
 have hl8 : LenO (ints .i64 H) 8 := ⟨by rw [ints_length,hH]⟩
 refine Zab Tryz.func111 rfl Tryz.ntmps111 rfl ?_
 repeat (first|refine Yeg ?_|refine Yag ?_|refine Ya7 (fun _ _ hS _ => ?_)|refine Yar (fun _ _ hS _ => ?_)|refine Yej ?_|refine Yab ?_)
 rename_i b3 _ _ _ b4 _ _ _ b6 _ _ _ b7 _ _
 rw [Zog] at hS
 refine Zbk (α := Unit) (fun _ => [(3,.pointer (some ⟨b3,0,none⟩)),(4,.pointer (some ⟨b4,0,none⟩)),(6,.pointer (some ⟨b6,0,none⟩)),(7,.pointer (some ⟨b7,0,none⟩))])
  (fun _ w => St W noF [pts b7 (.cells (ints .i64 (Zb4 b 64)).toArray 59),pts b6 (.cells #[.int .i64 0,.int .i64 0,.int .i64 0,.int .i64 0,.int .i64 0,.int .i64 0,.int .i64 0,.int .i64 0] 58),pts b4 (.cells (ints .i64 H).toArray 58),pts b3 (.cells (ints .i64 T).toArray 61)] w) ?_ ?_
 ·refine Zaj (α := Nat) (fun i => [(2,.slice (some ⟨ab,ao,none⟩) 64 c),(3,.pointer (some ⟨b3,0,none⟩)),(4,.pointer (some ⟨b4,0,none⟩)),(6,.pointer (some ⟨b6,0,none⟩)),(7,.pointer (some ⟨b7,0,none⟩)),(8,.int .i64 (i : Nat))])
   (fun i w => i ≤ 64 ∧ St W noF [pts b7 (.cells (ints .i64 (Zb4 b i)).toArray 59),pts b6 (.cells #[.int .i64 0,.int .i64 0,.int .i64 0,.int .i64 0,.int .i64 0,.int .i64 0,.int .i64 0,.int .i64 0] 58),pts b4 (.cells (ints .i64 H).toArray 58),pts b3 (.cells (ints .i64 T).toArray 61)] w) (fun i => 64 - i) 0 ⟨rfl,rfl,rfl,rfl,rfl,rfl,trivial⟩ ⟨Nat.zero_le _,hS⟩ ?_
  clear hS
  rintro i w ⟨hi,hS⟩
  obtain ⟨L,hLe⟩ : ∃ L,L = Zb4 b i := ⟨_,rfl⟩
  have hL : L.length = 64 := by rw [hLe]; exact Ze3 b i
  rw [← hLe] at hS
  by_cases h1 : i < 64
  ·by_cases h16 : i < 16
   ·repeat (first|refine Yeg ?_|refine Yaf ?_|refine Ya1 ?_|refine Yek ?_|refine Yab ?_)
    refine Zan (.s 0 (.s 1 (.s 2 (.s 3 (.s 4 (.s 5 (.s 6 (.s 7 (.s 8 (.s 9 (.s 10 (.s 11 (.s 12 (.s 13 (.s 14 (.s 15 (.s 16 (.s 17 (.s 18 (.s 19 (.s 20 (.s 21 (.s 22 (.s 23 (.s 24 (.s 25 (.s 26 (.s 27 (.s 28 (.s 29 (.s 30 (.s 31 (.s 32 (.s 33 (.s 34 (.h 35 .nil .no)))))))))))))))))))))))))))))))))))) mixed (by kernel_rfl) rfl ?_
    have hS := hS.drew
    repeat (first|refine Yeg ?_|refine Yew ?_|refine Yco (fun _ hS => ?_)|refine Yad ?_|refine Ya4 ?_|refine Yem ?_|(refine Zae ?_;first|refine Yaw ?_|refine Ya0 ?_|refine Yb5 ?_|refine Yb9 ?_|refine Ycw ?_|refine Yeb ?_|refine Yci ?_|refine Zak rfl rfl (fun _ => Zfn rfl rfl rfl) rfl rfl ?_|refine Ydl ?_|refine Ydp ?_|refine Yas ?_)|(refine Zac ?_;first|refine Yax ?_))
    rw [show 0 + (i : Int).toNat * 1 = i by omega,show (4 * (i : Int)).toNat * 1 = 4 * i by omega,show (4 * (i : Int) + 1).toNat * 1 = 4 * i + 1 by omega,show (4 * (i : Int) + 2).toNat * 1 = 4 * i + 2 by omega,show (4 * (i : Int) + 3).toNat * 1 = 4 * i + 3 by omega] at hS
    exact Zaf (i + 1) ⟨rfl,rfl,rfl,rfl,rfl,rfl,trivial⟩ ⟨by omega,by rw [Zb4,if_pos h16,← hLe]; exact hS⟩ (by omega)
   ·repeat (first|refine Yeg ?_|refine Yaf ?_|refine Ya1 ?_|refine Yaz ?_|refine Yen ?_|refine Yab ?_)
    refine Zan (.s 0 (.s 1 (.s 2 (.s 3 (.s 5 (.s 6 (.s 7 (.s 8 (.s 11 (.s 12 (.s 13 (.s 14 (.s 15 (.h 4 (.h 9 (.s 10 (.s 16 (.s 17 .nil))) .no) .no)))))))))))))) mixed (by kernel_rfl) rfl ?_
    have hS := hS.drew
    repeat (first|(refine X_id ?_;first|(refine Zad 169 rfl rfl rfl rfl rfl hS (Ze4 _ 7 _ (by omega)) ?_;rintro _ _ rfl hS)|(refine Zad 169 rfl rfl rfl rfl rfl hS (Ze4 _ 18 _ (by omega)) ?_;rintro _ _ rfl hS))|refine Yae ?_|refine Yab ?_|(refine Zae ?_;first|refine Yaw ?_|refine Ya0 ?_|refine Ybj ?_|refine Yb5 ?_|refine Ych ?_|refine Yc4 ?_|refine Yde ?_|refine Ycf ?_|refine Yas ?_)|(refine Zac ?_;first|refine Yax ?_))
    refine Zan (.s 0 (.s 1 (.s 2 (.s 3 (.s 5 (.s 6 (.s 7 (.s 8 (.s 11 (.s 12 (.s 13 (.s 14 (.s 15 (.h 4 (.h 9 (.s 10 (.s 16 (.s 17 .nil))) .no) .no)))))))))))))) mixed (by kernel_rfl) rfl ?_
    have hS := hS.drew
    repeat (first|(refine X_id ?_;first|(refine Zad 169 rfl rfl rfl rfl rfl hS (Ze4 _ 17 _ (by omega)) ?_;rintro _ _ rfl hS)|(refine Zad 169 rfl rfl rfl rfl rfl hS (Ze4 _ 19 _ (by omega)) ?_;rintro _ _ rfl hS))|refine Yab ?_|(refine Zae ?_;first|refine Yaw ?_|refine Ya0 ?_|refine Ybj ?_|refine Yb5 ?_|refine Ych ?_|refine Yc4 ?_|refine Yde ?_|refine Ycf ?_|refine Yas ?_)|(refine Zac ?_;first|refine Yax ?_))
    refine Zan (.s 0 (.s 1 (.s 2 (.s 3 (.s 4 (.s 5 (.s 6 (.s 7 (.s 8 (.s 9 (.s 10 (.s 11 (.s 12 (.s 13 (.s 14 (.s 15 (.h 16 .nil .no))))))))))))))))) mixed (by kernel_rfl) rfl ?_
    have hS := hS.drew
    repeat (first|refine Yeg ?_|refine Yew ?_|refine Yco (fun _ hS => ?_)|refine Yad ?_|refine Yeo ?_|(refine Zae ?_;first|refine Yaw ?_|refine Ya0 ?_|refine Yb5 ?_|refine Ych ?_|refine Yci ?_|refine Ydz ?_|refine Ycf ?_|refine Yas ?_)|(refine Zac ?_;first|refine Yax ?_))
    rw [show 0 + (i : Int).toNat * 1 = i by omega,show 0 + ((i : Int) - 16).toNat * 1 = i - 16 by omega,show 0 + ((i : Int) - 15).toNat * 1 = i - 15 by omega,show 0 + ((i : Int) - 7).toNat * 1 = i - 7 by omega,show 0 + ((i : Int) - 2).toNat * 1 = i - 2 by omega] at hS
    exact Zaf (i + 1) ⟨rfl,rfl,rfl,rfl,rfl,rfl,trivial⟩ ⟨by omega,by rw [Zb4,if_neg h16,← hLe]; exact hS⟩ (by omega)
  ·obtain rfl : i = 64 := by omega
   repeat (first|refine Yeg ?_|refine Yaf ?_|refine Yaz ?_|refine Yet ?_|refine Yem ?_)
   exact Zbj () ⟨rfl,rfl,rfl,rfl,trivial⟩ (by rw [← hLe]; exact hS)
 clear hS
 rintro _ w hS
 obtain ⟨X,hX⟩ : ∃ X,X = Zb4 b 64 := ⟨_,rfl⟩
 have hXl : X.length = 64 := by rw [hX]; exact Ze3 b 64
 rw [← hX] at hS
 repeat (first|refine Yae ?_)
 refine Znq (α := Nat × Nat × Nat × Nat) (fun z => [(3,.pointer (some ⟨b3,0,none⟩)),(4,.pointer (some ⟨b4,0,none⟩)),(6,.pointer (some ⟨b6,0,none⟩)),(7,.pointer (some ⟨b7,0,none⟩)),(11,.pointer (some ⟨z.1,0,none⟩)),(12,.pointer (some ⟨z.2.1,0,none⟩)),(13,.pointer (some ⟨z.2.2.1,0,none⟩)),(14,.pointer (some ⟨z.2.2.2,0,none⟩))])
  (fun z w => St W noF [two z.1 (H.getD 0 0) (H.getD 1 0),two z.2.1 (H.getD 2 0) (H.getD 3 0),two z.2.2.1 (H.getD 4 0) (H.getD 5 0),two z.2.2.2 (H.getD 6 0) (H.getD 7 0),pts b7 (.cells (ints .i64 X).toArray 59),pts b6 (.cells #[.int .i64 0,.int .i64 0,.int .i64 0,.int .i64 0,.int .i64 0,.int .i64 0,.int .i64 0,.int .i64 0] 58),pts b4 (.cells (ints .i64 H).toArray 58),pts b3 (.cells (ints .i64 T).toArray 61)] w) ?_ ?_
 ·skip
  refine Zan (.s 0 (.s 1 (.s 2 (.s 3 (.s 4 (.s 5 (.s 6 (.s 7 (.s 8 (.s 9 (.s 10 (.s 11 (.s 12 (.s 13 (.s 14 (.s 15 (.s 16 (.s 17 (.s 18 (.s 19 (.h 20 (.h 21 (.h 22 (.h 23 (.h 24 (.h 25 (.h 26 (.h 27 .nil .no) .no) .no) .no) .no) (.h 23 (.h 22 (.h 24 (.h 25 (.h 26 (.h 27 .nil .no) .no) .no) .no) .no) .no)) (.h 22 (.h 21 (.h 23 (.h 24 (.h 25 (.h 26 (.h 27 .nil .no) .no) .no) .no) .no) (.h 23 (.h 21 (.h 24 (.h 25 (.h 26 (.h 27 .nil .no) .no) .no) .no) .no) .no)) (.h 23 (.h 21 (.h 22 (.h 24 (.h 25 (.h 26 (.h 27 .nil .no) .no) .no) .no) .no) (.h 22 (.h 21 (.h 24 (.h 25 (.h 26 (.h 27 .nil .no) .no) .no) .no) .no) .no)) .no))) (.h 21 (.h 20 (.h 22 (.h 23 (.h 24 (.h 25 (.h 26 (.h 27 .nil .no) .no) .no) .no) .no) (.h 23 (.h 22 (.h 24 (.h 25 (.h 26 (.h 27 .nil .no) .no) .no) .no) .no) .no)) (.h 22 (.h 20 (.h 23 (.h 24 (.h 25 (.h 26 (.h 27 .nil .no) .no) .no) .no) .no) (.h 23 (.h 20 (.h 24 (.h 25 (.h 26 (.h 27 .nil .no) .no) .no) .no) .no) .no)) (.h 23 (.h 20 (.h 22 (.h 24 (.h 25 (.h 26 (.h 27 .nil .no) .no) .no) .no) .no) (.h 22 (.h 20 (.h 24 (.h 25 (.h 26 (.h 27 .nil .no) .no) .no) .no) .no) .no)) .no))) (.h 22 (.h 20 (.h 21 (.h 23 (.h 24 (.h 25 (.h 26 (.h 27 .nil .no) .no) .no) .no) .no) (.h 23 (.h 21 (.h 24 (.h 25 (.h 26 (.h 27 .nil .no) .no) .no) .no) .no) .no)) (.h 21 (.h 20 (.h 23 (.h 24 (.h 25 (.h 26 (.h 27 .nil .no) .no) .no) .no) .no) (.h 23 (.h 20 (.h 24 (.h 25 (.h 26 (.h 27 .nil .no) .no) .no) .no) .no) .no)) (.h 23 (.h 20 (.h 21 (.h 24 (.h 25 (.h 26 (.h 27 .nil .no) .no) .no) .no) .no) (.h 21 (.h 20 (.h 24 (.h 25 (.h 26 (.h 27 .nil .no) .no) .no) .no) .no) .no)) .no))) (.h 23 (.h 20 (.h 21 (.h 22 (.h 24 (.h 25 (.h 26 (.h 27 .nil .no) .no) .no) .no) .no) (.h 22 (.h 21 (.h 24 (.h 25 (.h 26 (.h 27 .nil .no) .no) .no) .no) .no) .no)) (.h 21 (.h 20 (.h 22 (.h 24 (.h 25 (.h 26 (.h 27 .nil .no) .no) .no) .no) .no) (.h 22 (.h 20 (.h 24 (.h 25 (.h 26 (.h 27 .nil .no) .no) .no) .no) .no) .no)) (.h 22 (.h 20 (.h 21 (.h 24 (.h 25 (.h 26 (.h 27 .nil .no) .no) .no) .no) .no) (.h 21 (.h 20 (.h 24 (.h 25 (.h 26 (.h 27 .nil .no) .no) .no) .no) .no) .no)) .no))) .no)))))))))))))))))))))))) mixed (by kernel_rfl) rfl ?_
  have hS := hS.drew
  repeat' (first|refine Zer ?_ ?_|refine Yao (fun _ hS _ => ?_)|refine Yar (fun _ _ hS _ => ?_)|(refine Zae ?_;first|refine Yaw ?_|refine Yb5 ?_|refine Ycf ?_|refine Yas ?_|refine Zak rfl rfl (fun _ => Zhs rfl rfl rfl rfl rfl) rfl rfl ?_)|(refine Zac ?_;first|refine Yax ?_))
  all_goals
   simp only [Int.toNat_zero,Int.toNat_one,show Int.toNat 2 = 2 from rfl,show Int.toNat 3 = 3 from rfl,show Int.toNat 4 = 4 from rfl,show Int.toNat 5 = 5 from rfl,show Int.toNat 6 = 6 from rfl,show Int.toNat 7 = 7 from rfl,Nat.mul_one,Nat.zero_add] at hS
   exact Zbj (_,_,_,_) ⟨rfl,rfl,rfl,rfl,rfl,rfl,rfl,rfl,trivial⟩ hS.took
 clear hS
 rintro ⟨p1,p2,p3,p4⟩ w hS
 simp only at hS ⊢
 repeat (first|refine Yeg ?_|refine Yag ?_|refine Yej ?_|refine Yab ?_)
 refine Zbk (α := Unit) (fun _ => [(4,.pointer (some ⟨b4,0,none⟩)),(6,.pointer (some ⟨b6,0,none⟩)),(11,.pointer (some ⟨p1,0,none⟩)),(12,.pointer (some ⟨p2,0,none⟩)),(13,.pointer (some ⟨p3,0,none⟩)),(14,.pointer (some ⟨p4,0,none⟩))])
  (fun _ w => St W noF [two p1 (Zb1 T X H 64).a (Zb1 T X H 64).b,two p2 (Zb1 T X H 64).c (Zb1 T X H 64).d,two p3 (Zb1 T X H 64).e (Zb1 T X H 64).f,two p4 (Zb1 T X H 64).g (Zb1 T X H 64).h,pts b7 (.cells (ints .i64 X).toArray 59),pts b6 (.cells #[.int .i64 0,.int .i64 0,.int .i64 0,.int .i64 0,.int .i64 0,.int .i64 0,.int .i64 0,.int .i64 0] 58),pts b4 (.cells (ints .i64 H).toArray 58),pts b3 (.cells (ints .i64 T).toArray 61)] w) ?_ ?_
 ·refine Zaj (α := Nat) (fun i => [(3,.pointer (some ⟨b3,0,none⟩)),(4,.pointer (some ⟨b4,0,none⟩)),(6,.pointer (some ⟨b6,0,none⟩)),(7,.pointer (some ⟨b7,0,none⟩)),(11,.pointer (some ⟨p1,0,none⟩)),(12,.pointer (some ⟨p2,0,none⟩)),(13,.pointer (some ⟨p3,0,none⟩)),(14,.pointer (some ⟨p4,0,none⟩)),(15,.int .i64 (i : Nat))])
   (fun i w => i ≤ 64 ∧ St W noF [two p1 (Zb1 T X H i).a (Zb1 T X H i).b,two p2 (Zb1 T X H i).c (Zb1 T X H i).d,two p3 (Zb1 T X H i).e (Zb1 T X H i).f,two p4 (Zb1 T X H i).g (Zb1 T X H i).h,pts b7 (.cells (ints .i64 X).toArray 59),pts b6 (.cells #[.int .i64 0,.int .i64 0,.int .i64 0,.int .i64 0,.int .i64 0,.int .i64 0,.int .i64 0,.int .i64 0] 58),pts b4 (.cells (ints .i64 H).toArray 58),pts b3 (.cells (ints .i64 T).toArray 61)] w) (fun i => 64 - i) 0
   ⟨rfl,rfl,rfl,rfl,rfl,rfl,rfl,rfl,rfl,trivial⟩ ⟨Nat.zero_le _,hS⟩ ?_
  clear hS
  rintro i w ⟨hi,hS⟩
  obtain ⟨⟨A,B,Cc,D,E,F,G,K⟩,hs⟩ : ∃ s,s = Zb1 T X H i := ⟨_,rfl⟩
  rw [← hs] at hS
  simp only at hS
  by_cases h1 : i < 64
  ·repeat (first|refine Yeg ?_|(refine X_id ?_;first|refine Yaf ?_|refine Yag ?_|refine Ya1 ?_|refine Ycn ?_|refine Yck ?_|refine X_yl (Zup rfl rfl rfl rfl) rfl rfl ?_|refine X_yl (Zrd rfl rfl rfl) rfl rfl ?_|refine X_yl (Z5q rfl rfl rfl) rfl rfl ?_|refine Yd0 ?_|refine Yd1 ?_)|refine Yek ?_|refine Yab ?_)
   refine Zan (.s 0 (.s 1 (.s 2 (.s 3 (.s 5 (.s 6 (.s 9 (.s 10 (.s 14 (.s 16 (.s 17 (.s 18 (.s 19 (.s 21 (.s 22 (.s 23 (.h 4 (.h 7 (.s 8 (.h 11 (.s 12 (.s 13 (.s 15 (.s 20 (.s 24 (.s 25 .nil)))))) .no)) .no) .no))))))))))))))))) mixed (by kernel_rfl) rfl ?_
   have hS := hS.drew
   repeat (first|(refine X_id ?_;first|(refine Zad 169 rfl rfl rfl rfl rfl hS (Ze4 _ 6 _ (by omega)) ?_;rintro _ _ rfl hS)|(refine Zad 169 rfl rfl rfl rfl rfl hS (Ze4 _ 11 _ (by omega)) ?_;rintro _ _ rfl hS)|(refine Zad 169 rfl rfl rfl rfl rfl hS (Ze4 _ 25 _ (by omega)) ?_;rintro _ _ rfl hS))|refine Yae ?_|refine Yab ?_|(refine Zae ?_;first|refine Yaw ?_|refine Ya0 ?_|refine Ybj ?_|refine Ybg ?_|refine Yb5 ?_|refine Yci ?_|refine Yc4 ?_|refine Ycf ?_|refine Yas ?_|refine Yec ?_|refine Za6 (fun w' => w'.cell? _ = some _) rfl rfl (hS.cellO 1 (by omega)) (fun _ hc => Zav rfl rfl hc) rfl rfl ?_)|(refine Zac ?_;first|refine Yax ?_))
   refine Zan (.s 0 (.s 1 (.s 3 (.s 4 (.s 7 (.s 8 (.s 11 (.h 2 (.h 5 (.s 6 (.h 9 (.s 10 (.s 12 (.s 13 .nil))) .no)) .no) .no)))))))) mixed (by kernel_rfl) rfl ?_
   have hS := hS.drew
   repeat (first|refine Yeg ?_|(refine X_id ?_;first|(refine Zad 169 rfl rfl rfl rfl rfl hS (Ze4 _ 2 _ (by omega)) ?_;rintro _ _ rfl hS)|(refine Zad 169 rfl rfl rfl rfl rfl hS (Ze4 _ 13 _ (by omega)) ?_;rintro _ _ rfl hS)|(refine Zad 169 rfl rfl rfl rfl rfl hS (Ze4 _ 22 _ (by omega)) ?_;rintro _ _ rfl hS)|refine Yaf ?_|refine Yag ?_|refine Ycn ?_|refine Yay ?_|refine Yck ?_|refine Ydq ?_|refine Yao (fun _ hS _ => ?_)|refine X_yl (Zhs rfl rfl rfl rfl rfl) rfl rfl ?_|refine Yd0 ?_|refine Yd1 ?_)|refine Yeh ?_|refine Yeo ?_|(refine Zae ?_;first|refine Yaw ?_|refine Ya0 ?_|refine Ybj ?_|refine Yb5 ?_|refine Yci ?_|refine Yc4 ?_|refine Yas ?_|refine Yec ?_)|(refine Zac ?_;first|refine Yax ?_))
   rw [show 8 + (i : Int).toNat * 1 = 8 + i by omega,show 0 + (i : Int).toNat * 1 = i by omega] at hS
   refine Zaf (i + 1) ⟨rfl,rfl,rfl,rfl,rfl,rfl,rfl,rfl,rfl,trivial⟩ ⟨h1,?_⟩ (by omega)
   rw [Zb1,← hs]
   exact hS
  ·obtain rfl : i = 64 := by omega
   repeat (first|refine Yeg ?_|refine Yaf ?_|refine Yaz ?_|refine Yet ?_|refine Yem ?_)
   exact Zbj () ⟨rfl,rfl,rfl,rfl,rfl,rfl,trivial⟩ (by rw [← hs]; exact hS)
 clear hS
 rintro _ w hS
 obtain ⟨s,hs⟩ : ∃ s,s = Zb1 T X H 64 := ⟨_,rfl⟩
 rw [← hs] at hS
 repeat (first|refine Yeg ?_|(refine X_id ?_;first|refine Yag ?_|refine Ycn ?_|refine Yao (fun _ hS _ => ?_)|refine Yar (fun _ _ hS _ => ?_)|refine X_yl (Zhs rfl rfl rfl rfl rfl) rfl rfl ?_|refine Yd0 ?_|refine Yd1 ?_)|refine Yej ?_|refine Yab ?_)
 rename_i b20 _ _ _ w20 _
 replace hS : St W noF [pts b20 (.cells (ints .i64 (sumI s.list H 0)).toArray 58),_,_,_,_,_,pts b6 _,pts b4 (.cells (ints .i64 H).toArray 58),_] w20 := hS
 have hS := hS.pick [0,5,5]
 refine Zaj (α := Nat) (fun i => [(4,.pointer (some ⟨b4,0,none⟩)),(6,.pointer (some ⟨b6,0,none⟩)),(20,.pointer (some ⟨b20,0,none⟩)),(21,.int .i64 (i : Nat))])
  (fun i w => i ≤ 8 ∧ St W noF [pts b20 (.cells (ints .i64 (sumI s.list H i)).toArray 58),pts b6 (.cells #[.int .i64 0,.int .i64 0,.int .i64 0,.int .i64 0,.int .i64 0,.int .i64 0,.int .i64 0,.int .i64 0] 58),pts b4 (.cells (ints .i64 H).toArray 58)] w) (fun i => 8 - i) 0 ⟨rfl,rfl,rfl,rfl,trivial⟩ ⟨Nat.zero_le _,hS⟩ ?_
 clear hS
 rintro i w ⟨hi,hS⟩
 have hll : (sumI s.list H i).length = 8 := by rw [Zkx]; rfl
 obtain ⟨L,hL⟩ : ∃ L,L = sumI s.list H i := ⟨_,rfl⟩
 rw [← hL] at hS hll
 by_cases h1 : i < 8
 ·repeat (first|refine Yeg ?_|refine Yaf ?_|refine Ya1 ?_|refine Yek ?_|refine Yab ?_)
  refine Zan (.s 0 (.s 1 (.s 2 (.s 3 (.s 4 (.s 5 (.s 6 (.s 7 (.s 8 (.s 9 (.h 10 .nil .no))))))))))) mixed (by kernel_rfl) rfl ?_
  have hS := hS.drew
  repeat (first|refine Yeg ?_|refine Yew ?_|refine Yco (fun _ hS => ?_)|refine Yad ?_|refine Yeo ?_|(refine Zae ?_;first|refine Yaw ?_|refine Ya0 ?_|refine Yb5 ?_|refine Yci ?_|refine Ydz ?_|refine Ycf ?_|refine Yas ?_)|(refine Zac ?_;first|refine Yax ?_))
  rw [show 0 + (i : Int).toNat * 1 = i by omega] at hS
  exact Zaf (i + 1) ⟨rfl,rfl,rfl,rfl,trivial⟩ ⟨h1,by rw [sumI,← hL]; exact hS⟩ (by omega)
 ·obtain rfl : i = 8 := by omega
  have hlL : LenO (ints .i64 L) 8 := ⟨by rw [ints_length,hll]⟩
  repeat (first|refine Yeg ?_|refine Yaf ?_|refine Yaz ?_|refine Ybf ?_|refine Yb6 (fun _ hS => ?_)|refine Yep ?_|refine Yeq ?_)
  refine ⟨?_,hS.drops⟩
  rw [Zz9,← hX,← hs,← hL]
end Cr
namespace Cr
open Go Go.Proofs
set_option maxRecDepth 100000
set_option maxHeartbeats 64000000
theorem r2_2 : Zau ((2 : Nat) : Int) 2 = 1779033703 := by kernel_rfl
theorem r2_3 : Zau ((3 : Nat) : Int) 2 = 3144134277 := by kernel_rfl
theorem r2_5 : Zau ((5 : Nat) : Int) 2 = 1013904242 := by kernel_rfl
theorem r2_7 : Zau ((7 : Nat) : Int) 2 = 2773480762 := by kernel_rfl
theorem Qa0 : Zau ((11 : Nat) : Int) 2 = 1359893119 := by kernel_rfl
theorem Qaz : Zau ((13 : Nat) : Int) 2 = 2600822924 := by kernel_rfl
theorem Qay : Zau ((17 : Nat) : Int) 2 = 528734635 := by kernel_rfl
theorem Qax : Zau ((19 : Nat) : Int) 2 = 1541459225 := by kernel_rfl
theorem r3_2 : Zau ((2 : Nat) : Int) 3 = 1116352408 := by kernel_rfl
theorem r3_3 : Zau ((3 : Nat) : Int) 3 = 1899447441 := by kernel_rfl
theorem r3_5 : Zau ((5 : Nat) : Int) 3 = 3049323471 := by kernel_rfl
theorem r3_7 : Zau ((7 : Nat) : Int) 3 = 3921009573 := by kernel_rfl
theorem Qaw : Zau ((11 : Nat) : Int) 3 = 961987163 := by kernel_rfl
theorem Qav : Zau ((13 : Nat) : Int) 3 = 1508970993 := by kernel_rfl
theorem Qau : Zau ((17 : Nat) : Int) 3 = 2453635748 := by kernel_rfl
theorem Qat : Zau ((19 : Nat) : Int) 3 = 2870763221 := by kernel_rfl
theorem Qas : Zau ((23 : Nat) : Int) 3 = 3624381080 := by kernel_rfl
theorem Qar : Zau ((29 : Nat) : Int) 3 = 310598401 := by kernel_rfl
theorem Qaq : Zau ((31 : Nat) : Int) 3 = 607225278 := by kernel_rfl
theorem Qap : Zau ((37 : Nat) : Int) 3 = 1426881987 := by kernel_rfl
theorem Qao : Zau ((41 : Nat) : Int) 3 = 1925078388 := by kernel_rfl
theorem Qan : Zau ((43 : Nat) : Int) 3 = 2162078206 := by kernel_rfl
theorem Qam : Zau ((47 : Nat) : Int) 3 = 2614888103 := by kernel_rfl
theorem Qal : Zau ((53 : Nat) : Int) 3 = 3248222580 := by kernel_rfl
theorem Qak : Zau ((59 : Nat) : Int) 3 = 3835390401 := by kernel_rfl
theorem Qaj : Zau ((61 : Nat) : Int) 3 = 4022224774 := by kernel_rfl
theorem Qai : Zau ((67 : Nat) : Int) 3 = 264347078 := by kernel_rfl
theorem Qah : Zau ((71 : Nat) : Int) 3 = 604807628 := by kernel_rfl
theorem Qag : Zau ((73 : Nat) : Int) 3 = 770255983 := by kernel_rfl
theorem Qaf : Zau ((79 : Nat) : Int) 3 = 1249150122 := by kernel_rfl
theorem Qae : Zau ((83 : Nat) : Int) 3 = 1555081692 := by kernel_rfl
theorem Qad : Zau ((89 : Nat) : Int) 3 = 1996064986 := by kernel_rfl
theorem Qac : Zau ((97 : Nat) : Int) 3 = 2554220882 := by kernel_rfl
theorem Z7v : Zau ((101 : Nat) : Int) 3 = 2821834349 := by kernel_rfl
theorem Z7u : Zau ((103 : Nat) : Int) 3 = 2952996808 := by kernel_rfl
theorem Z7t : Zau ((107 : Nat) : Int) 3 = 3210313671 := by kernel_rfl
theorem Z7s : Zau ((109 : Nat) : Int) 3 = 3336571891 := by kernel_rfl
theorem Z7r : Zau ((113 : Nat) : Int) 3 = 3584528711 := by kernel_rfl
theorem Z7q : Zau ((127 : Nat) : Int) 3 = 113926993 := by kernel_rfl
theorem Z7p : Zau ((131 : Nat) : Int) 3 = 338241895 := by kernel_rfl
theorem Z7o : Zau ((137 : Nat) : Int) 3 = 666307205 := by kernel_rfl
theorem Z7n : Zau ((139 : Nat) : Int) 3 = 773529912 := by kernel_rfl
theorem Z7m : Zau ((149 : Nat) : Int) 3 = 1294757372 := by kernel_rfl
theorem Z7l : Zau ((151 : Nat) : Int) 3 = 1396182291 := by kernel_rfl
theorem Z7k : Zau ((157 : Nat) : Int) 3 = 1695183700 := by kernel_rfl
theorem Z7j : Zau ((163 : Nat) : Int) 3 = 1986661051 := by kernel_rfl
theorem Z7i : Zau ((167 : Nat) : Int) 3 = 2177026350 := by kernel_rfl
theorem Z7h : Zau ((173 : Nat) : Int) 3 = 2456956037 := by kernel_rfl
theorem Z7g : Zau ((179 : Nat) : Int) 3 = 2730485921 := by kernel_rfl
theorem Z7f : Zau ((181 : Nat) : Int) 3 = 2820302411 := by kernel_rfl
theorem Z7e : Zau ((191 : Nat) : Int) 3 = 3259730800 := by kernel_rfl
theorem Z7d : Zau ((193 : Nat) : Int) 3 = 3345764771 := by kernel_rfl
theorem Z7c : Zau ((197 : Nat) : Int) 3 = 3516065817 := by kernel_rfl
theorem Z7b : Zau ((199 : Nat) : Int) 3 = 3600352804 := by kernel_rfl
theorem Z7a : Zau ((211 : Nat) : Int) 3 = 4094571909 := by kernel_rfl
theorem Z69 : Zau ((223 : Nat) : Int) 3 = 275423344 := by kernel_rfl
theorem Z68 : Zau ((227 : Nat) : Int) 3 = 430227734 := by kernel_rfl
theorem Z67 : Zau ((229 : Nat) : Int) 3 = 506948616 := by kernel_rfl
theorem Z66 : Zau ((233 : Nat) : Int) 3 = 659060556 := by kernel_rfl
theorem Z65 : Zau ((239 : Nat) : Int) 3 = 883997877 := by kernel_rfl
theorem Z64 : Zau ((241 : Nat) : Int) 3 = 958139571 := by kernel_rfl
theorem Z63 : Zau ((251 : Nat) : Int) 3 = 1322822218 := by kernel_rfl
theorem Z62 : Zau ((257 : Nat) : Int) 3 = 1537002063 := by kernel_rfl
theorem Z61 : Zau ((263 : Nat) : Int) 3 = 1747873779 := by kernel_rfl
theorem Z60 : Zau ((269 : Nat) : Int) 3 = 1955562222 := by kernel_rfl
theorem Z6z : Zau ((271 : Nat) : Int) 3 = 2024104815 := by kernel_rfl
theorem Z6y : Zau ((277 : Nat) : Int) 3 = 2227730452 := by kernel_rfl
theorem Z6x : Zau ((281 : Nat) : Int) 3 = 2361852424 := by kernel_rfl
theorem Z6w : Zau ((283 : Nat) : Int) 3 = 2428436474 := by kernel_rfl
theorem Z6v : Zau ((293 : Nat) : Int) 3 = 2756734187 := by kernel_rfl
theorem Z6u : Zau ((307 : Nat) : Int) 3 = 3204031479 := by kernel_rfl
theorem Z6t : Zau ((311 : Nat) : Int) 3 = 3329325298 := by kernel_rfl
def primes : List Nat := [2,3,5,7,11,13,17,19,23,29,31,37,41,43,47,53,59,61,67,71,73,79,83,89,97,101,103,107,109,113,127,131,137,139,149,151,157,163,167,173,179,181,191,193,197,199,211,223,227,229,233,239,241,251,257,263,269,271,277,281,283,293,307,311]
def Zxt (p : Nat) : List Nat → List Int → Int
 | q :: qs,x :: xs => if p = q then x else Zxt p qs xs
 | _,_ => 0
def Zix (f g : Nat → Int) : Nat → List Int
 | 0 => List.replicate 72 0
 | m + 1 =>
  if Zfh (2 + m) (2 + m) = 2 then (if nTo m < 8 then (Zix f g m).set (nTo m) (f (2 + m)) else Zix f g m).set (8 + nTo m) (g (2 + m)) else Zix f g m
theorem Zmj {f g : Nat → Int} : ∀ m,(∀ k,k < m → Zfh (2 + k) (2 + k) = 2 → (nTo k < 8 → Zau ((2 + k : Nat) : Int) 2 = f (2 + k)) ∧ Zau ((2 + k : Nat) : Int) 3 = g (2 + k)) → Zc7 m = Zix f g m
 | 0,_ => rfl
 | m + 1,h => by
  have ih := Zmj m fun k hk => h k (by omega)
  unfold Zc7 Zix
  rw [ih]
  by_cases h1 : Zfh (2 + m) (2 + m) = 2
  ·rw [if_pos h1,if_pos h1,(h m (by omega) h1).2]
   by_cases h2 : nTo m < 8
   ·rw [if_pos h2,if_pos h2,(h m (by omega) h1).1 h2]
   ·rw [if_neg h2,if_neg h2]
  ·rw [if_neg h1,if_neg h1]
def Zxm (k : Nat) : Bool := !(decide (Zfh (2 + k) (2 + k) = 2)) || primes.contains (2 + k)
def Zyn (k : Nat) : Bool := !(decide (Zfh (2 + k) (2 + k) = 2)) || !(decide (nTo k < 8)) || (primes.take 8).contains (2 + k)
theorem Zvl : (List.range 310).all Zxm = true := by kernel_rfl
theorem Zym : (List.range 310).all Zyn = true := by kernel_rfl
theorem Z0s : ∀ p ∈ primes,Zau (p : Int) 3 = Zxt p primes roundL := by
 intro p hp
 simp only [primes,List.mem_cons,List.not_mem_nil,or_false] at hp
 rcases hp with rfl | rfl | rfl | rfl | rfl | rfl | rfl | rfl | rfl | rfl | rfl | rfl | rfl | rfl | rfl | rfl | rfl | rfl | rfl | rfl | rfl | rfl | rfl | rfl | rfl | rfl | rfl | rfl | rfl | rfl | rfl | rfl | rfl | rfl | rfl | rfl | rfl | rfl | rfl | rfl | rfl | rfl | rfl | rfl | rfl | rfl | rfl | rfl | rfl | rfl | rfl | rfl | rfl | rfl | rfl | rfl | rfl | rfl | rfl | rfl | rfl | rfl | rfl | rfl
 ·exact r3_2
 ·exact r3_3
 ·exact r3_5
 ·exact r3_7
 ·exact Qaw
 ·exact Qav
 ·exact Qau
 ·exact Qat
 ·exact Qas
 ·exact Qar
 ·exact Qaq
 ·exact Qap
 ·exact Qao
 ·exact Qan
 ·exact Qam
 ·exact Qal
 ·exact Qak
 ·exact Qaj
 ·exact Qai
 ·exact Qah
 ·exact Qag
 ·exact Qaf
 ·exact Qae
 ·exact Qad
 ·exact Qac
 ·exact Z7v
 ·exact Z7u
 ·exact Z7t
 ·exact Z7s
 ·exact Z7r
 ·exact Z7q
 ·exact Z7p
 ·exact Z7o
 ·exact Z7n
 ·exact Z7m
 ·exact Z7l
 ·exact Z7k
 ·exact Z7j
 ·exact Z7i
 ·exact Z7h
 ·exact Z7g
 ·exact Z7f
 ·exact Z7e
 ·exact Z7d
 ·exact Z7c
 ·exact Z7b
 ·exact Z7a
 ·exact Z69
 ·exact Z68
 ·exact Z67
 ·exact Z66
 ·exact Z65
 ·exact Z64
 ·exact Z63
 ·exact Z62
 ·exact Z61
 ·exact Z60
 ·exact Z6z
 ·exact Z6y
 ·exact Z6x
 ·exact Z6w
 ·exact Z6v
 ·exact Z6u
 ·exact Z6t
theorem Z0t : ∀ p ∈ primes.take 8,Zau (p : Int) 2 = Zxt p primes firstL := by
 intro p hp
 simp only [primes,List.take_succ_cons,List.take_zero,List.mem_cons,List.not_mem_nil,or_false] at hp
 rcases hp with rfl | rfl | rfl | rfl | rfl | rfl | rfl | rfl
 ·exact r2_2
 ·exact r2_3
 ·exact r2_5
 ·exact r2_7
 ·exact Qa0
 ·exact Qaz
 ·exact Qay
 ·exact Qax
theorem Z3f : Zix (fun p => Zxt p primes firstL) (fun p => Zxt p primes roundL) 310 = firstL ++ roundL := by kernel_rfl
theorem Z0h : Zc7 310 = firstL ++ roundL := by
 rw [← Z3f]
 refine Zmj 310 fun k hk hd => ⟨fun hn => ?_,?_⟩
 ·have := List.all_eq_true.1 Zym k (List.mem_range.2 hk)
  unfold Zyn at this
  rw [decide_eq_true hd,decide_eq_true hn] at this
  exact Z0t _ (List.contains_iff_mem.1 (by simpa using this))
 ·have := List.all_eq_true.1 Zvl k (List.mem_range.2 hk)
  unfold Zxm at this
  rw [decide_eq_true hd] at this
  exact Z0s _ (List.contains_iff_mem.1 (by simpa using this))
end Cr
namespace Cr
open Go
set_option maxHeartbeats 64000000
theorem Zsz {n : Nat} (h : n < 4294967296) : IntKind.u32.wrap (n : Int) = n := by rw [IntKind.wrap_u32]; omega
theorem Zmf (n : Nat) : IntKind.u32.wrap (n : Int) = ((n % 4294967296 : Nat) : Int) := by rw [IntKind.wrap_u32]; omega
theorem Zpb {n : Nat} (h : n < 9223372036854775808) : IntKind.i64.wrap (n : Int) = n := by rw [IntKind.wrap_i64]; omega
theorem Zx8 {x y : Nat} (hx : x < 4294967296) (hy : y < 4294967296) : iand .u32 (x : Int) (y : Int) = ((x &&& y : Nat) : Int) := by
 unfold iand
 rw [BitVec.ofInt_natCast,BitVec.ofInt_natCast,BitVec.toNat_and,BitVec.toNat_ofNat,BitVec.toNat_ofNat,show IntKind.u32.bits = 32 from rfl,Nat.mod_eq_of_lt hx,Nat.mod_eq_of_lt hy]
 exact Zsz (Nat.lt_of_le_of_lt Nat.and_le_left hx)
theorem Zvv {x y : Nat} (hx : x < 4294967296) (hy : y < 4294967296) : ior .u32 (x : Int) (y : Int) = ((x ||| y : Nat) : Int) := by
 unfold ior
 rw [BitVec.ofInt_natCast,BitVec.ofInt_natCast,BitVec.toNat_or,BitVec.toNat_ofNat,BitVec.toNat_ofNat,show IntKind.u32.bits = 32 from rfl,Nat.mod_eq_of_lt hx,Nat.mod_eq_of_lt hy]
 exact Zsz (Nat.or_lt_two_pow (n := 32) hx hy)
theorem Zm8 {x y : Nat} (hx : x < 4294967296) (hy : y < 4294967296) : ixor .u32 (x : Int) (y : Int) = ((x ^^^ y : Nat) : Int) := by
 unfold ixor
 rw [BitVec.ofInt_natCast,BitVec.ofInt_natCast,BitVec.toNat_xor,BitVec.toNat_ofNat,BitVec.toNat_ofNat,show IntKind.u32.bits = 32 from rfl,Nat.mod_eq_of_lt hx,Nat.mod_eq_of_lt hy]
 exact Zsz (Nat.xor_lt_two_pow (n := 32) hx hy)
theorem Zqe {x y : Nat} (hx : x < 9223372036854775808) (hy : y < 9223372036854775808) : iand .i64 (x : Int) (y : Int) = ((x &&& y : Nat) : Int) := by
 unfold iand
 rw [BitVec.ofInt_natCast,BitVec.ofInt_natCast,BitVec.toNat_and,BitVec.toNat_ofNat,BitVec.toNat_ofNat,show IntKind.i64.bits = 64 from rfl,Nat.mod_eq_of_lt (by omega),Nat.mod_eq_of_lt (by omega)]
 exact Zpb (by have := Nat.and_le_left (n := x) (m := y); omega)
theorem Z8i {x y : Nat} (hx : x < 4294967296) (hy : y < 4294967296) : ior .i64 (x : Int) (y : Int) = ((x ||| y : Nat) : Int) := by
 unfold ior
 rw [BitVec.ofInt_natCast,BitVec.ofInt_natCast,BitVec.toNat_or,BitVec.toNat_ofNat,BitVec.toNat_ofNat,show IntKind.i64.bits = 64 from rfl,Nat.mod_eq_of_lt (by omega),Nat.mod_eq_of_lt (by omega)]
 exact Zpb (by have := Nat.or_lt_two_pow (n := 32) hx hy; omega)
theorem Zt0 {x y : Nat} (hx : x < 4294967296) (hy : y < 4294967296) : ixor .i64 (x : Int) (y : Int) = ((x ^^^ y : Nat) : Int) := by
 unfold ixor
 rw [BitVec.ofInt_natCast,BitVec.ofInt_natCast,BitVec.toNat_xor,BitVec.toNat_ofNat,BitVec.toNat_ofNat,show IntKind.i64.bits = 64 from rfl,Nat.mod_eq_of_lt (by omega),Nat.mod_eq_of_lt (by omega)]
 exact Zpb (by have := Nat.xor_lt_two_pow (n := 32) hx hy; omega)
theorem Zm9 {k : IntKind} (x n : Nat) (hn : n ≤ k.bits) : ishr k (x : Int) n = ((x / 2 ^ n : Nat) : Int) := by
 unfold ishr
 rw [Nat.min_eq_left hn,Int.fdiv_eq_ediv_of_nonneg _ (by exact_mod_cast Nat.zero_le _)]
 exact_mod_cast rfl
theorem Zt3 {x n : Nat} (hn : n ≤ 64) (h : x * 2 ^ n < 9223372036854775808) : ishl .i64 (x : Int) n = ((x * 2 ^ n : Nat) : Int) := by
 unfold ishl
 rw [show min n IntKind.i64.bits = n from Nat.min_eq_left hn]
 have e : (x : Int) * 2 ^ n = ((x * 2 ^ n : Nat) : Int) := by push_cast; rfl
 rw [e]; exact Zpb h
theorem Zt1 {x n : Nat} (hn : n ≤ 32) : ishl .u32 (x : Int) n = ((x * 2 ^ n % 4294967296 : Nat) : Int) := by
 unfold ishl
 rw [show min n IntKind.u32.bits = n from Nat.min_eq_left hn]
 have e : (x : Int) * 2 ^ n = ((x * 2 ^ n : Nat) : Int) := by push_cast; rfl
 rw [e]; exact Zmf _
def rotr (x n : Nat) : Nat := x / 2 ^ n + x % 2 ^ n * 2 ^ (32 - n)
theorem Zz8 {n : Nat} (hn : n ≤ 32) : 2 ^ n * 2 ^ (32 - n) = 4294967296 := by rw [← Nat.pow_add,show n + (32 - n) = 32 by omega]
theorem Za9 {x n : Nat} (hx : x < 4294967296) (hn : n ≤ 32) : rotr x n < 4294967296 := by
 unfold rotr
 have h1 : x % 2 ^ n + 1 ≤ 2 ^ n := Nat.mod_lt _ (Nat.two_pow_pos n)
 have h2 := Nat.mul_le_mul_right (2 ^ (32 - n)) h1
 rw [Zz8 hn,Nat.add_mul,Nat.one_mul] at h2
 have h3 : x / 2 ^ n < 2 ^ (32 - n) := by
  rw [Nat.div_lt_iff_lt_mul (Nat.two_pow_pos n),Nat.mul_comm,Zz8 hn]; exact hx
 omega
theorem Z3z {x n : Nat} (hn : n ≤ 32) : x * 2 ^ (32 - n) % 4294967296 = x % 2 ^ n * 2 ^ (32 - n) := by
 conv => lhs; rw [← Zz8 hn]
 exact Nat.mul_mod_mul_right _ _ _
theorem Zpq {x n : Nat} (hx : x < 4294967296) (hn : n ≤ 32) : spin (x : Int) n = ((rotr x n : Nat) : Int) := by
 unfold spin
 rw [Zm9 (k := .u32) x n hn,Zt1 (show 32 - n ≤ 32 by omega),Z3z hn]
 have h3 : x / 2 ^ n < 2 ^ (32 - n) := by
  rw [Nat.div_lt_iff_lt_mul (Nat.two_pow_pos n),Nat.mul_comm,Zz8 hn]; exact hx
 have h4 : x % 2 ^ n * 2 ^ (32 - n) < 4294967296 := Nat.lt_of_le_of_lt (Nat.le_add_left _ _) (Za9 hx hn)
 rw [Zvv (Nat.lt_of_le_of_lt (Nat.div_le_self _ _) hx) h4]
 congr 1
 unfold rotr
 rw [Nat.or_comm,Nat.mul_comm,← Nat.two_pow_add_eq_or_of_lt h3,Nat.add_comm]
theorem Zxu {e : Nat} (he : e < 4294967296) (i : Nat) : (4294967295 - e).testBit i = (decide (i < 32) && !e.testBit i) := by
 have := Nat.testBit_two_pow_sub_succ (n := 32) (x := e) (by simpa using he) i
 rw [← this]
 congr 1
 omega
theorem Zyz {e f g : Nat} (he : e < 4294967296) (hf : f < 4294967296) (hg : g < 4294967296) : (e &&& f) + ((4294967295 - e) &&& g) = g ^^^ (e &&& (f ^^^ g)) := by
 have hd : (e &&& f) &&& ((4294967295 - e) &&& g) = 0 := by
  apply Nat.eq_of_testBit_eq
  intro i
  simp only [Nat.testBit_and,Zxu he,Nat.zero_testBit]
  cases e.testBit i <;> simp
 have h1 := Nat.and_le_left (n := e) (m := f)
 have h2 := Nat.and_le_right (n := 4294967295 - e) (m := g)
 have key := BitVec.add_eq_or_of_and_eq_zero (BitVec.ofNat 33 (e &&& f)) (BitVec.ofNat 33 ((4294967295 - e) &&& g)) (by
  apply BitVec.eq_of_toNat_eq
  rw [BitVec.toNat_and,BitVec.toNat_ofNat,BitVec.toNat_ofNat,Nat.mod_eq_of_lt (by omega),Nat.mod_eq_of_lt (by omega),hd]; rfl)
 have key2 := congrArg BitVec.toNat key
 rw [BitVec.toNat_add,BitVec.toNat_or,BitVec.toNat_ofNat,BitVec.toNat_ofNat,Nat.mod_eq_of_lt (a := e &&& f) (by omega),Nat.mod_eq_of_lt (a := (4294967295 - e) &&& g) (by omega),Nat.mod_eq_of_lt (by omega)] at key2
 rw [key2]
 apply Nat.eq_of_testBit_eq
 intro i
 simp only [Nat.testBit_or,Nat.testBit_and,Nat.testBit_xor,Zxu he]
 rcases Nat.lt_or_ge i 32 with hi | hi
 ·cases e.testBit i <;> cases f.testBit i <;> cases g.testBit i <;> simp [hi]
 ·have hb : ∀ {x : Nat},x < 4294967296 → x.testBit i = false := fun {x} hx => Nat.testBit_lt_two_pow (Nat.lt_of_lt_of_le hx (Nat.pow_le_pow_right (n := 2) (by omega) hi))
  simp [hb he,hb hf,hb hg]
theorem Z4n (a b c : Nat) : (a &&& b) ||| (a &&& c) ||| (b &&& c) = (a &&& b) ||| (c &&& (a ||| b)) := by
 apply Nat.eq_of_testBit_eq
 intro i
 simp only [Nat.testBit_or,Nat.testBit_and]
 cases a.testBit i <;> cases b.testBit i <;> cases c.testBit i <;> rfl
end Cr
namespace Cr
open Go
set_option maxRecDepth 10000
set_option maxHeartbeats 64000000
def m32 (n : Nat) : Nat := n % 4294967296
theorem Zts (n : Nat) : m32 n < 4294967296 := Nat.mod_lt _ (by omega)
theorem Z90 (n : Nat) : u32 (n : Int) = (m32 n : Nat) := by unfold u32 m32; exact Zmf n
theorem Zbz {x y : Int} {a b : Nat} (hx : x = a) (hy : y = b) : u32 (x + y) = (m32 (a + b) : Nat) := by
 subst hx hy
 rw [show (a : Int) + (b : Int) = ((a + b : Nat) : Int) by omega]
 exact Z90 _
def s3 (x p q r : Nat) : Nat := rotr x p ^^^ rotr x q ^^^ rotr x r
def s2 (x p q r : Nat) : Nat := rotr x p ^^^ rotr x q ^^^ x / 2 ^ r
theorem Z6h {x p q r : Nat} (hx : x < 4294967296) (hp : p ≤ 32) (hq : q ≤ 32) (hr : r ≤ 32) : s3 x p q r < 4294967296 :=
 Nat.xor_lt_two_pow (n := 32) (Nat.xor_lt_two_pow (n := 32) (Za9 hx hp) (Za9 hx hq)) (Za9 hx hr)
theorem Z6i {x p q r : Nat} (hx : x < 4294967296) (hp : p ≤ 32) (hq : q ≤ 32) : s2 x p q r < 4294967296 :=
 Nat.xor_lt_two_pow (n := 32) (Nat.xor_lt_two_pow (n := 32) (Za9 hx hp) (Za9 hx hq)) (Nat.lt_of_le_of_lt (Nat.div_le_self _ _) hx)
theorem Z2k {x p q r : Nat} (hx : x < 4294967296) (hp : p ≤ 32) (hq : q ≤ 32) (hr : r ≤ 32) : sig3 (x : Int) p q r = (s3 x p q r : Nat) := by
 unfold sig3
 rw [Zpq hx hp,Zpq hx hq,Zpq hx hr,Zm8 (Za9 hx hp) (Za9 hx hq),Zm8 (Nat.xor_lt_two_pow (n := 32) (Za9 hx hp) (Za9 hx hq)) (Za9 hx hr)]; rfl
theorem Z6b {x p q r : Nat} (hx : x < 4294967296) (hp : p ≤ 32) (hq : q ≤ 32) (hr : r ≤ 32) : sig (x : Int) p q r = (s2 x p q r : Nat) := by
 unfold sig
 rw [Zpq hx hp,Zpq hx hq,Zm9 (k := .u32) x r hr,Zm8 (Za9 hx hp) (Za9 hx hq),Zm8 (Nat.xor_lt_two_pow (n := 32) (Za9 hx hp) (Za9 hx hq)) (Nat.lt_of_le_of_lt (Nat.div_le_self _ _) hx)]; rfl
def ch (e f g : Nat) : Nat := g ^^^ (e &&& (f ^^^ g))
def mj (a b c : Nat) : Nat := (a &&& b) ||| (c &&& (a ||| b))
theorem Z9a {e f g : Nat} (he : e < 4294967296) (hg : g < 4294967296) : ch e f g < 4294967296 := Nat.xor_lt_two_pow (n := 32) hg (Nat.lt_of_le_of_lt Nat.and_le_left he)
theorem Qa4 {a b c : Nat} (ha : a < 4294967296) (hc : c < 4294967296) : mj a b c < 4294967296 := Nat.or_lt_two_pow (n := 32) (Nat.lt_of_le_of_lt Nat.and_le_left ha) (Nat.lt_of_le_of_lt Nat.and_le_left hc)
structure N8 where
 a : Nat
 b : Nat
 c : Nat
 d : Nat
 e : Nat
 f : Nat
 g : Nat
 h : Nat
structure N8.ok (s : N8) : Prop where
 a : s.a < 4294967296
 b : s.b < 4294967296
 c : s.c < 4294967296
 d : s.d < 4294967296
 e : s.e < 4294967296
 f : s.f < 4294967296
 g : s.g < 4294967296
 h : s.h < 4294967296
def N8.x (s : N8) (k w : Nat) : Nat := s.h + s3 s.e 6 11 25 + ch s.e s.f s.g + k + w
def N8.y (s : N8) : Nat := s3 s.a 2 13 22 + mj s.a s.b s.c
def N8.next (s : N8) (k w : Nat) : N8 := ⟨m32 (s.x k w + s.y),s.a,s.b,s.c,m32 (s.d + s.x k w),s.e,s.f,s.g⟩
theorem N8.next_ok {s : N8} (h : s.ok) (k w : Nat) : (s.next k w).ok := ⟨Zts _,h.a,h.b,h.c,Zts _,h.e,h.f,h.g⟩
structure Sees (V : List Int) (i : Nat) (s : N8) : Prop where
 len : V.length = 8
 a : V.getD (spot 0 i) 0 = s.a
 b : V.getD (spot 1 i) 0 = s.b
 c : V.getD (spot 2 i) 0 = s.c
 d : V.getD (spot 3 i) 0 = s.d
 e : V.getD (spot 4 i) 0 = s.e
 f : V.getD (spot 5 i) 0 = s.f
 g : V.getD (spot 6 i) 0 = s.g
 h : V.getD (spot 7 i) 0 = s.h
theorem Zih {V : List Int} {k : Nat} {x : Int} (h : k < V.length) : (V.set k x).getD k 0 = x := by simp [List.getD_eq_getElem?_getD,h]
theorem Zat {V : List Int} {k m : Nat} {x : Int} (h : k ≠ m) : (V.set k x).getD m 0 = V.getD m 0 := by simp [List.getD_eq_getElem?_getD,h]
theorem Zrr {k m : Int} (i : Nat) (hk : 0 ≤ k) (hm : 0 ≤ m) (hk' : k < 8) (hm' : m < 8) (h : k ≠ m) : spot k i ≠ spot m i := by unfold spot; omega
theorem Zeg (k : Int) (i : Nat) : spot (k + 1) (i + 1) = spot k i := by unfold spot; congr 2; omega
theorem Zw8 (i : Nat) : spot 0 (i + 1) = spot 7 i := by unfold spot; omega
theorem Z8b {rd w V : List Int} {i k x : Nat} {s : N8} (hs : s.ok) (hv : Sees V i s) (hk : rd.getD i 0 = k) (hw : w.getD i 0 = x) : mixT rd w V i = (m32 (s.x k x) : Nat) := by
 unfold mixT
 simp only
 rw [show (i : Int).toNat * 1 = i by omega,show 0 + i = i by omega,hv.e,hv.f,hv.g,hv.h,hk,hw,Z2k hs.e (by omega) (by omega) (by omega),Zm8 hs.f hs.g,Zx8 hs.e (Nat.xor_lt_two_pow (n := 32) hs.f hs.g),
  Zm8 hs.g (Nat.lt_of_le_of_lt Nat.and_le_left hs.e),Zbz rfl rfl,Zbz rfl rfl,Zbz rfl rfl,Zbz rfl rfl]
 congr 1
 show m32 (m32 (m32 (m32 (s.h + s3 s.e 6 11 25) + ch s.e s.f s.g) + k) + x) = m32 (s.h + s3 s.e 6 11 25 + ch s.e s.f s.g + k + x)
 unfold m32
 omega
theorem Zxy {rd w V : List Int} {i k x : Nat} {s : N8} (hs : s.ok) (hv : Sees V i s) (hk : rd.getD i 0 = k) (hw : w.getD i 0 = x) : Sees (Zhh rd w V i) (i + 1) (s.next k x) := by
 have ht := Z8b hs hv hk hw
 have hl : ∀ k,spot k i < V.length := fun k => by rw [hv.len]; exact Z3w k i
 have hU : mixU rd w V i = V.set (spot 3 i) ((m32 (s.d + s.x k x) : Nat) : Int) := by
  unfold mixU
  rw [hv.d,ht,Zbz rfl rfl]
  congr 2
  unfold m32; omega
 have hS : Zhh rd w V i = (V.set (spot 3 i) ((m32 (s.d + s.x k x) : Nat) : Int)).set (spot 7 i) ((m32 (s.x k x + s.y) : Nat) : Int) := by
  unfold Zhh
  simp only
  rw [hU,Zat (Zrr i (by omega) (by omega) (by omega) (by omega) (by omega)),Zat (Zrr i (by omega) (by omega) (by omega) (by omega) (by omega)),hv.a,hv.b,hv.c,ht,Z2k hs.a (by omega) (by omega) (by omega),
   Zx8 hs.a hs.b,Zvv hs.a hs.b,Zx8 hs.c (Nat.or_lt_two_pow (n := 32) hs.a hs.b),Zvv (Nat.lt_of_le_of_lt Nat.and_le_left hs.a) (Nat.lt_of_le_of_lt Nat.and_le_left hs.c),Zbz rfl rfl,Zbz rfl rfl]
  congr 2
  show m32 (m32 (m32 (s.x k x) + s3 s.a 2 13 22) + mj s.a s.b s.c) = m32 (s.x k x + (s3 s.a 2 13 22 + mj s.a s.b s.c))
  unfold m32; omega
 rw [hS]
 have hn : ∀ {p q : Int},0 ≤ p → 0 ≤ q → p < 8 → q < 8 → p ≠ q → spot p i ≠ spot q i := fun h1 h2 h3 h4 h5 => Zrr i h1 h2 h3 h4 h5
 refine ⟨by simp [hv.len],?_,?_,?_,?_,?_,?_,?_,?_⟩
 ·rw [Zw8,Zih (by rw [List.length_set]; exact hl 7)]; rfl
 ·rw [show (1 : Int) = 0 + 1 from rfl,Zeg,Zat (hn (by omega) (by omega) (by omega) (by omega) (by omega)),Zat (hn (by omega) (by omega) (by omega) (by omega) (by omega)),hv.a]; rfl
 ·rw [show (2 : Int) = 1 + 1 from rfl,Zeg,Zat (hn (by omega) (by omega) (by omega) (by omega) (by omega)),Zat (hn (by omega) (by omega) (by omega) (by omega) (by omega)),hv.b]; rfl
 ·rw [show (3 : Int) = 2 + 1 from rfl,Zeg,Zat (hn (by omega) (by omega) (by omega) (by omega) (by omega)),Zat (hn (by omega) (by omega) (by omega) (by omega) (by omega)),hv.c]; rfl
 ·rw [show (4 : Int) = 3 + 1 from rfl,Zeg,Zat (hn (by omega) (by omega) (by omega) (by omega) (by omega)),Zih (hl 3)]; rfl
 ·rw [show (5 : Int) = 4 + 1 from rfl,Zeg,Zat (hn (by omega) (by omega) (by omega) (by omega) (by omega)),Zat (hn (by omega) (by omega) (by omega) (by omega) (by omega)),hv.e]; rfl
 ·rw [show (6 : Int) = 5 + 1 from rfl,Zeg,Zat (hn (by omega) (by omega) (by omega) (by omega) (by omega)),Zat (hn (by omega) (by omega) (by omega) (by omega) (by omega)),hv.f]; rfl
 ·rw [show (7 : Int) = 6 + 1 from rfl,Zeg,Zat (hn (by omega) (by omega) (by omega) (by omega) (by omega)),Zat (hn (by omega) (by omega) (by omega) (by omega) (by omega)),hv.g]; rfl
theorem iw_n {n : Nat} (h : n < 9223372036854775808) : iw (n : Int) = n := Zpb h
theorem Zdx {x y : Int} {a b : Nat} (hx : x = a) (hy : y = b) (h : a + b < 9223372036854775808) : iw (x + y) = ((a + b : Nat) : Int) := by
 subst hx hy
 rw [show (a : Int) + (b : Int) = ((a + b : Nat) : Int) by omega]
 exact iw_n h
theorem Zkv {x n : Nat} (hx : x < 4294967296) (hn : n ≤ 32) : Znz (x : Int) n = (rotr x n : Nat) := by
 have hp : 0 < 2 ^ n := Nat.two_pow_pos n
 have h1 : (x : Int).tmod (2 ^ n) = ((x % 2 ^ n : Nat) : Int) := by
  rw [Int.tmod_eq_emod_of_nonneg (by omega)]
  exact_mod_cast rfl
 have h2 : x % 2 ^ n * 2 ^ (32 - n) < 4294967296 := Nat.lt_of_le_of_lt (Nat.le_add_left _ _) (Za9 hx hn)
 unfold Znz
 rw [Zt2 n hn,h1,Zm9 (k := .i64) x n (by show n ≤ 64; omega),Zt3 (by omega) (by omega)]
 exact Zdx rfl rfl (by have := Za9 hx hn; unfold rotr at this; omega)
theorem Zw9 {x p q r : Nat} (hx : x < 4294967296) (hp : p ≤ 32) (hq : q ≤ 32) (hr : r ≤ 32) : Zva (x : Int) p q r = (s3 x p q r : Nat) := by
 unfold Zva
 rw [Zkv hx hp,Zkv hx hq,Zkv hx hr,Zt0 (Za9 hx hp) (Za9 hx hq),Zt0 (Nat.xor_lt_two_pow (n := 32) (Za9 hx hp) (Za9 hx hq)) (Za9 hx hr)]; rfl
theorem Z2j {x p q r : Nat} (hx : x < 4294967296) (hp : p ≤ 32) (hq : q ≤ 32) (hr : r ≤ 32) : sigI (x : Int) p q r = (s2 x p q r : Nat) := by
 unfold sigI
 rw [Zkv hx hp,Zkv hx hq,Zm9 (k := .i64) x r (by show r ≤ 64; omega),Zt0 (Za9 hx hp) (Za9 hx hq),Zt0 (Nat.xor_lt_two_pow (n := 32) (Za9 hx hp) (Za9 hx hq)) (Nat.lt_of_le_of_lt (Nat.div_le_self _ _) hx)]; rfl
def N8.up (s : N8) : E8 := ⟨s.a,s.b,s.c,s.d,s.e,s.f,s.g,s.h⟩
theorem Zs6 (n : Nat) : (n : Int).tmod 4294967296 = (m32 n : Nat) := by rw [Int.tmod_eq_emod_of_nonneg (by omega)]; unfold m32; omega
theorem N8.x_lt {s : N8} (h : s.ok) {k w : Nat} (hk : k < 4294967296) (hw : w < 4294967296) : s.x k w < 21474836480 := by
 have h1 := Z6h (x := s.e) (p := 6) (q := 11) (r := 25) h.e (by omega) (by omega) (by omega)
 have h2 := Z9a (f := s.f) h.e h.g
 have h3 := h.h
 unfold N8.x; omega
theorem N8.y_lt {s : N8} (h : s.ok) : s.y < 8589934592 := by
 have h1 := Z6h (x := s.a) (p := 2) (q := 13) (r := 22) h.a (by omega) (by omega) (by omega)
 have h2 := Qa4 (b := s.b) h.a h.c
 unfold N8.y; omega
theorem Z3t {T X : List Int} {i k w : Nat} {s : N8} (hs : s.ok) (hk : T.getD (8 + i) 0 = k) (hw : X.getD i 0 = w) (hk' : k < 4294967296) (hw' : w < 4294967296) : Z3u T X i s.up = (s.x k w : Nat) := by
 have hx := N8.x_lt hs hk' hw'
 have hc := Zyz hs.e hs.f hs.g
 have h2 := Z9a (f := s.f) hs.e hs.g
 unfold N8.x at hx
 have e1 : iw (4294967295 - (s.e : Int)) = ((4294967295 - s.e : Nat) : Int) := by
  have := hs.e
  rw [show (4294967295 : Int) - (s.e : Int) = ((4294967295 - s.e : Nat) : Int) by omega]
  exact iw_n (by omega)
 have e2 : iw (iand .i64 (s.e : Int) (s.f : Int) + iand .i64 (iw (4294967295 - (s.e : Int))) (s.g : Int)) = (ch s.e s.f s.g : Nat) := by
  have a1 := hs.e
  have a2 := hs.f
  have a3 := hs.g
  rw [e1,Zqe (by omega) (by omega),Zqe (by omega) (by omega),Zdx rfl rfl (by rw [hc]; unfold ch at h2; omega),hc]; rfl
 show iw (iw (iw (iw ((s.h : Int) + Zva (s.e : Int) 6 11 25) + iw (iand .i64 (s.e : Int) (s.f : Int) + iand .i64 (iw (4294967295 - (s.e : Int))) (s.g : Int))) + T.getD (8 + i) 0) + X.getD i 0) = _
 rw [e2,hk,hw,Zw9 hs.e (by omega) (by omega) (by omega),Zdx rfl rfl (by omega),Zdx rfl rfl (by omega),Zdx rfl rfl (by omega),Zdx rfl rfl (by omega)]
 rfl
theorem Z3s {s : N8} (hs : s.ok) : Z58 s.up = (s.y : Nat) := by
 have hy := N8.y_lt hs
 have a1 := hs.a
 have a2 := hs.b
 have a3 := hs.c
 have l1 := Nat.and_le_left (n := s.a) (m := s.b)
 have l2 := Nat.and_le_left (n := s.a) (m := s.c)
 have l3 := Nat.and_le_left (n := s.b) (m := s.c)
 show iw (Zva (s.a : Int) 2 13 22 + ior .i64 (ior .i64 (iand .i64 (s.a : Int) (s.b : Int)) (iand .i64 (s.a : Int) (s.c : Int))) (iand .i64 (s.b : Int) (s.c : Int))) = _
 rw [Zw9 hs.a (by omega) (by omega) (by omega),Zqe (by omega) (by omega),Zqe (by omega) (by omega),Zqe (by omega) (by omega),Z8i (by omega) (by omega),Z8i (Nat.or_lt_two_pow (n := 32) (by omega) (by omega)) (by omega),Z4n]
 have hy' : s3 s.a 2 13 22 + mj s.a s.b s.c < 8589934592 := hy
 exact Zdx (b := mj s.a s.b s.c) rfl rfl (by omega)
theorem Zu3 {T X : List Int} {i k w : Nat} {s : N8} (hs : s.ok) (hk : T.getD (8 + i) 0 = k) (hw : X.getD i 0 = w) (hk' : k < 4294967296) (hw' : w < 4294967296) : Zny T X i s.up = (s.next k w).up := by
 have h1 := N8.x_lt hs hk' hw'
 have h2 := N8.y_lt hs
 have h3 := hs.d
 unfold Zny
 rw [Z3t hs hk hw hk' hw',Z3s hs,Zdx rfl rfl (by omega),Zs6]
 have e : iw (s.up.d + ((s.x k w : Nat) : Int)) = ((s.d + s.x k w : Nat) : Int) := Zdx rfl rfl (by omega)
 rw [e,Zs6]; rfl
/-! ### words -/
def wd (b : List UInt8) (i : Nat) : Nat := (b.getD (4 * i) 0).toNat * 16777216 + (b.getD (4 * i + 1) 0).toNat * 65536 + (b.getD (4 * i + 2) 0).toNat * 256 + (b.getD (4 * i + 3) 0).toNat
theorem Z9v (b : List UInt8) (i : Nat) : wd b i < 4294967296 := by
 have h0 := UInt8.toNat_lt (b.getD (4 * i) 0)
 have h1 := UInt8.toNat_lt (b.getD (4 * i + 1) 0)
 have h2 := UInt8.toNat_lt (b.getD (4 * i + 2) 0)
 have h3 := UInt8.toNat_lt (b.getD (4 * i + 3) 0)
 unfold wd; omega
theorem Z9x (b : List UInt8) (i : Nat) : w16 b i = (wd b i : Nat) := by
 have h0 := UInt8.toNat_lt (b.getD (4 * i) 0)
 have h1 := UInt8.toNat_lt (b.getD (4 * i + 1) 0)
 have h2 := UInt8.toNat_lt (b.getD (4 * i + 2) 0)
 have h3 := UInt8.toNat_lt (b.getD (4 * i + 3) 0)
 unfold w16
 rw [iw_n (by omega),iw_n (by omega),iw_n (by omega),iw_n (by omega),Zt3 (n := 24) (by omega) (by omega),Zt3 (n := 16) (by omega) (by omega),Zt3 (n := 8) (by omega) (by omega),Zdx rfl rfl (by omega),Zdx rfl rfl (by omega),Zdx rfl rfl (by omega)]
 rfl
theorem Zxp {x y k : Nat} (h : y < 2 ^ k) : x * 2 ^ k ||| y = x * 2 ^ k + y := by
 rw [Nat.mul_comm,Nat.two_pow_add_eq_or_of_lt h]
theorem Z55 (b : List UInt8) (i : Nat) : word b i = (wd b i : Nat) := by
 have h0 := UInt8.toNat_lt (b.getD (4 * i) 0)
 have h1 := UInt8.toNat_lt (b.getD (4 * i + 1) 0)
 have h2 := UInt8.toNat_lt (b.getD (4 * i + 2) 0)
 have h3 := UInt8.toNat_lt (b.getD (4 * i + 3) 0)
 have hb : ∀ k,Zqw b k = ((b.getD k 0).toNat : Nat) := fun k => by
  have := UInt8.toNat_lt (b.getD k 0)
  exact Zsz (by omega)
 unfold word wd
 rw [hb,hb,hb,hb]
 generalize (b.getD (4 * i) 0).toNat = x0 at *
 generalize (b.getD (4 * i + 1) 0).toNat = x1 at *
 generalize (b.getD (4 * i + 2) 0).toNat = x2 at *
 generalize (b.getD (4 * i + 3) 0).toNat = x3 at *
 have e0 : ishl .u32 (x0 : Int) 24 = ((x0 * 16777216 : Nat) : Int) := by rw [Zt1 (by omega),Nat.mod_eq_of_lt (by omega)]
 have e1 : ishl .u32 (x1 : Int) 16 = ((x1 * 65536 : Nat) : Int) := by rw [Zt1 (by omega),Nat.mod_eq_of_lt (by omega)]
 have e2 : ishl .u32 (x2 : Int) 8 = ((x2 * 256 : Nat) : Int) := by rw [Zt1 (by omega),Nat.mod_eq_of_lt (by omega)]
 have o1 : x0 * 16777216 ||| x1 * 65536 = x0 * 16777216 + x1 * 65536 := Zxp (k := 24) (by omega)
 have o2 : x0 * 16777216 + x1 * 65536 ||| x2 * 256 = x0 * 16777216 + x1 * 65536 + x2 * 256 := by
  have := Zxp (x := x0 * 256 + x1) (y := x2 * 256) (k := 16) (by omega)
  rw [show (x0 * 256 + x1) * 2 ^ 16 = x0 * 16777216 + x1 * 65536 by omega] at this; exact this
 have o3 : x0 * 16777216 + x1 * 65536 + x2 * 256 ||| x3 = x0 * 16777216 + x1 * 65536 + x2 * 256 + x3 := by
  have := Zxp (x := x0 * 65536 + x1 * 256 + x2) (y := x3) (k := 8) (by omega)
  rw [show (x0 * 65536 + x1 * 256 + x2) * 2 ^ 8 = x0 * 16777216 + x1 * 65536 + x2 * 256 by omega] at this; exact this
 rw [e0,e1,e2,Zvv (by omega) (by omega),o1,Zvv (by omega) (by omega),o2,Zvv (by omega) (by omega),o3]
def wl (L : List Nat) (i : Nat) : Nat := m32 (L.getD (i - 16) 0 + s2 (L.getD (i - 15) 0) 7 18 3 + L.getD (i - 7) 0 + s2 (L.getD (i - 2) 0) 17 19 10)
def wN (b : List UInt8) : Nat → List Nat
 | 0 => List.replicate 64 0
 | i + 1 => (wN b i).set i (if i < 16 then wd b i else wl (wN b i) i)
theorem Zz5 (b : List UInt8) : ∀ i,∀ k,(wN b i).getD k 0 < 4294967296
 | 0,k => by
  rw [wN,List.getD_eq_getElem?_getD,List.getElem?_replicate]; split <;> simp
 | i + 1,k => by
  rw [wN,List.getD_eq_getElem?_getD,List.getElem?_set]
  split
  ·split
   ·simp only [Option.getD_some]; split
    ·exact Z9v b i
    ·exact Zts _
   ·simp
  ·rw [← List.getD_eq_getElem?_getD]; exact Zz5 b i k
def upL (L : List Nat) : List Int := L.map Int.ofNat
theorem Zcz (L : List Nat) (k : Nat) : (upL L).getD k 0 = ((L.getD k 0 : Nat) : Int) := by
 unfold upL
 rw [List.getD_eq_getElem?_getD,List.getD_eq_getElem?_getD,List.getElem?_map]
 cases L[k]? <;> rfl
theorem Zwz (L : List Nat) (k n : Nat) : (upL L).set k (n : Int) = upL (L.set k n) := by unfold upL; rw [List.map_set]; rfl
theorem Zs7 (b : List UInt8) : ∀ i,Za2 b i = upL (wN b i)
 | 0 => by rw [Za2,wN,upL,List.map_replicate]; rfl
 | i + 1 => by
  rw [Za2,wN,Zs7 b i,← Zwz]
  congr 1
  by_cases h : i < 16
  ·rw [if_pos h,if_pos h]; exact Z55 b i
  ·rw [if_neg h,if_neg h]
   have hl := Zz5 b i
   unfold later
   rw [Zcz,Zcz,Zcz,Zcz,Z6b (hl _) (by omega) (by omega) (by omega),Z6b (hl _) (by omega) (by omega) (by omega),Zbz rfl rfl,Zbz rfl rfl,Zbz rfl rfl]
   congr 1
   unfold wl m32; omega
theorem Zwr (b : List UInt8) : ∀ i,Zb4 b i = upL (wN b i)
 | 0 => by rw [Zb4,wN,upL,List.map_replicate]; rfl
 | i + 1 => by
  rw [Zb4,wN,Zwr b i,← Zwz]
  congr 1
  by_cases h : i < 16
  ·rw [if_pos h,if_pos h]; exact Z9x b i
  ·rw [if_neg h,if_neg h]
   have hl := Zz5 b i
   have a1 := hl (i - 16)
   have a2 := hl (i - 7)
   have a3 := Z6i (r := 3) (hl (i - 15)) (p := 7) (q := 18) (by omega) (by omega)
   have a4 := Z6i (r := 10) (hl (i - 2)) (p := 17) (q := 19) (by omega) (by omega)
   unfold Z2s
   rw [Zcz,Zcz,Zcz,Zcz,Z2j (hl _) (by omega) (by omega) (by omega),Z2j (hl _) (by omega) (by omega) (by omega),Zdx rfl rfl (by omega),Zdx rfl rfl (by omega),Zdx rfl rfl (by omega),Zs6]
   rfl
def rdN : List Nat := roundL.map Int.toNat
def fsN : List Nat := firstL.map Int.toNat
theorem Z6q : roundL = upL rdN := by decide +kernel
theorem Z8r : firstL = upL fsN := by decide +kernel
theorem Z6r : ∀ k,rdN.getD k 0 < 4294967296 := by
 have h : ∀ x ∈ rdN,x < 4294967296 := by decide +kernel
 intro k
 rw [List.getD_eq_getElem?_getD]
 cases e : rdN[k]? with
 | none => simp
 | some x => exact h x (List.mem_of_getElem? e)
structure H8 (h : List Nat) : Prop where
 len : h.length = 8
 lt : ∀ x ∈ h,x < 4294967296
theorem H8.get {h : List Nat} (H : H8 h) (k : Nat) : h.getD k 0 < 4294967296 := by
 rw [List.getD_eq_getElem?_getD]
 cases e : h[k]? with
 | none => simp
 | some x => exact H.lt x (List.mem_of_getElem? e)
theorem Qbg : H8 fsN := ⟨by decide +kernel,by decide +kernel⟩
def st (h : List Nat) (b : List UInt8) : Nat → N8
 | 0 => ⟨h.getD 0 0,h.getD 1 0,h.getD 2 0,h.getD 3 0,h.getD 4 0,h.getD 5 0,h.getD 6 0,h.getD 7 0⟩
 | i + 1 => (st h b i).next (rdN.getD i 0) ((wN b 64).getD i 0)
theorem Z0l {h : List Nat} (H : H8 h) (b : List UInt8) : ∀ i,(st h b i).ok
 | 0 => ⟨H.get 0,H.get 1,H.get 2,H.get 3,H.get 4,H.get 5,H.get 6,H.get 7⟩
 | i + 1 => N8.next_ok (Z0l H b i) _ _
theorem Zs4 {h : List Nat} (H : H8 h) (b : List UInt8) : ∀ i,i ≤ 64 → Zb1 (firstL ++ roundL) (Zb4 b 64) (upL h) i = (st h b i).up
 | 0,_ => by
  unfold Zb1 st N8.up
  simp only [Zcz]
 | i + 1,hi => by
  rw [Zb1,Zs4 H b i (by omega)]
  have hk : (firstL ++ roundL).getD (8 + i) 0 = ((rdN.getD i 0 : Nat) : Int) := by
   rw [List.getD_eq_getElem?_getD,List.getElem?_append_right (by rw [Zim]; omega),Zim,show 8 + i - 8 = i by omega,← List.getD_eq_getElem?_getD,← Zcz,← Z6q]
  have hw : (Zb4 b 64).getD i 0 = (((wN b 64).getD i 0 : Nat) : Int) := by rw [Zwr,Zcz]
  exact Zu3 (Z0l H b i) hk hw (Z6r i) (Zz5 b 64 i)
theorem Zxx {h : List Nat} (H : H8 h) (b : List UInt8) : ∀ i,i ≤ 64 → Sees (Zl9 roundL (Za2 b 64) (upL h) i) i (st h b i)
 | 0,_ => by
  refine ⟨by simp [Zl9,upL,H.len],?_,?_,?_,?_,?_,?_,?_,?_⟩ <;> exact Zcz h _
 | i + 1,hi => by
  have ih := Zxx H b i (by omega)
  rw [Zl9]
  exact Zxy (Z0l H b i) ih (by rw [Z6q,Zcz]) (by rw [Zs7,Zcz])
theorem Qa8 {V : List Int} (h : V.length = 8) : V = [V.getD 0 0,V.getD 1 0,V.getD 2 0,V.getD 3 0,V.getD 4 0,V.getD 5 0,V.getD 6 0,V.getD 7 0] := by
 match V,h with
 | [_,_,_,_,_,_,_,_],_ => rfl
theorem Z2q {V : List Nat} (h : V.length = 8) : V = [V.getD 0 0,V.getD 1 0,V.getD 2 0,V.getD 3 0,V.getD 4 0,V.getD 5 0,V.getD 6 0,V.getD 7 0] := by
 match V,h with
 | [_,_,_,_,_,_,_,_],_ => rfl
def Zvo (h : List Nat) (b : List UInt8) : List Nat :=
 let s := st h b 64
 [m32 (h.getD 0 0 + s.a),m32 (h.getD 1 0 + s.b),m32 (h.getD 2 0 + s.c),m32 (h.getD 3 0 + s.d),m32 (h.getD 4 0 + s.e),m32 (h.getD 5 0 + s.f),m32 (h.getD 6 0 + s.g),m32 (h.getD 7 0 + s.h)]
theorem Z4k (h : List Nat) (b : List UInt8) : H8 (Zvo h b) := ⟨by unfold Zvo; generalize st h b 64 = s; simp only [List.length_cons,List.length_nil],fun x hx => by
 unfold Zvo at hx
 generalize st h b 64 = s at hx
 simp only [ List.mem_cons,List.not_mem_nil,or_false] at hx
 rcases hx with h | h | h | h | h | h | h | h <;> (rw [h]; exact Zts _)⟩
theorem Z5n (h0 h1 h2 h3 h4 h5 h6 h7 a b c d e f g k : Int) : Zox [h0,h1,h2,h3,h4,h5,h6,h7] [a,b,c,d,e,f,g,k] 8 = [u32 (h0 + a),u32 (h1 + b),u32 (h2 + c),u32 (h3 + d),u32 (h4 + e),u32 (h5 + f),u32 (h6 + g),u32 (h7 + k)] := rfl
theorem Z57 (h0 h1 h2 h3 h4 h5 h6 h7 a b c d e f g k : Int) : sumI [a,b,c,d,e,f,g,k] [h0,h1,h2,h3,h4,h5,h6,h7] 8 = [(iw (a + h0)).tmod 4294967296,(iw (b + h1)).tmod 4294967296,(iw (c + h2)).tmod 4294967296,(iw (d + h3)).tmod 4294967296,(iw (e + h4)).tmod 4294967296,(iw (f + h5)).tmod 4294967296,(iw (g + h6)).tmod 4294967296,(iw (k + h7)).tmod 4294967296] := rfl
theorem Z5h {h : List Nat} (H : H8 h) (b : List UInt8) : Zsl roundL (upL h) b = upL (Zvo h b) := by
 have hv := Zxx H b 64 (Nat.le_refl _)
 have e0 : spot 0 64 = 0 := rfl
 have e1 : spot 1 64 = 1 := rfl
 have e2 : spot 2 64 = 2 := rfl
 have e3 : spot 3 64 = 3 := rfl
 have e4 : spot 4 64 = 4 := rfl
 have e5 : spot 5 64 = 5 := rfl
 have e6 : spot 6 64 = 6 := rfl
 have e7 : spot 7 64 = 7 := rfl
 unfold Zsl
 rw [Qa8 hv.len]
 have ha := hv.a
 have hb := hv.b
 have hc := hv.c
 have hd := hv.d
 have he := hv.e
 have hf := hv.f
 have hg := hv.g
 have hh := hv.h
 rw [e0] at ha
 rw [e1] at hb
 rw [e2] at hc
 rw [e3] at hd
 rw [e4] at he
 rw [e5] at hf
 rw [e6] at hg
 rw [e7] at hh
 rw [ha,hb,hc,hd,he,hf,hg,hh]
 have hu : upL h = [((h.getD 0 0 : Nat) : Int),((h.getD 1 0 : Nat) : Int),((h.getD 2 0 : Nat) : Int),((h.getD 3 0 : Nat) : Int),((h.getD 4 0 : Nat) : Int),((h.getD 5 0 : Nat) : Int),((h.getD 6 0 : Nat) : Int),((h.getD 7 0 : Nat) : Int)] := by
  conv => lhs; rw [Z2q H.len]
  rfl
 rw [hu,Z5n,Zbz rfl rfl,Zbz rfl rfl,Zbz rfl rfl,Zbz rfl rfl,Zbz rfl rfl,Zbz rfl rfl,Zbz rfl rfl,Zbz rfl rfl]
 rfl
theorem Z3j {h : List Nat} (H : H8 h) (b : List UInt8) : Zz9 (firstL ++ roundL) (upL h) b = upL (Zvo h b) := by
 have hs := Z0l H b 64
 unfold Zz9
 rw [Zs4 H b 64 (Nat.le_refl _)]
 have hu : upL h = [((h.getD 0 0 : Nat) : Int),((h.getD 1 0 : Nat) : Int),((h.getD 2 0 : Nat) : Int),((h.getD 3 0 : Nat) : Int),((h.getD 4 0 : Nat) : Int),((h.getD 5 0 : Nat) : Int),((h.getD 6 0 : Nat) : Int),((h.getD 7 0 : Nat) : Int)] := by
  conv => lhs; rw [Z2q H.len]
  rfl
 have key : ∀ {x y : Nat},x < 4294967296 → y < 4294967296 → (iw ((x : Int) + (y : Int))).tmod 4294967296 = ((m32 (y + x) : Nat) : Int) := fun {x y} hx hy => by
  rw [Zdx rfl rfl (by omega),Zs6,Nat.add_comm]
 rw [hu]
 show sumI [((st h b 64).a : Int),((st h b 64).b : Int),((st h b 64).c : Int),((st h b 64).d : Int),((st h b 64).e : Int),((st h b 64).f : Int),((st h b 64).g : Int),((st h b 64).h : Int)] _ 8 = _
 rw [Z57,key hs.a (H.get 0),key hs.b (H.get 1),key hs.c (H.get 2),key hs.d (H.get 3),key hs.e (H.get 4),key hs.f (H.get 5),key hs.g (H.get 6),key hs.h (H.get 7)]
 rfl
end Cr
namespace Cr
open Go Go.Proofs
set_option maxRecDepth 100000
set_option maxHeartbeats 64000000
attribute [local irreducible] Calls

theorem St.total {W : World} {F : Nat → Prop} {rs : List Res} {w : World} {b : Nat} {S : StrM} {T : TypeId} (hS : St W F rs w) [hh : Has rs b (.cells S.cells.toArray T (0,0))] (hok : S.ok) : w.cell? ⟨b,72,none⟩ = some (.int .i64 (S.n : Nat)) := by
 rw [cell_of_row w b 72 _ T (0,0) hS.has]
 have h1 : (ints .u32 S.H).length = 8 := by rw [ints_length]; exact hok.h8
 have h2 : (bv S.R).length = 64 := by rw [Zag]; exact hok.r64
 simp only [StrM.cells,List.getElem?_toArray]
 rw [List.getElem?_append_right (by omega),List.getElem?_append_right (by omega),h1,h2]
 rfl
def Zx0 (n : Nat) (i : Nat) : UInt8 := b8 (ishr .u64 (IntKind.u64.wrap (IntKind.u64.wrap n * 8)) (8 * (7 - i)))
def lenB (n : Nat) : Nat → List UInt8
 | 0 => []
 | i + 1 => lenB n i ++ [Zx0 n i]
def gap (n : Nat) : Nat := (119 - n % 64) % 64
def padB (n : Nat) : List UInt8 := 128 :: List.replicate (gap n) 0 ++ lenB n 8
def StrM.sum (rd fs : List Int) (S : StrM) : List UInt8 := outB (S.more rd fs (padB S.n)).H
theorem StrM.more_one {rd fs : List Int} {S : StrM} {l : List UInt8} {c : UInt8} : (S.more rd fs l).one rd fs c = S.more rd fs (l ++ [c]) := by simp [StrM.more]
theorem sum_ (s : Nat) (S : StrM) (rd fs : List Int) (T : TypeId) (W : World) (hok : S.ok) (hn : S.n < 1152921504606846976) (hG : Gl W noF rd fs) (hs : Rd W (pts s (.cells S.cells.toArray T))) :
  Calls Tryz.prog 113 #[.pointer (some ⟨s,0,none⟩)] W (Ret fun v w => v = .agg (bv (S.sum rd fs)).toArray ∧ St W noF [] w) := by
 have hS := St.start W
 have hso := hs.ro
 have hf := hG.first8
 have key : ∀ l : List UInt8,l.length ≤ 100 → (S.more rd fs l).n < 2305843009213693951 := fun l hl => by rw [StrM.more_n]; omega
 refine Zab Tryz.func113 rfl Tryz.ntmps113 rfl ?_
 repeat (first|refine Yeg ?_|refine Yaf ?_|refine Yar (fun _ _ hS _ => ?_)|refine Yeh ?_|refine Yab ?_)
 rename_i b2 _ _
 rw [Zf2] at hS
 refine Zaa _ rfl rfl rfl rfl rfl (Qbi s S T _ hok (hso.rd hS)) ?_
 rintro _ w ⟨p,rfl,hS'⟩
 replace hS := hS.plus hS'
 clear hS'
 repeat (first|refine Yeg ?_|refine Yaf ?_|refine Yag ?_|refine Yav ?_|refine Yan ?_|refine Yeh ?_|refine Yab ?_)
 refine X_yl (Zav rfl rfl (hS.total hok)) rfl rfl ?_
 repeat (first|refine Yeg ?_|refine Yev ?_|refine Yeh ?_|refine Yab ?_)
 obtain ⟨_,hc,hr,hw,hbk⟩ := hS.call [true,false]
 refine Zaa _ rfl rfl rfl rfl rfl (one_ p S 128 rd fs _ _ _ hok (by omega) (hG.mono hw) hc) ?_
 rintro _ w ⟨_,hS⟩
 replace hS := hbk hS
 clear hc hr hw hbk
 repeat (first|refine Yac ?_|refine Yae ?_|refine Yaj ?_|refine Yab ?_)
 refine Zaj (α := Nat) (fun k => [(2,.pointer (some ⟨b2,0,none⟩)),(3,.pointer (some ⟨p,0,none⟩)),(4,.int .i64 (S.n : Nat))])
  (fun k w => k ≤ gap S.n ∧ St W noF [pts p (.cells (S.more rd fs (128 :: List.replicate k 0)).cells.toArray 236),pts b2 (.cells (bv (List.replicate 32 0)).toArray 56)] w) (fun k => gap S.n - k) 0 ⟨rfl,rfl,rfl,trivial⟩ ⟨Nat.zero_le _,hS⟩ ?_
 clear hS
 rintro k w ⟨hk,hS⟩
 have hg64 : gap S.n < 64 := by unfold gap; omega
 obtain ⟨S',hSe⟩ : ∃ S',S' = S.more rd fs (128 :: List.replicate k 0) := ⟨_,rfl⟩
 have hok' : S'.ok := hSe ▸ StrM.more_ok hf hok
 have hn' : S'.n = S.n + 1 + k := by rw [hSe,StrM.more_n]; simp; omega
 rw [← hSe] at hS
 by_cases hkk : k < gap S.n
 ·have h56 : ((S'.n : Int) % 64 = 56) = False := by
   have : ¬ (S'.n : Int) % 64 = 56 := by unfold gap at hkk; omega
   simp [this]
  have h56' : ¬ (S'.n : Int) % 64 = 56 := by rw [h56]; exact id
  clear h56
  repeat (first|refine Yaa ?_|refine Yaf ?_|refine Yav ?_|refine Yan ?_|refine Yeh ?_)
  refine X_yl (Zav rfl rfl (hS.total hok')) rfl rfl ?_
  repeat (first|refine Yeg ?_|refine Yaf ?_|refine Ybl ?_|refine Ycb ?_|refine Yad ?_|refine Yaj ?_|refine Yal ?_|refine Yak ?_|refine Yab ?_)
  obtain ⟨_,hc,hr,hw,hbk⟩ := hS.call [true,false]
  refine Zaa _ rfl rfl rfl rfl rfl (one_ p S' 0 rd fs _ _ _ hok' (by omega) (hG.mono hw) hc) ?_
  rintro _ w ⟨_,hS⟩
  replace hS := hbk hS
  clear hc hr hw hbk
  repeat (first|refine Yac ?_|refine Yat ?_)
  refine Zaf (k + 1) ⟨rfl,rfl,rfl,trivial⟩ ⟨by omega,?_⟩ (by omega)
  rw [hSe,StrM.more_one] at hS
  rw [show (128 :: List.replicate (k + 1) 0 : List UInt8) = 128 :: List.replicate k 0 ++ [0] by simp [List.replicate_succ']]
  exact hS
 ·obtain rfl : k = gap S.n := by omega
  have h56 : (S'.n : Int) % 64 = 56 := by unfold gap at hn'; omega
  repeat (first|refine Yaa ?_|refine Yaf ?_|refine Yav ?_|refine Yan ?_|refine Yeh ?_)
  refine X_yl (Zav rfl rfl (hS.total hok')) rfl rfl ?_
  repeat (first|refine Yeg ?_|refine Yaf ?_|refine Ybb ?_|refine Ycb ?_|refine Yae ?_|refine Yad ?_|refine Yaj ?_|refine Ya4 ?_|refine Yai ?_|refine Yem ?_)
  rw [hSe] at hS
  clear hSe hok' hn' h56
  refine Zaj (α := Nat) (fun i => [(2,.pointer (some ⟨b2,0,none⟩)),(3,.pointer (some ⟨p,0,none⟩)),(4,.int .i64 (S.n : Nat)),(22,.int .i64 (i : Nat))])
   (fun i w => i ≤ 8 ∧ St W noF [pts p (.cells (S.more rd fs (128 :: List.replicate (gap S.n) 0 ++ lenB S.n i)).cells.toArray 236),pts b2 (.cells (bv (List.replicate 32 0)).toArray 56)] w) (fun i => 8 - i) 0 ⟨rfl,rfl,rfl,rfl,trivial⟩ ⟨Nat.zero_le _,by simpa [lenB] using hS⟩ ?_
  clear hS
  rintro i w ⟨hi,hS⟩
  have hlen : ∀ i,(lenB S.n i).length = i := fun i => by
   induction i with
   | zero => rfl
   | succ i ih => simp [lenB,ih]
  obtain ⟨S',hSe⟩ : ∃ S',S' = S.more rd fs (128 :: List.replicate (gap S.n) 0 ++ lenB S.n i) := ⟨_,rfl⟩
  have hok' : S'.ok := hSe ▸ StrM.more_ok hf hok
  have hn' : S'.n < 2305843009213693951 := by rw [hSe]; exact key _ (by simp [hlen]; omega)
  rw [← hSe] at hS
  by_cases h8 : i < 8
  ·repeat (first|refine Yeg ?_|(refine X_id ?_;first|refine Yaf ?_|refine Yag ?_|refine Ya1 ?_|refine Ybw ?_|refine Yb8 ?_|refine X_yl (Zq5 rfl rfl rfl rfl) rfl rfl ?_|refine Ycp ?_|refine Ydc ?_|refine Ycj ?_)|refine Yek ?_|refine Yab ?_)
   obtain ⟨_,hc,hr,hw,hbk⟩ := hS.call [true,false]
   refine Zaa _ rfl rfl rfl rfl rfl (one_ p S' _ rd fs _ _ _ hok' hn' (hG.mono hw) hc) ?_
   rintro _ w ⟨_,hS⟩
   replace hS := hbk hS
   clear hc hr hw hbk
   repeat (first|refine Yeg ?_|refine Yel ?_|refine Yad ?_|refine Yeo ?_)
   refine Zaf (i + 1) ⟨rfl,rfl,rfl,rfl,trivial⟩ ⟨by omega,?_⟩ (by omega)
   rw [hSe,StrM.more_one] at hS
   simp only [lenB,← List.append_assoc]
   rw [show (8 * (7 - (i : Int))).toNat = 8 * (7 - i) by omega] at hS
   exact hS
  ·obtain rfl : i = 8 := by omega
   have hlen32 : LenO (bv (outB S'.H)) 32 := ⟨by rw [Zag]; exact Zc8 _⟩
   repeat (first|refine Yeg ?_|(refine X_id ?_;first|(refine Zad 172 rfl rfl rfl rfl rfl hS (Z9d p S'.H _ 236 _ hok'.h8 (hS.rd (List.mem_cons_self ..))) ?_;rintro _ _ rfl hS)|refine Yaf ?_|refine Yav ?_|refine Yan ?_|refine Yaz ?_|refine Yb6 (fun _ hS => ?_))|refine Yep ?_|refine Yeq ?_)
   refine ⟨?_,hS.drops⟩
   rw [hSe]
   rfl
def Zhl (n : Nat) (i : Nat) : UInt8 := b8 (ishr .i64 n (8 * (3 - i)))
def Zgh (n : Nat) : Nat → List UInt8
 | 0 => List.replicate 4 0
 | i + 1 => (Zgh n i).set i (Zhl n i)
theorem Ze7 (n : Nat) : ∀ i,(Zgh n i).length = 4
 | 0 => by simp [Zgh]
 | i + 1 => by simp [Zgh,Ze7 n i]
def Zli (n : Nat) : List UInt8 := Zgh n 4
theorem Za4 (n : Nat) : (Zli n).length = 4 := Ze7 n 4
def Za1 (l : List (List UInt8)) : List UInt8 := l.flatMap fun s => Zli s.length ++ s
theorem Zhk {l : List (List UInt8)} {i : Nat} {x : List UInt8} (h : l[i]? = some x) : Za1 (l.take (i + 1)) = Za1 (l.take i) ++ (Zli x.length ++ x) := by
 obtain ⟨hi,rfl⟩ := List.getElem?_eq_some_iff.1 h
 rw [List.take_succ_eq_append_getElem hi]
 simp only [Za1,List.flatMap_append,List.flatMap_cons,List.flatMap_nil,List.append_nil]
theorem Zdo (l : List (List UInt8)) (i : Nat) : (Za1 (l.take i)).length ≤ (Za1 l).length := by
 have : Za1 l = Za1 (l.take i) ++ Za1 (l.drop i) := by unfold Za1; rw [← List.flatMap_append,List.take_append_drop]
 rw [this]; simp
def digest (rd fs : List Int) (l : List (List UInt8)) : List UInt8 := (StrM.init.more rd fs (Za1 l)).sum rd fs
theorem Zao (rd fs : List Int) (l : List (List UInt8)) : (digest rd fs l).length = 32 := by unfold digest StrM.sum; exact Zc8 _
attribute [irreducible] digest
def Zam (l : List Bs) : List (List UInt8) := l.map Bs.s
theorem Zom (a : Option Addr) (c : Nat) (l : List Bs) (rd fs : List Int) (W : World) (hn : (Za1 (Zam l)).length < 1152921504606846976) (hl : l.length < 2305843009213693951) (hG : Gl W noF rd fs) (hB : Bss W noF a l) :
  Calls Tryz.prog 70 #[.slice a l.length c] W (Ret fun v w => v = .agg (bv (digest rd fs (Zam l))).toArray ∧ St W noF [] w) := by
 have hS := St.start W
 have hf := hG.first8
 refine Zab Tryz.func70 rfl Tryz.ntmps70 rfl ?_
 repeat (first|refine Yeg ?_|(refine X_id ?_;first|refine Yaf ?_|refine Yag ?_|refine Yau ?_|refine Ybn ?_|refine Ya7 (fun _ _ hS _ => ?_)|refine Yar (fun _ _ hS _ => ?_))|refine Yej ?_|refine Yab ?_)
 rename_i b2 _ _ _ p wp _
 rw [Zf2] at hS
 replace hS : St W noF [pts p (.cells StrM.init.cells.toArray 236),pts b2 (.cells (bv (List.replicate 32 0)).toArray 56)] wp := hS
 refine Zaj (α := Nat) (fun i => [(2,.pointer (some ⟨b2,0,none⟩)),(3,.pointer (some ⟨p,0,none⟩)),(10,.slice a l.length c),(11,.int .i64 (l.length : Nat)),(12,.int .i64 (i : Nat))])
  (fun i w => i ≤ l.length ∧ St W noF [pts p (.cells (StrM.init.more rd fs (Za1 ((Zam l).take i))).cells.toArray 236),pts b2 (.cells (bv (List.replicate 32 0)).toArray 56)] w) (fun i => l.length - i) 0 ⟨rfl,rfl,rfl,rfl,rfl,trivial⟩ ⟨Nat.zero_le _,hS⟩ ?_
 clear hS
 rintro i w ⟨hi,hS⟩
 have hle := Zdo (Zam l) i
 obtain ⟨S',hSe⟩ : ∃ S',S' = StrM.init.more rd fs (Za1 ((Zam l).take i)) := ⟨_,rfl⟩
 have hok' : S'.ok := hSe ▸ StrM.more_ok hf StrM.init_ok
 have hn' : S'.n = (Za1 ((Zam l).take i)).length := by rw [hSe,StrM.more_n]; simp [StrM.init]
 rw [← hSe] at hS
 by_cases hlt : i < l.length
 ·have hx0 : l[i]? = some l[i] := List.getElem?_eq_getElem hlt
  generalize l[i] = x at hx0
  have hxm := List.mem_of_getElem? hx0
  have hbx := hB.all x hxm
  have hj := Zhk (l := Zam l) (i := i) (x := x.s) (by simp [Zam,hx0])
  have hle1 := Zdo (Zam l) (i + 1)
  rw [hj,List.length_append,List.length_append,Za4] at hle1
  obtain ⟨ab,ao,rfl⟩ := (hB.row.rd hS).base (by intro e; simp at e; subst e; simp at hlt)
  have hr := hB.row
  have hx : (l.map Bs.val)[i]? = some (.slice x.a x.s.length x.c) := by simp [hx0,Bs.val]
  repeat (first|refine Yeg ?_|refine Yff ?_|refine Yar (fun _ _ hS _ => ?_)|refine Yek ?_|refine Yab ?_)
  rename_i b6 _ _
  refine Zaj (α := Nat) (fun j => [(2,.pointer (some ⟨b2,0,none⟩)),(3,.pointer (some ⟨p,0,none⟩)),(10,.slice (some ⟨ab,ao,none⟩) l.length c),(11,.int .i64 (l.length : Nat)),(12,.int .i64 (i : Nat)),(5,.slice x.a x.s.length x.c),(6,.pointer (some ⟨b6,0,none⟩)),(16,.int .i64 (j : Nat))])
   (fun j w => j ≤ 4 ∧ St W noF [pts b6 (.cells (bv (Zgh x.s.length j)).toArray 250),pts p (.cells S'.cells.toArray 236),pts b2 (.cells (bv (List.replicate 32 0)).toArray 56)] w) (fun j => 4 - j) 0 ⟨rfl,rfl,rfl,rfl,rfl,rfl,rfl,rfl,trivial⟩ ⟨Nat.zero_le _,hS⟩ ?_
  clear hS
  rintro j w ⟨hj4,hS⟩
  obtain ⟨B,hBe⟩ : ∃ B,B = Zgh x.s.length j := ⟨_,rfl⟩
  have hBl : B.length = 4 := by rw [hBe]; exact Ze7 _ _
  rw [← hBe] at hS
  by_cases hj : j < 4
  ·repeat (first|refine Yeg ?_|(refine X_id ?_;first|refine Yaf ?_|refine Yag ?_|refine Yau ?_|refine Ya1 ?_|refine Ycn ?_|refine Yay ?_|refine Ybw ?_|refine Yb8 ?_|refine Ycp ?_|refine Ycj ?_|refine Zkl rfl rfl rfl rfl hS (by omega) (fun _ hS => ?_))|refine Yek ?_|refine Yeo ?_)
   refine Zaf (j + 1) ⟨rfl,rfl,rfl,rfl,rfl,rfl,rfl,rfl,trivial⟩ ⟨by omega,?_⟩ (by omega)
   simp only [Zgh,Zhl]
   rw [← hBe]
   rw [show (8 * (3 - (j : Int))).toNat = 8 * (3 - j) by omega,show 0 + (j : Int).toNat * 1 = j by omega] at hS
   exact hS
  ·obtain rfl : j = 4 := by omega
   repeat (first|refine Yeg ?_|refine Yaf ?_|refine Yaz ?_|refine Ydh ?_|refine Ybd (fun _ _ hS _ => ?_)|refine Yet ?_|refine Yem ?_)
   rename_i nb wb _
   obtain ⟨_,hc,hr,hw,hbk⟩ := hS.call [false,false,true]
   have hBs : Bss wb _ (some ⟨nb,0,none⟩) [⟨some ⟨b6,0,none⟩,4,B⟩,x] := ⟨by
    have := (hr _ (List.mem_cons_self ..)).own_row
    simpa [Bs.val,hBl] using this,fun y hy => by
    simp only [List.mem_cons,List.not_mem_nil,or_false] at hy
    rcases hy with rfl | rfl
    ·exact (hr _ (List.mem_cons_of_mem _ (List.mem_cons_self ..))).mono fun h hh => ⟨h,Zgs (n := 4) (by simp [← Zag,← hBl]) h hh,fun _ _ e => e⟩
    ·exact hw _ hbx⟩
   refine Zaa _ rfl rfl rfl rfl rfl (Zyv p S' _ _ _ rd fs _ _ _ hok' (by simp [Zal,hBl]; omega) (by simp) (hG.mono hw) hBs hc) ?_
   rintro _ w ⟨rfl,hS⟩
   replace hS := hbk hS
   clear hc hr hw hbk hBs
   repeat (first|refine Yeg ?_|refine Yel ?_|refine Yad ?_|refine Yeo ?_)
   refine Zaf (i + 1) ⟨rfl,rfl,rfl,rfl,rfl,trivial⟩ ⟨by omega,?_⟩ (by omega)
   have hS := hS.pick [0,2]
   rw [Zhk (x := x.s) (by simp [Zam,hx0]),StrM.more_append,← hSe]
   rw [show Zal [⟨some ⟨b6,0,none⟩,4,B⟩,x] = Zli x.s.length ++ x.s by rw [hBe]; simp [Zal,Zli]] at hS
   exact hS
 ·obtain rfl : i = l.length := by omega
  have hlen32 : LenO (bv (S'.sum rd fs)) 32 := ⟨by rw [Zag]; exact Zc8 _⟩
  repeat (first|refine Yeg ?_|(refine X_id ?_;first|(refine Zad 113 rfl rfl rfl rfl rfl hS (sum_ p S' rd fs 236 _ hok' (by omega) (hG.mono fun r hr => (hr.rd hS).ro) (hS.rd (List.mem_cons_self ..))) ?_;rintro _ _ rfl hS)|refine Yaf ?_|refine Yaz ?_|refine Yb6 (fun _ hS => ?_))|refine Yep ?_|refine Yeq ?_)
  refine ⟨?_,hS.drops⟩
  rw [hSe,show (Zam l).take l.length = Zam l from List.take_of_length_le (by simp [Zam])]
  unfold digest
  rfl
end Cr
namespace Cr
open Go
set_option maxRecDepth 10000
set_option maxHeartbeats 64000000
theorem Ztj {rd fs : List Int} {S : StrM} {c : List UInt8} (hn : S.n % 64 = 0) (hR : S.R.length = 64) (hc : c.length = 64) : ∀ j,j ≤ 63 →
  S.more rd fs (c.take j) = ⟨if j = 0 then S.H else Zbv fs S.H S.n,c.take j ++ S.R.drop j,S.n + j⟩
 | 0,_ => by simp [StrM.more]
 | j + 1,hj => by
  have ih := Ztj (rd := rd) (fs := fs) hn hR hc j (by omega)
  rw [StrM.more_snoc (by omega),ih]
  have h1 : ¬ (S.n + j + 1) % 64 = 0 := by omega
  have h2 : (S.n + j) % 64 = j := by omega
  unfold StrM.one
  simp only
  rw [if_neg h1,h2]
  have e1 : Zbv fs (if j = 0 then S.H else Zbv fs S.H S.n) (S.n + j) = Zbv fs S.H S.n := by
   unfold Zbv
   by_cases h0 : j = 0
   ·subst h0; simp
   ·rw [if_neg (by omega),if_neg h0]
  have e2 : (c.take j ++ S.R.drop j).set j (c.getD j 0) = c.take (j + 1) ++ S.R.drop (j + 1) := by
   have e0 : (c.take j).length = j := by simp; omega
   have e3 : S.R.drop j = S.R[j]'(by omega) :: S.R.drop (j + 1) := List.drop_eq_getElem_cons (by omega)
   have e4 : c.take (j + 1) = c.take j ++ [c[j]'(by omega)] := List.take_succ_eq_append_getElem (by omega)
   have e5 : c.getD j 0 = c[j]'(by omega) := by simp [List.getD_eq_getElem?_getD,show j < c.length by omega]
   rw [List.set_append_right _ _ (by omega),e0,Nat.sub_self,e3,List.set_cons_zero,e4,e5,List.append_assoc]; rfl
  rw [e1,e2,if_neg (show ¬ j + 1 = 0 by omega)]; rfl
theorem Zwg {rd fs : List Int} {S : StrM} {c : List UInt8} (hn : S.n % 64 = 0) (hR : S.R.length = 64) (hc : c.length = 64) : S.more rd fs c = ⟨Zsl rd (Zbv fs S.H S.n) c,c,S.n + 64⟩ := by
 have h := Ztj (rd := rd) (fs := fs) hn hR hc 63 (Nat.le_refl _)
 have e : c = c.take (63 + 1) := (List.take_of_length_le (by omega)).symm
 conv => lhs; rw [e,StrM.more_snoc (by omega),h]
 have h2 : (S.n + 63) % 64 = 63 := by omega
 have hset : (c.take 63 ++ S.R.drop 63).set 63 (c.getD 63 0) = c := by
  have e0 : (c.take 63).length = 63 := by simp; omega
  have e3 : S.R.drop 63 = S.R[63]'(by omega) :: S.R.drop 64 := List.drop_eq_getElem_cons (by omega)
  have e4 : S.R.drop 64 = [] := List.drop_of_length_le (by omega)
  have e5 : c.getD 63 0 = c[63]'(by omega) := by simp [List.getD_eq_getElem?_getD,show 63 < c.length by omega]
  rw [List.set_append_right _ _ (by omega),e0,Nat.sub_self,e3,e4,List.set_cons_zero,e5]
  have e6 : c.take (63 + 1) = c.take 63 ++ [c[63]'(by omega)] := List.take_succ_eq_append_getElem (by omega)
  rw [← e6,← e]
 unfold StrM.one
 simp only
 rw [if_pos (by omega),h2,hset]
 have e1 : Zbv fs (if (63 : Nat) = 0 then S.H else Zbv fs S.H S.n) (S.n + 63) = Zbv fs S.H S.n := by
  unfold Zbv; simp
 rw [e1]
def blk (t : List UInt8) (k : Nat) : List UInt8 := (t.drop (64 * k)).take 64
def hAt (t : List UInt8) : Nat → List Nat
 | 0 => fsN
 | k + 1 => Zvo (hAt t k) (blk t k)
theorem Zx9 (t : List UInt8) : ∀ k,H8 (hAt t k)
 | 0 => Qbg
 | _ + 1 => Z4k _ _
theorem Zlx (t : List UInt8) : ∀ m,64 * m ≤ t.length → (StrM.init.more roundL firstL (t.take (64 * m))).n = 64 * m ∧ (StrM.init.more roundL firstL (t.take (64 * m))).R.length = 64 ∧
  Zbv firstL (StrM.init.more roundL firstL (t.take (64 * m))).H (64 * m) = upL (hAt t m) ∧ (0 < m → (StrM.init.more roundL firstL (t.take (64 * m))).H = upL (hAt t m))
 | 0,_ => by
  refine ⟨by simp [StrM.more,StrM.init],by simp [StrM.more,StrM.init],?_,fun h => absurd h (by omega)⟩
  simp only [Zbv,Nat.mul_zero,if_true]
  exact Z8r
 | m + 1,hm => by
  obtain ⟨h1,h2,h3,_⟩ := Zlx t m (by omega)
  have e : t.take (64 * (m + 1)) = t.take (64 * m) ++ blk t m := by
   unfold blk
   rw [show 64 * (m + 1) = 64 * m + 64 by omega,List.take_add]
  have hb : (blk t m).length = 64 := by simp [blk]; omega
  rw [e,StrM.more_append]
  obtain ⟨S,hS⟩ : ∃ S,S = StrM.init.more roundL firstL (t.take (64 * m)) := ⟨_,rfl⟩
  rw [← hS] at h1 h2 h3 ⊢
  have hbm := Zwg (rd := roundL) (fs := firstL) (S := S) (c := blk t m) (by omega) h2 hb
  rw [h1,h3,Z5h (Zx9 t m)] at hbm
  rw [hbm]
  refine ⟨by simp only; omega,hb,?_,fun _ => rfl⟩
  unfold Zbv
  rw [if_neg (by omega)]; rfl
def Za3 (s : List UInt8) : List UInt8 := s ++ padB s.length
theorem Zyg (n : Nat) : (n + 1 + gap n + 8) % 64 = 0 := by unfold gap; omega
theorem Zvx {n k : Nat} (h : k < gap n) : ¬ (n + 1 + k + 8) % 64 = 0 := by unfold gap at h; omega
theorem Ze5 (s : List UInt8) : (Za3 s).length = s.length + 1 + gap s.length + 8 := by
 have : (lenB s.length 8).length = 8 := by simp [lenB]
 simp [Za3,padB,this]; omega
theorem Zvb (s : List UInt8) (m : Nat) (hm : (Za3 s).length = 64 * m) : (StrM.init.more roundL firstL s).sum roundL firstL = outB (upL (hAt (Za3 s) m)) := by
 unfold StrM.sum
 have hn : (StrM.init.more roundL firstL s).n = s.length := by rw [StrM.more_n]; simp [StrM.init]
 rw [hn,← StrM.more_append]
 have hl := Ze5 s
 have h := (Zlx (Za3 s) m (by omega)).2.2.2 (by omega)
 rw [List.take_of_length_le (by omega)] at h
 show outB (StrM.init.more roundL firstL (Za3 s)).H = _
 rw [h]
section
variable {P : Program} {o : Oper} {σ : Env} {w : World} {x y : Operand} {t ty e : TypeId} {N : Nat} {ds : Md} {K : Env → World → Prop}
theorem Zo3 {T bytes d c : Nat} {k k' : IntKind} {W : World} {F : Nat → Prop} {rs : List Res} (ho : o.op = .makeSlice t x y) (hx : ev σ x = some (.int k (c : Nat))) (hy : ev σ y = some (.int k' (c : Nat)))
  [h : Und P t (.slice T)] [hi : Inf P T (.int .u8 0) 1 bytes] (hb : bytes * c ≤ 281474976710656) (hm : c ≤ 9223372036854775807) (hd : o.dst = some d) (hN : Nat.blt d N = true) (hS : St W F rs w)
  (hk : ∀ b w',St W F (pts b (.cells (bv (List.replicate c 0)).toArray T) :: rs) w' → K ((d,.slice (some ⟨b,0,none⟩) c c) :: σ) w') : X P o N ds σ w K :=
 Zzn ho hx hy (by omega) (Int.le_refl _) (by rw [← Int.natCast_mul]; omega) (by omega) hd hN hS fun b w' hS' _ => hk b w' (by
  have e1 : (Value.int .u8 0).cells = #[Value.int .u8 0] := rfl
  rw [e1,Zif,Int.toNat_natCast,Nat.mul_one,Zf2] at hS'
  exact hS')
theorem Zl2 {N : Nat} {ds : Md} {K : Env → World → Prop} {b off j : Nat} {c : UInt8} {L : List UInt8} {T : TypeId} {W : World} {F : Nat → Prop} {rs rs' : List Res} (ho : o.op = .store t x y) (hx : ev σ x = some (.pointer (some (adr (some ⟨b,off,none⟩) j)))) (hy : ev σ y = some (.int .u8 (c.toNat : Int))) [hs : Siz P t 1]
  (hd : o.dst = none) (hS : St W F rs w) [hh : Has rs b (.cells (bv L).toArray T (0,0))] (hfit : off + j < L.length) [hu : Upd rs b (.cells (bv (L.set (off + j) c)).toArray T (0,0)) rs']
  (h : ∀ w',St W F rs' w' → K σ w') : X P o N ds σ w K := Zkl (off := off + j) ho hx hy hd hS hfit h
end
def rds (l : List Bs) : Res := Sep (l.map fun x => bytes x.a x.s)
theorem St.rdsNil {W : World} {F : Nat → Prop} {rs : List Res} {w : World} (hS : St W F rs w) : St W F (rds [] :: rs) w := by
 obtain ⟨h,hs,s⟩ := hS
 exact ⟨h,⟨fun _ => none,h,fun _ => rfl,hs,fun _ => .inl rfl,fun _ => by simp⟩,s⟩
theorem St.rdsCons {W : World} {F : Nat → Prop} {rs : List Res} {w : World} {x : Bs} {l : List Bs} (hS : St W F (bytes x.a x.s :: rds l :: rs) w) : St W F (rds (l ++ [x]) :: rs) w := by
 obtain ⟨h,hs,s⟩ := hS
 refine ⟨h,?_,s⟩
 obtain ⟨h1,h2,a,⟨h3,h4,b,c,d',u'⟩,d,u⟩ := hs
 refine ⟨fun k => (h1 k).or (h3 k),h4,?_,c,fun k => ?_,fun k => ?_⟩
 ·have : Sep (bytes x.a x.s :: (l.map fun x => bytes x.a x.s)) (fun k => (h1 k).or (h3 k)) := ⟨h1,h3,a,b,fun k => by
   rcases d k with e | e
   ·exact .inl e
   ·rw [u'] at e; simp at e; exact .inr e.1,fun _ => rfl⟩
  have p : (bytes x.a x.s :: (l.map fun x => bytes x.a x.s)).Perm ((l ++ [x]).map fun x => bytes x.a x.s) := by
   rw [List.map_append]; exact (List.perm_append_comm (l₁ := [bytes x.a x.s]) (l₂ := l.map fun x => bytes x.a x.s))
  exact Sep.perm p _ this
 ·rcases d k with e | e
  ·rcases d' k with e' | e'
   ·left; simp [e,e']
   ·exact .inr e'
  ·rw [u'] at e; simp at e; exact .inr e.2
 ·rw [u,u']; cases e1 : h1 k <;> simp [e1]
theorem Ro.sep {W : World} {F : Nat → Prop} {rs : List Res} (H : Ro W F (Sep rs)) : ∀ r ∈ rs,Ro W F r := by
 obtain ⟨f,hs,ha⟩ := H
 induction rs generalizing f with
 | nil => intro r hr; cases hr
 | cons x rs ih =>
  obtain ⟨h1,h2,hx,hrs,hd,hu⟩ := hs
  have s1 : ∀ b o,h1 b = some o → f b = some o := fun b o e => by rw [hu,e]; rfl
  have s2 : ∀ b o,h2 b = some o → f b = some o := fun b o e => by
   rw [hu]; rcases hd b with e' | e'
   ·simp [e',e]
   ·rw [e] at e'; simp at e'
  intro r hr
  cases hr with
  | head => exact ⟨h1,hx,fun b o e => ha b o (s1 b o e)⟩
  | tail _ hr => exact ih h2 hrs (fun b o e => ha b o (s2 b o e)) r hr
theorem Ro.rds {W : World} {F : Nat → Prop} {l : List Bs} (H : Ro W F (rds l)) : ∀ x ∈ l,Ro W F (bytes x.a x.s) := fun x hx => Ro.sep H _ (List.mem_map.2 ⟨x,hx,rfl⟩)
end Cr
