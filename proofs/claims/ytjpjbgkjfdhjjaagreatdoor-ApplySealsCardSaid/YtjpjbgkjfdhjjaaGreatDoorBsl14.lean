/-
  The document's digest: a block more.
  The document's table is the program's two.
  The words of a digest as natural numbers below 2^32: what the two sides' operations do to them. No program is in sight.
  The two sides' rounds of the digest are the same,over natural numbers.
  The document's rounds,over natural numbers.
  A block more: the two sides' words are the same.
  Bytes told one by one are blocks told one by one.
  The document's digest of bytes: what Sum computes.
  The document's digest of bytes is the program's.
  The document's answers of layer 2: Frame.
  The law ApplySeals: what it computes.
-/
import Derived.Test.YtjpjbgkjfdhjjaaGreatDoorBsl13
import Derived.Test.YtjpjbgkjfdhjjaaGreatDoorBsl3
import Derived.KernelRfl
import Derived.Test.YtjpjbgkjfdhjjaaGreatDoorBsl4
import Derived.Laws.BitsLemmas
import Derived.Test.YtjpjbgkjfdhjjaaGreatDoorBsl5
import Derived.Test.YtjpjbgkjfdhjjaaGreatDoorBsl6
namespace Cr
open Go Go.Proofs
set_option maxRecDepth 100000
set_option maxHeartbeats 64000000
attribute [local irreducible] Calls

theorem Zed (x : Int) (n : Nat) (W : World) (hn : n ≤ 32) : Calls Tryz.prog 105 #[.int .i64 x,.int .i64 (n : Nat)] W (Ret fun v w => v = .int .i64 (Zmq x n) ∧ St W noF [] w) := by
 have hS := St.start W
 have hb : ¬ ishl .i64 1 ((n : Int)).toNat = 0 := by
  rw [Int.toNat_natCast,Zsl n hn];have := Int.pow_pos (n := 2) (m := n) (by omega)
  omega
 refine Zab Tryz.func105 rfl Tryz.ntmps105 rfl ?_
 repeat (first|refine Yeb ?_|refine Yag ?_|refine Yec ?_|refine Yab ?_)
 refine Zao (.s 0 (.s 1 (.s 2 (.s 3 (.s 4 (.s 5 (.s 6 (.s 7 (.s 8 (.s 9 (.s 10 (.s 11 .nil)))))))))))) mixed (by kernel_rfl) rfl ?_
 have hS := hS.drew
 repeat (first|refine Yah ?_|refine Yed ?_|(refine Zaf ?_;first|refine Ya2 ?_|refine Ya6 ?_|refine Ybl ?_|refine Yce ?_|refine Ycf ?_|refine Yc5 ?_|refine Yde ?_|refine Yd2 ?_))
 refine ⟨?_,hS⟩
 rw [Zmq,Int.toNat_natCast,show (32 - (n : Int)).toNat = 32 - n by omega]
abbrev two (p : Nat) (x y : Int) : Res := pts p (.cells #[.int .i64 x,.int .i64 y] 221)
theorem Z7x (T H : List Int) (hT : T.length = 72) (hH : H.length = 8) (a : Option Addr) (c : Nat) (b : List UInt8) (W : World) (hb : Rd W (bytes a b)) (h64 : b.length = 64) :
  Calls Tryz.prog 54 #[.agg (ints .i64 T).toArray,.agg (ints .i64 H).toArray,.slice a 64 c] W (Ret fun v w => v = .agg (ints .i64 (Zy1 T H b)).toArray ∧ St W noF [] w) := by
 have hS := St.start W
 have hbo := hb.ro
 obtain ⟨ab,ao,rfl⟩ := hb.base (by intro e; have := Zak b; rw [e] at this; simp at this; omega)
 clear hb;have hb := hbo
 have hl72 : LenO (ints .i64 T) 72 := ⟨by rw [ints_length,hT]⟩
 have hl8 : LenO (ints .i64 H) 8 := ⟨by rw [ints_length,hH]⟩
 refine Zab Tryz.func54 rfl Tryz.ntmps54 rfl ?_
 repeat (first|refine Yeb ?_|refine Yag ?_|refine Yba (fun _ _ hS _ => ?_)|refine Yar (fun _ _ hS _ => ?_)|refine Yee ?_|refine Yab ?_)
 rename_i b3 _ _ _ b4 _ _ _ b6 _ _ _ b7 _ _;rw [Zm6] at hS;refine Zbq (α := Unit) (fun _ => [(3,.pointer (some ⟨b3,0,none⟩)),(4,.pointer (some ⟨b4,0,none⟩)),(6,.pointer (some ⟨b6,0,none⟩)),(7,.pointer (some ⟨b7,0,none⟩))])
  (fun _ w => St W noF [pts b7 (.cells (ints .i64 (Zb0 b 64)).toArray 58),pts b6 (.cells #[.int .i64 0,.int .i64 0,.int .i64 0,.int .i64 0,.int .i64 0,.int .i64 0,.int .i64 0,.int .i64 0] 57),pts b4 (.cells (ints .i64 H).toArray 57),pts b3 (.cells (ints .i64 T).toArray 60)] w) ?_ ?_
 ·refine Zaj (α := Nat) (fun i => [(2,.slice (some ⟨ab,ao,none⟩) 64 c),(3,.pointer (some ⟨b3,0,none⟩)),(4,.pointer (some ⟨b4,0,none⟩)),(6,.pointer (some ⟨b6,0,none⟩)),(7,.pointer (some ⟨b7,0,none⟩)),(8,.int .i64 (i : Nat))])
   (fun i w => i ≤ 64 ∧ St W noF [pts b7 (.cells (ints .i64 (Zb0 b i)).toArray 58),pts b6 (.cells #[.int .i64 0,.int .i64 0,.int .i64 0,.int .i64 0,.int .i64 0,.int .i64 0,.int .i64 0,.int .i64 0] 57),pts b4 (.cells (ints .i64 H).toArray 57),pts b3 (.cells (ints .i64 T).toArray 60)] w) (fun i => 64 - i) 0 ⟨rfl,rfl,rfl,rfl,rfl,rfl,trivial⟩ ⟨Nat.zero_le _,hS⟩ ?_
  clear hS;rintro i w ⟨hi,hS⟩
  obtain ⟨L,hLe⟩ : ∃ L,L = Zb0 b i := ⟨_,rfl⟩
  have hL : L.length = 64 := by rw [hLe]; exact Zec b i
  rw [← hLe] at hS;by_cases h1 : i < 64
  ·by_cases h16 : i < 16
   ·repeat (first|refine Yeb ?_|refine Yaf ?_|refine Ya1 ?_|refine Yef ?_|refine Yab ?_)
    refine Zao (.s 0 (.s 1 (.s 2 (.s 3 (.s 4 (.s 5 (.s 6 (.s 7 (.s 8 (.s 9 (.s 10 (.s 11 (.s 12 (.s 13 (.s 14 (.s 15 (.s 16 (.s 17 (.s 18 (.s 19 (.s 20 (.s 21 (.s 22 (.s 23 (.s 24 (.s 25 (.s 26 (.s 27 (.s 28 (.s 29 (.s 30 (.s 31 (.s 32 (.s 33 (.s 34 (.h 35 .nil .no)))))))))))))))))))))))))))))))))))) mixed (by kernel_rfl) rfl ?_
    have hS := hS.drew
    repeat (first|refine Yeb ?_|refine Yer ?_|refine Yck (fun _ hS => ?_)|refine Yad ?_|refine Ya3 ?_|refine Yeh ?_|(refine Zaf ?_;first|refine Ya2 ?_|refine Ya6 ?_|refine Yb3 ?_|refine Yca ?_|refine Ycl ?_|refine Yd8 ?_|refine Ycf ?_|refine Zai rfl rfl (fun _ => Zev rfl rfl rfl) rfl rfl ?_|refine Yde ?_|refine Ydo ?_|refine Yax ?_)|(refine Zad ?_;first|refine Yay ?_))
    rw [show 0 + (i : Int).toNat * 1 = i by omega,show (4 * (i : Int)).toNat * 1 = 4 * i by omega,show (4 * (i : Int) + 1).toNat * 1 = 4 * i + 1 by omega,show (4 * (i : Int) + 2).toNat * 1 = 4 * i + 2 by omega,show (4 * (i : Int) + 3).toNat * 1 = 4 * i + 3 by omega] at hS
    exact Zae (i + 1) ⟨rfl,rfl,rfl,rfl,rfl,rfl,trivial⟩ ⟨by omega,by rw [Zb0,if_pos h16,← hLe]; exact hS⟩ (by omega)
   ·repeat (first|refine Yeb ?_|refine Yaf ?_|refine Ya1 ?_|refine Yaz ?_|refine Yei ?_|refine Yab ?_)
    refine Zao (.s 0 (.s 1 (.s 2 (.s 3 (.s 5 (.s 6 (.s 7 (.s 8 (.s 11 (.s 12 (.s 13 (.s 14 (.s 15 (.h 4 (.h 9 (.s 10 (.s 16 (.s 17 .nil))) .no) .no)))))))))))))) mixed (by kernel_rfl) rfl ?_
    have hS := hS.drew
    repeat (first|(refine X_id ?_;first|(refine Zac 105 rfl rfl rfl rfl rfl hS (Zed _ 7 _ (by omega)) ?_;rintro _ _ rfl hS)|(refine Zac 105 rfl rfl rfl rfl rfl hS (Zed _ 18 _ (by omega)) ?_;rintro _ _ rfl hS))|refine Yae ?_|refine Yab ?_|(refine Zaf ?_;first|refine Ya2 ?_|refine Ya6 ?_|refine Ybl ?_|refine Yb3 ?_|refine Yce ?_|refine Ycw ?_|refine Yc5 ?_|refine Ycb ?_|refine Yax ?_)|(refine Zad ?_;first|refine Yay ?_))
    refine Zao (.s 0 (.s 1 (.s 2 (.s 3 (.s 5 (.s 6 (.s 7 (.s 8 (.s 11 (.s 12 (.s 13 (.s 14 (.s 15 (.h 4 (.h 9 (.s 10 (.s 16 (.s 17 .nil))) .no) .no)))))))))))))) mixed (by kernel_rfl) rfl ?_
    have hS := hS.drew
    repeat (first|(refine X_id ?_;first|(refine Zac 105 rfl rfl rfl rfl rfl hS (Zed _ 17 _ (by omega)) ?_;rintro _ _ rfl hS)|(refine Zac 105 rfl rfl rfl rfl rfl hS (Zed _ 19 _ (by omega)) ?_;rintro _ _ rfl hS))|refine Yab ?_|(refine Zaf ?_;first|refine Ya2 ?_|refine Ya6 ?_|refine Ybl ?_|refine Yb3 ?_|refine Yce ?_|refine Ycw ?_|refine Yc5 ?_|refine Ycb ?_|refine Yax ?_)|(refine Zad ?_;first|refine Yay ?_))
    refine Zao (.s 0 (.s 1 (.s 2 (.s 3 (.s 4 (.s 5 (.s 6 (.s 7 (.s 8 (.s 9 (.s 10 (.s 11 (.s 12 (.s 13 (.s 14 (.s 15 (.h 16 .nil .no))))))))))))))))) mixed (by kernel_rfl) rfl ?_
    have hS := hS.drew
    repeat (first|refine Yeb ?_|refine Yer ?_|refine Yck (fun _ hS => ?_)|refine Yad ?_|refine Yej ?_|(refine Zaf ?_;first|refine Ya2 ?_|refine Ya6 ?_|refine Yb3 ?_|refine Yce ?_|refine Ycf ?_|refine Yd2 ?_|refine Ycb ?_|refine Yax ?_)|(refine Zad ?_;first|refine Yay ?_))
    rw [show 0 + (i : Int).toNat * 1 = i by omega,show 0 + ((i : Int) - 16).toNat * 1 = i - 16 by omega,show 0 + ((i : Int) - 15).toNat * 1 = i - 15 by omega,show 0 + ((i : Int) - 7).toNat * 1 = i - 7 by omega,show 0 + ((i : Int) - 2).toNat * 1 = i - 2 by omega] at hS
    exact Zae (i + 1) ⟨rfl,rfl,rfl,rfl,rfl,rfl,trivial⟩ ⟨by omega,by rw [Zb0,if_neg h16,← hLe]; exact hS⟩ (by omega)
  ·obtain rfl : i = 64 := by omega
   repeat (first|refine Yeb ?_|refine Yaf ?_|refine Yaz ?_|refine Yeo ?_|refine Yeh ?_)
   exact Zbw () ⟨rfl,rfl,rfl,rfl,trivial⟩ (by rw [← hLe]; exact hS)
 clear hS;rintro _ w hS
 obtain ⟨X,hX⟩ : ∃ X,X = Zb0 b 64 := ⟨_,rfl⟩
 have hXl : X.length = 64 := by rw [hX]; exact Zec b 64
 rw [← hX] at hS;repeat (first|refine Yae ?_)
 refine Zti (α := Nat × Nat × Nat × Nat) (fun z => [(3,.pointer (some ⟨b3,0,none⟩)),(4,.pointer (some ⟨b4,0,none⟩)),(6,.pointer (some ⟨b6,0,none⟩)),(7,.pointer (some ⟨b7,0,none⟩)),(11,.pointer (some ⟨z.1,0,none⟩)),(12,.pointer (some ⟨z.2.1,0,none⟩)),(13,.pointer (some ⟨z.2.2.1,0,none⟩)),(14,.pointer (some ⟨z.2.2.2,0,none⟩))])
  (fun z w => St W noF [two z.1 (H.getD 0 0) (H.getD 1 0),two z.2.1 (H.getD 2 0) (H.getD 3 0),two z.2.2.1 (H.getD 4 0) (H.getD 5 0),two z.2.2.2 (H.getD 6 0) (H.getD 7 0),pts b7 (.cells (ints .i64 X).toArray 58),pts b6 (.cells #[.int .i64 0,.int .i64 0,.int .i64 0,.int .i64 0,.int .i64 0,.int .i64 0,.int .i64 0,.int .i64 0] 57),pts b4 (.cells (ints .i64 H).toArray 57),pts b3 (.cells (ints .i64 T).toArray 60)] w) ?_ ?_
 ·skip
  refine Zao (.s 0 (.s 1 (.s 2 (.s 3 (.s 4 (.s 5 (.s 6 (.s 7 (.s 8 (.s 9 (.s 10 (.s 11 (.s 12 (.s 13 (.s 14 (.s 15 (.s 16 (.s 17 (.s 18 (.s 19 (.h 20 (.h 21 (.h 22 (.h 23 (.h 24 (.h 25 (.h 26 (.h 27 .nil .no) .no) .no) .no) .no) (.h 23 (.h 22 (.h 24 (.h 25 (.h 26 (.h 27 .nil .no) .no) .no) .no) .no) .no)) (.h 22 (.h 21 (.h 23 (.h 24 (.h 25 (.h 26 (.h 27 .nil .no) .no) .no) .no) .no) (.h 23 (.h 21 (.h 24 (.h 25 (.h 26 (.h 27 .nil .no) .no) .no) .no) .no) .no)) (.h 23 (.h 21 (.h 22 (.h 24 (.h 25 (.h 26 (.h 27 .nil .no) .no) .no) .no) .no) (.h 22 (.h 21 (.h 24 (.h 25 (.h 26 (.h 27 .nil .no) .no) .no) .no) .no) .no)) .no))) (.h 21 (.h 20 (.h 22 (.h 23 (.h 24 (.h 25 (.h 26 (.h 27 .nil .no) .no) .no) .no) .no) (.h 23 (.h 22 (.h 24 (.h 25 (.h 26 (.h 27 .nil .no) .no) .no) .no) .no) .no)) (.h 22 (.h 20 (.h 23 (.h 24 (.h 25 (.h 26 (.h 27 .nil .no) .no) .no) .no) .no) (.h 23 (.h 20 (.h 24 (.h 25 (.h 26 (.h 27 .nil .no) .no) .no) .no) .no) .no)) (.h 23 (.h 20 (.h 22 (.h 24 (.h 25 (.h 26 (.h 27 .nil .no) .no) .no) .no) .no) (.h 22 (.h 20 (.h 24 (.h 25 (.h 26 (.h 27 .nil .no) .no) .no) .no) .no) .no)) .no))) (.h 22 (.h 20 (.h 21 (.h 23 (.h 24 (.h 25 (.h 26 (.h 27 .nil .no) .no) .no) .no) .no) (.h 23 (.h 21 (.h 24 (.h 25 (.h 26 (.h 27 .nil .no) .no) .no) .no) .no) .no)) (.h 21 (.h 20 (.h 23 (.h 24 (.h 25 (.h 26 (.h 27 .nil .no) .no) .no) .no) .no) (.h 23 (.h 20 (.h 24 (.h 25 (.h 26 (.h 27 .nil .no) .no) .no) .no) .no) .no)) (.h 23 (.h 20 (.h 21 (.h 24 (.h 25 (.h 26 (.h 27 .nil .no) .no) .no) .no) .no) (.h 21 (.h 20 (.h 24 (.h 25 (.h 26 (.h 27 .nil .no) .no) .no) .no) .no) .no)) .no))) (.h 23 (.h 20 (.h 21 (.h 22 (.h 24 (.h 25 (.h 26 (.h 27 .nil .no) .no) .no) .no) .no) (.h 22 (.h 21 (.h 24 (.h 25 (.h 26 (.h 27 .nil .no) .no) .no) .no) .no) .no)) (.h 21 (.h 20 (.h 22 (.h 24 (.h 25 (.h 26 (.h 27 .nil .no) .no) .no) .no) .no) (.h 22 (.h 20 (.h 24 (.h 25 (.h 26 (.h 27 .nil .no) .no) .no) .no) .no) .no)) (.h 22 (.h 20 (.h 21 (.h 24 (.h 25 (.h 26 (.h 27 .nil .no) .no) .no) .no) .no) (.h 21 (.h 20 (.h 24 (.h 25 (.h 26 (.h 27 .nil .no) .no) .no) .no) .no) .no)) .no))) .no)))))))))))))))))))))))) mixed (by kernel_rfl) rfl ?_
  have hS := hS.drew
  repeat' (first|refine Zp3 ?_ ?_|refine Yao (fun _ hS _ => ?_)|refine Yar (fun _ _ hS _ => ?_)|(refine Zaf ?_;first|refine Ya2 ?_|refine Yb3 ?_|refine Ycb ?_|refine Yax ?_|refine Zai rfl rfl (fun _ => Zg2 rfl rfl rfl rfl rfl) rfl rfl ?_)|(refine Zad ?_;first|refine Yay ?_))
  all_goals
   simp only [Int.toNat_zero,Int.toNat_one,show Int.toNat 2 = 2 from rfl,show Int.toNat 3 = 3 from rfl,show Int.toNat 4 = 4 from rfl,show Int.toNat 5 = 5 from rfl,show Int.toNat 6 = 6 from rfl,show Int.toNat 7 = 7 from rfl,Nat.mul_one,Nat.zero_add] at hS
   exact Zbw (_,_,_,_) ⟨rfl,rfl,rfl,rfl,rfl,rfl,rfl,rfl,trivial⟩ hS.took
 clear hS;rintro ⟨p1,p2,p3,p4⟩ w hS
 simp only at hS ⊢
 repeat (first|refine Yeb ?_|refine Yag ?_|refine Yee ?_|refine Yab ?_)
 refine Zbq (α := Unit) (fun _ => [(4,.pointer (some ⟨b4,0,none⟩)),(6,.pointer (some ⟨b6,0,none⟩)),(11,.pointer (some ⟨p1,0,none⟩)),(12,.pointer (some ⟨p2,0,none⟩)),(13,.pointer (some ⟨p3,0,none⟩)),(14,.pointer (some ⟨p4,0,none⟩))])
  (fun _ w => St W noF [two p1 (Zbx T X H 64).a (Zbx T X H 64).b,two p2 (Zbx T X H 64).c (Zbx T X H 64).d,two p3 (Zbx T X H 64).e (Zbx T X H 64).f,two p4 (Zbx T X H 64).g (Zbx T X H 64).h,pts b7 (.cells (ints .i64 X).toArray 58),pts b6 (.cells #[.int .i64 0,.int .i64 0,.int .i64 0,.int .i64 0,.int .i64 0,.int .i64 0,.int .i64 0,.int .i64 0] 57),pts b4 (.cells (ints .i64 H).toArray 57),pts b3 (.cells (ints .i64 T).toArray 60)] w) ?_ ?_
 ·refine Zaj (α := Nat) (fun i => [(3,.pointer (some ⟨b3,0,none⟩)),(4,.pointer (some ⟨b4,0,none⟩)),(6,.pointer (some ⟨b6,0,none⟩)),(7,.pointer (some ⟨b7,0,none⟩)),(11,.pointer (some ⟨p1,0,none⟩)),(12,.pointer (some ⟨p2,0,none⟩)),(13,.pointer (some ⟨p3,0,none⟩)),(14,.pointer (some ⟨p4,0,none⟩)),(15,.int .i64 (i : Nat))])
   (fun i w => i ≤ 64 ∧ St W noF [two p1 (Zbx T X H i).a (Zbx T X H i).b,two p2 (Zbx T X H i).c (Zbx T X H i).d,two p3 (Zbx T X H i).e (Zbx T X H i).f,two p4 (Zbx T X H i).g (Zbx T X H i).h,pts b7 (.cells (ints .i64 X).toArray 58),pts b6 (.cells #[.int .i64 0,.int .i64 0,.int .i64 0,.int .i64 0,.int .i64 0,.int .i64 0,.int .i64 0,.int .i64 0] 57),pts b4 (.cells (ints .i64 H).toArray 57),pts b3 (.cells (ints .i64 T).toArray 60)] w) (fun i => 64 - i) 0
   ⟨rfl,rfl,rfl,rfl,rfl,rfl,rfl,rfl,rfl,trivial⟩ ⟨Nat.zero_le _,hS⟩ ?_
  clear hS;rintro i w ⟨hi,hS⟩
  obtain ⟨⟨A,B,Cc,D,E,F,G,K⟩,hs⟩ : ∃ s,s = Zbx T X H i := ⟨_,rfl⟩
  rw [← hs] at hS;simp only at hS
  by_cases h1 : i < 64
  ·repeat (first|refine Yeb ?_|(refine X_id ?_;first|refine Yaf ?_|refine Yag ?_|refine Ya1 ?_|refine Ycj ?_|refine Ycc ?_|refine X_yl (Zs6 rfl rfl rfl rfl) rfl rfl ?_|refine X_yl (Ztf rfl rfl rfl) rfl rfl ?_|refine X_yl (Z32 rfl rfl rfl) rfl rfl ?_|refine Yd3 ?_|refine Yd4 ?_)|refine Yef ?_|refine Yab ?_)
   refine Zao (.s 0 (.s 1 (.s 2 (.s 3 (.s 5 (.s 6 (.s 9 (.s 10 (.s 14 (.s 16 (.s 17 (.s 18 (.s 19 (.s 21 (.s 22 (.s 23 (.h 4 (.h 7 (.s 8 (.h 11 (.s 12 (.s 13 (.s 15 (.s 20 (.s 24 (.s 25 .nil)))))) .no)) .no) .no))))))))))))))))) mixed (by kernel_rfl) rfl ?_
   have hS := hS.drew
   repeat (first|(refine X_id ?_;first|(refine Zac 105 rfl rfl rfl rfl rfl hS (Zed _ 6 _ (by omega)) ?_;rintro _ _ rfl hS)|(refine Zac 105 rfl rfl rfl rfl rfl hS (Zed _ 11 _ (by omega)) ?_;rintro _ _ rfl hS)|(refine Zac 105 rfl rfl rfl rfl rfl hS (Zed _ 25 _ (by omega)) ?_;rintro _ _ rfl hS))|refine Yae ?_|refine Yab ?_|(refine Zaf ?_;first|refine Ya2 ?_|refine Ya6 ?_|refine Ybl ?_|refine Ybk ?_|refine Yb3 ?_|refine Ycf ?_|refine Ycw ?_|refine Ycb ?_|refine Yax ?_|refine Yea ?_|refine Zbp (fun w' => w'.cell? _ = some _) rfl rfl (hS.cellO 1 (by omega)) (fun _ hc => Zau rfl rfl hc) rfl rfl ?_)|(refine Zad ?_;first|refine Yay ?_))
   refine Zao (.s 0 (.s 1 (.s 3 (.s 4 (.s 7 (.s 8 (.s 11 (.h 2 (.h 5 (.s 6 (.h 9 (.s 10 (.s 12 (.s 13 .nil))) .no)) .no) .no)))))))) mixed (by kernel_rfl) rfl ?_
   have hS := hS.drew
   repeat (first|refine Yeb ?_|(refine X_id ?_;first|(refine Zac 105 rfl rfl rfl rfl rfl hS (Zed _ 2 _ (by omega)) ?_;rintro _ _ rfl hS)|(refine Zac 105 rfl rfl rfl rfl rfl hS (Zed _ 13 _ (by omega)) ?_;rintro _ _ rfl hS)|(refine Zac 105 rfl rfl rfl rfl rfl hS (Zed _ 22 _ (by omega)) ?_;rintro _ _ rfl hS)|refine Yaf ?_|refine Yag ?_|refine Ycj ?_|refine Yaw ?_|refine Ycc ?_|refine Yc8 ?_|refine Yao (fun _ hS _ => ?_)|refine X_yl (Zg2 rfl rfl rfl rfl rfl) rfl rfl ?_|refine Yd3 ?_|refine Yd4 ?_)|refine Yec ?_|refine Yej ?_|(refine Zaf ?_;first|refine Ya2 ?_|refine Ya6 ?_|refine Ybl ?_|refine Yb3 ?_|refine Ycf ?_|refine Ycw ?_|refine Yax ?_|refine Yea ?_)|(refine Zad ?_;first|refine Yay ?_))
   rw [show 8 + (i : Int).toNat * 1 = 8 + i by omega,show 0 + (i : Int).toNat * 1 = i by omega] at hS
   refine Zae (i + 1) ⟨rfl,rfl,rfl,rfl,rfl,rfl,rfl,rfl,rfl,trivial⟩ ⟨h1,?_⟩ (by omega)
   rw [Zbx,← hs];exact hS
  ·obtain rfl : i = 64 := by omega
   repeat (first|refine Yeb ?_|refine Yaf ?_|refine Yaz ?_|refine Yeo ?_|refine Yeh ?_)
   exact Zbw () ⟨rfl,rfl,rfl,rfl,rfl,rfl,trivial⟩ (by rw [← hs]; exact hS)
 clear hS;rintro _ w hS
 obtain ⟨s,hs⟩ : ∃ s,s = Zbx T X H 64 := ⟨_,rfl⟩
 rw [← hs] at hS;repeat (first|refine Yeb ?_|(refine X_id ?_;first|refine Yag ?_|refine Ycj ?_|refine Yao (fun _ hS _ => ?_)|refine Yar (fun _ _ hS _ => ?_)|refine X_yl (Zg2 rfl rfl rfl rfl rfl) rfl rfl ?_|refine Yd3 ?_|refine Yd4 ?_)|refine Yee ?_|refine Yab ?_)
 rename_i b20 _ _ _ w20 _;replace hS : St W noF [pts b20 (.cells (ints .i64 (sumI s.list H 0)).toArray 57),_,_,_,_,_,pts b6 _,pts b4 (.cells (ints .i64 H).toArray 57),_] w20 := hS
 have hS := hS.pick [0,5,5]
 refine Zaj (α := Nat) (fun i => [(4,.pointer (some ⟨b4,0,none⟩)),(6,.pointer (some ⟨b6,0,none⟩)),(20,.pointer (some ⟨b20,0,none⟩)),(21,.int .i64 (i : Nat))])
  (fun i w => i ≤ 8 ∧ St W noF [pts b20 (.cells (ints .i64 (sumI s.list H i)).toArray 57),pts b6 (.cells #[.int .i64 0,.int .i64 0,.int .i64 0,.int .i64 0,.int .i64 0,.int .i64 0,.int .i64 0,.int .i64 0] 57),pts b4 (.cells (ints .i64 H).toArray 57)] w) (fun i => 8 - i) 0 ⟨rfl,rfl,rfl,rfl,trivial⟩ ⟨Nat.zero_le _,hS⟩ ?_
 clear hS;rintro i w ⟨hi,hS⟩
 have hll : (sumI s.list H i).length = 8 := by rw [Zj1]; rfl
 obtain ⟨L,hL⟩ : ∃ L,L = sumI s.list H i := ⟨_,rfl⟩
 rw [← hL] at hS hll;by_cases h1 : i < 8
 ·repeat (first|refine Yeb ?_|refine Yaf ?_|refine Ya1 ?_|refine Yef ?_|refine Yab ?_)
  refine Zao (.s 0 (.s 1 (.s 2 (.s 3 (.s 4 (.s 5 (.s 6 (.s 7 (.s 8 (.s 9 (.h 10 .nil .no))))))))))) mixed (by kernel_rfl) rfl ?_
  have hS := hS.drew
  repeat (first|refine Yeb ?_|refine Yer ?_|refine Yck (fun _ hS => ?_)|refine Yad ?_|refine Yej ?_|(refine Zaf ?_;first|refine Ya2 ?_|refine Ya6 ?_|refine Yb3 ?_|refine Ycf ?_|refine Yd2 ?_|refine Ycb ?_|refine Yax ?_)|(refine Zad ?_;first|refine Yay ?_))
  rw [show 0 + (i : Int).toNat * 1 = i by omega] at hS
  exact Zae (i + 1) ⟨rfl,rfl,rfl,rfl,trivial⟩ ⟨h1,by rw [sumI,← hL]; exact hS⟩ (by omega)
 ·obtain rfl : i = 8 := by omega
  have hlL : LenO (ints .i64 L) 8 := ⟨by rw [ints_length,hll]⟩
  repeat (first|refine Yeb ?_|refine Yaf ?_|refine Yaz ?_|refine Ybi ?_|refine Yb9 (fun _ hS => ?_)|refine Yek ?_|refine Yel ?_)
  refine ⟨?_,hS.drops⟩
  rw [Zy1,← hX,← hs,← hL]
end Cr
namespace Cr
open Go Go.Proofs
set_option maxRecDepth 100000
set_option maxHeartbeats 64000000
theorem r2_2 : Zar ((2 : Nat) : Int) 2 = 1779033703 := by kernel_rfl
theorem r2_3 : Zar ((3 : Nat) : Int) 2 = 3144134277 := by kernel_rfl
theorem r2_5 : Zar ((5 : Nat) : Int) 2 = 1013904242 := by kernel_rfl
theorem r2_7 : Zar ((7 : Nat) : Int) 2 = 2773480762 := by kernel_rfl
theorem Z8s : Zar ((11 : Nat) : Int) 2 = 1359893119 := by kernel_rfl
theorem Z8r : Zar ((13 : Nat) : Int) 2 = 2600822924 := by kernel_rfl
theorem Z8q : Zar ((17 : Nat) : Int) 2 = 528734635 := by kernel_rfl
theorem Z8p : Zar ((19 : Nat) : Int) 2 = 1541459225 := by kernel_rfl
theorem r3_2 : Zar ((2 : Nat) : Int) 3 = 1116352408 := by kernel_rfl
theorem r3_3 : Zar ((3 : Nat) : Int) 3 = 1899447441 := by kernel_rfl
theorem r3_5 : Zar ((5 : Nat) : Int) 3 = 3049323471 := by kernel_rfl
theorem r3_7 : Zar ((7 : Nat) : Int) 3 = 3921009573 := by kernel_rfl
theorem Z8o : Zar ((11 : Nat) : Int) 3 = 961987163 := by kernel_rfl
theorem Z8n : Zar ((13 : Nat) : Int) 3 = 1508970993 := by kernel_rfl
theorem Z8m : Zar ((17 : Nat) : Int) 3 = 2453635748 := by kernel_rfl
theorem Z8l : Zar ((19 : Nat) : Int) 3 = 2870763221 := by kernel_rfl
theorem Z8k : Zar ((23 : Nat) : Int) 3 = 3624381080 := by kernel_rfl
theorem Z8j : Zar ((29 : Nat) : Int) 3 = 310598401 := by kernel_rfl
theorem Z8i : Zar ((31 : Nat) : Int) 3 = 607225278 := by kernel_rfl
theorem Z8h : Zar ((37 : Nat) : Int) 3 = 1426881987 := by kernel_rfl
theorem Z8g : Zar ((41 : Nat) : Int) 3 = 1925078388 := by kernel_rfl
theorem Z8f : Zar ((43 : Nat) : Int) 3 = 2162078206 := by kernel_rfl
theorem Z8e : Zar ((47 : Nat) : Int) 3 = 2614888103 := by kernel_rfl
theorem Z8d : Zar ((53 : Nat) : Int) 3 = 3248222580 := by kernel_rfl
theorem Z8c : Zar ((59 : Nat) : Int) 3 = 3835390401 := by kernel_rfl
theorem Z8b : Zar ((61 : Nat) : Int) 3 = 4022224774 := by kernel_rfl
theorem Z8a : Zar ((67 : Nat) : Int) 3 = 264347078 := by kernel_rfl
theorem Z79 : Zar ((71 : Nat) : Int) 3 = 604807628 := by kernel_rfl
theorem Z78 : Zar ((73 : Nat) : Int) 3 = 770255983 := by kernel_rfl
theorem Z77 : Zar ((79 : Nat) : Int) 3 = 1249150122 := by kernel_rfl
theorem Z76 : Zar ((83 : Nat) : Int) 3 = 1555081692 := by kernel_rfl
theorem Z75 : Zar ((89 : Nat) : Int) 3 = 1996064986 := by kernel_rfl
theorem Z74 : Zar ((97 : Nat) : Int) 3 = 2554220882 := by kernel_rfl
theorem Z5y : Zar ((101 : Nat) : Int) 3 = 2821834349 := by kernel_rfl
theorem Z5x : Zar ((103 : Nat) : Int) 3 = 2952996808 := by kernel_rfl
theorem Z5w : Zar ((107 : Nat) : Int) 3 = 3210313671 := by kernel_rfl
theorem Z5v : Zar ((109 : Nat) : Int) 3 = 3336571891 := by kernel_rfl
theorem Z5u : Zar ((113 : Nat) : Int) 3 = 3584528711 := by kernel_rfl
theorem Z5t : Zar ((127 : Nat) : Int) 3 = 113926993 := by kernel_rfl
theorem Z5s : Zar ((131 : Nat) : Int) 3 = 338241895 := by kernel_rfl
theorem Z5r : Zar ((137 : Nat) : Int) 3 = 666307205 := by kernel_rfl
theorem Z5q : Zar ((139 : Nat) : Int) 3 = 773529912 := by kernel_rfl
theorem Z5p : Zar ((149 : Nat) : Int) 3 = 1294757372 := by kernel_rfl
theorem Z5o : Zar ((151 : Nat) : Int) 3 = 1396182291 := by kernel_rfl
theorem Z5n : Zar ((157 : Nat) : Int) 3 = 1695183700 := by kernel_rfl
theorem Z5m : Zar ((163 : Nat) : Int) 3 = 1986661051 := by kernel_rfl
theorem Z5l : Zar ((167 : Nat) : Int) 3 = 2177026350 := by kernel_rfl
theorem Z5k : Zar ((173 : Nat) : Int) 3 = 2456956037 := by kernel_rfl
theorem Z5j : Zar ((179 : Nat) : Int) 3 = 2730485921 := by kernel_rfl
theorem Z5i : Zar ((181 : Nat) : Int) 3 = 2820302411 := by kernel_rfl
theorem Z5h : Zar ((191 : Nat) : Int) 3 = 3259730800 := by kernel_rfl
theorem Z5g : Zar ((193 : Nat) : Int) 3 = 3345764771 := by kernel_rfl
theorem Z5f : Zar ((197 : Nat) : Int) 3 = 3516065817 := by kernel_rfl
theorem Z5e : Zar ((199 : Nat) : Int) 3 = 3600352804 := by kernel_rfl
theorem Z5d : Zar ((211 : Nat) : Int) 3 = 4094571909 := by kernel_rfl
theorem Z5c : Zar ((223 : Nat) : Int) 3 = 275423344 := by kernel_rfl
theorem Z5b : Zar ((227 : Nat) : Int) 3 = 430227734 := by kernel_rfl
theorem Z5a : Zar ((229 : Nat) : Int) 3 = 506948616 := by kernel_rfl
theorem Z49 : Zar ((233 : Nat) : Int) 3 = 659060556 := by kernel_rfl
theorem Z48 : Zar ((239 : Nat) : Int) 3 = 883997877 := by kernel_rfl
theorem Z47 : Zar ((241 : Nat) : Int) 3 = 958139571 := by kernel_rfl
theorem Z46 : Zar ((251 : Nat) : Int) 3 = 1322822218 := by kernel_rfl
theorem Z45 : Zar ((257 : Nat) : Int) 3 = 1537002063 := by kernel_rfl
theorem Z44 : Zar ((263 : Nat) : Int) 3 = 1747873779 := by kernel_rfl
theorem Z43 : Zar ((269 : Nat) : Int) 3 = 1955562222 := by kernel_rfl
theorem Z42 : Zar ((271 : Nat) : Int) 3 = 2024104815 := by kernel_rfl
theorem Z41 : Zar ((277 : Nat) : Int) 3 = 2227730452 := by kernel_rfl
theorem Z40 : Zar ((281 : Nat) : Int) 3 = 2361852424 := by kernel_rfl
theorem Z4z : Zar ((283 : Nat) : Int) 3 = 2428436474 := by kernel_rfl
theorem Z4y : Zar ((293 : Nat) : Int) 3 = 2756734187 := by kernel_rfl
theorem Z4x : Zar ((307 : Nat) : Int) 3 = 3204031479 := by kernel_rfl
theorem Z4w : Zar ((311 : Nat) : Int) 3 = 3329325298 := by kernel_rfl
def primes : List Nat := [2,3,5,7,11,13,17,19,23,29,31,37,41,43,47,53,59,61,67,71,73,79,83,89,97,101,103,107,109,113,127,131,137,139,149,151,157,163,167,173,179,181,191,193,197,199,211,223,227,229,233,239,241,251,257,263,269,271,277,281,283,293,307,311]
def Zwc (p : Nat) : List Nat → List Int → Int
 | q :: qs,x :: xs => if p = q then x else Zwc p qs xs
 | _,_ => 0
def Zib (f g : Nat → Int) : Nat → List Int
 | 0 => List.replicate 72 0
 | m + 1 =>
  if Zer (2 + m) (2 + m) = 2 then (if nTo m < 8 then (Zib f g m).set (nTo m) (f (2 + m)) else Zib f g m).set (8 + nTo m) (g (2 + m)) else Zib f g m
theorem Zlk {f g : Nat → Int} : ∀ m,(∀ k,k < m → Zer (2 + k) (2 + k) = 2 → (nTo k < 8 → Zar ((2 + k : Nat) : Int) 2 = f (2 + k)) ∧ Zar ((2 + k : Nat) : Int) 3 = g (2 + k)) → Zd7 m = Zib f g m
 | 0,_ => rfl
 | m + 1,h => by
  have ih := Zlk m fun k hk => h k (by omega)
  unfold Zd7 Zib
  rw [ih];by_cases h1 : Zer (2 + m) (2 + m) = 2
  ·rw [if_pos h1,if_pos h1,(h m (by omega) h1).2]
   by_cases h2 : nTo m < 8
   ·rw [if_pos h2,if_pos h2,(h m (by omega) h1).1 h2]
   ·rw [if_neg h2,if_neg h2]
  ·rw [if_neg h1,if_neg h1]
def Zv4 (k : Nat) : Bool := !(decide (Zer (2 + k) (2 + k) = 2)) || primes.contains (2 + k)
def Zxa (k : Nat) : Bool := !(decide (Zer (2 + k) (2 + k) = 2)) || !(decide (nTo k < 8)) || (primes.take 8).contains (2 + k)
theorem Zt0 : (List.range 310).all Zv4 = true := by kernel_rfl
theorem Zw9 : (List.range 310).all Zxa = true := by kernel_rfl
theorem Zzf : ∀ p ∈ primes,Zar (p : Int) 3 = Zwc p primes roundL := by
 intro p hp
 simp only [primes,List.mem_cons,List.not_mem_nil,or_false] at hp
 rcases hp with rfl | rfl | rfl | rfl | rfl | rfl | rfl | rfl | rfl | rfl | rfl | rfl | rfl | rfl | rfl | rfl | rfl | rfl | rfl | rfl | rfl | rfl | rfl | rfl | rfl | rfl | rfl | rfl | rfl | rfl | rfl | rfl | rfl | rfl | rfl | rfl | rfl | rfl | rfl | rfl | rfl | rfl | rfl | rfl | rfl | rfl | rfl | rfl | rfl | rfl | rfl | rfl | rfl | rfl | rfl | rfl | rfl | rfl | rfl | rfl | rfl | rfl | rfl | rfl
 ·exact r3_2
 ·exact r3_3
 ·exact r3_5
 ·exact r3_7
 ·exact Z8o
 ·exact Z8n
 ·exact Z8m
 ·exact Z8l
 ·exact Z8k
 ·exact Z8j
 ·exact Z8i
 ·exact Z8h
 ·exact Z8g
 ·exact Z8f
 ·exact Z8e
 ·exact Z8d
 ·exact Z8c
 ·exact Z8b
 ·exact Z8a
 ·exact Z79
 ·exact Z78
 ·exact Z77
 ·exact Z76
 ·exact Z75
 ·exact Z74
 ·exact Z5y
 ·exact Z5x
 ·exact Z5w
 ·exact Z5v
 ·exact Z5u
 ·exact Z5t
 ·exact Z5s
 ·exact Z5r
 ·exact Z5q
 ·exact Z5p
 ·exact Z5o
 ·exact Z5n
 ·exact Z5m
 ·exact Z5l
 ·exact Z5k
 ·exact Z5j
 ·exact Z5i
 ·exact Z5h
 ·exact Z5g
 ·exact Z5f
 ·exact Z5e
 ·exact Z5d
 ·exact Z5c
 ·exact Z5b
 ·exact Z5a
 ·exact Z49
 ·exact Z48
 ·exact Z47
 ·exact Z46
 ·exact Z45
 ·exact Z44
 ·exact Z43
 ·exact Z42
 ·exact Z41
 ·exact Z40
 ·exact Z4z
 ·exact Z4y
 ·exact Z4x
 ·exact Z4w
theorem Zzg : ∀ p ∈ primes.take 8,Zar (p : Int) 2 = Zwc p primes firstL := by
 intro p hp
 simp only [primes,List.take_succ_cons,List.take_zero,List.mem_cons,List.not_mem_nil,or_false] at hp
 rcases hp with rfl | rfl | rfl | rfl | rfl | rfl | rfl | rfl
 ·exact r2_2
 ·exact r2_3
 ·exact r2_5
 ·exact r2_7
 ·exact Z8s
 ·exact Z8r
 ·exact Z8q
 ·exact Z8p
theorem Z1z : Zib (fun p => Zwc p primes firstL) (fun p => Zwc p primes roundL) 310 = firstL ++ roundL := by kernel_rfl
theorem Zy7 : Zd7 310 = firstL ++ roundL := by
 rw [← Z1z];refine Zlk 310 fun k hk hd => ⟨fun hn => ?_,?_⟩
 ·have := List.all_eq_true.1 Zw9 k (List.mem_range.2 hk)
  unfold Zxa at this
  rw [decide_eq_true hd,decide_eq_true hn] at this;exact Zzg _ (List.contains_iff_mem.1 (by simpa using this))
 ·have := List.all_eq_true.1 Zt0 k (List.mem_range.2 hk)
  unfold Zv4 at this
  rw [decide_eq_true hd] at this;exact Zzf _ (List.contains_iff_mem.1 (by simpa using this))
end Cr
namespace Cr
open Go
set_option maxHeartbeats 64000000
theorem Zro {n : Nat} (h : n < 4294967296) : IntKind.u32.wrap (n : Int) = n := by rw [IntKind.wrap_u32]; omega
theorem Zlh (n : Nat) : IntKind.u32.wrap (n : Int) = ((n % 4294967296 : Nat) : Int) := by rw [IntKind.wrap_u32]; omega
theorem Zn5 {n : Nat} (h : n < 9223372036854775808) : IntKind.i64.wrap (n : Int) = n := by rw [IntKind.wrap_i64]; omega
theorem Zwt {x y : Nat} (hx : x < 4294967296) (hy : y < 4294967296) : iand .u32 (x : Int) (y : Int) = ((x &&& y : Nat) : Int) := by
 unfold iand
 rw [BitVec.ofInt_natCast,BitVec.ofInt_natCast,BitVec.toNat_and,BitVec.toNat_ofNat,BitVec.toNat_ofNat,show IntKind.u32.bits = 32 from rfl,Nat.mod_eq_of_lt hx,Nat.mod_eq_of_lt hy];exact Zro (Nat.lt_of_le_of_lt Nat.and_le_left hx)
theorem Zt8 {x y : Nat} (hx : x < 4294967296) (hy : y < 4294967296) : ior .u32 (x : Int) (y : Int) = ((x ||| y : Nat) : Int) := by
 unfold ior
 rw [BitVec.ofInt_natCast,BitVec.ofInt_natCast,BitVec.toNat_or,BitVec.toNat_ofNat,BitVec.toNat_ofNat,show IntKind.u32.bits = 32 from rfl,Nat.mod_eq_of_lt hx,Nat.mod_eq_of_lt hy];exact Zro (Nat.or_lt_two_pow (n := 32) hx hy)
theorem Zl0 {x y : Nat} (hx : x < 4294967296) (hy : y < 4294967296) : ixor .u32 (x : Int) (y : Int) = ((x ^^^ y : Nat) : Int) := by
 unfold ixor
 rw [BitVec.ofInt_natCast,BitVec.ofInt_natCast,BitVec.toNat_xor,BitVec.toNat_ofNat,BitVec.toNat_ofNat,show IntKind.u32.bits = 32 from rfl,Nat.mod_eq_of_lt hx,Nat.mod_eq_of_lt hy];exact Zro (Nat.xor_lt_two_pow (n := 32) hx hy)
theorem Zo1 {x y : Nat} (hx : x < 9223372036854775808) (hy : y < 9223372036854775808) : iand .i64 (x : Int) (y : Int) = ((x &&& y : Nat) : Int) := by
 unfold iand
 rw [BitVec.ofInt_natCast,BitVec.ofInt_natCast,BitVec.toNat_and,BitVec.toNat_ofNat,BitVec.toNat_ofNat,show IntKind.i64.bits = 64 from rfl,Nat.mod_eq_of_lt (by omega),Nat.mod_eq_of_lt (by omega)];exact Zn5 (by have := Nat.and_le_left (n := x) (m := y); omega)
theorem Z6n {x y : Nat} (hx : x < 4294967296) (hy : y < 4294967296) : ior .i64 (x : Int) (y : Int) = ((x ||| y : Nat) : Int) := by
 unfold ior
 rw [BitVec.ofInt_natCast,BitVec.ofInt_natCast,BitVec.toNat_or,BitVec.toNat_ofNat,BitVec.toNat_ofNat,show IntKind.i64.bits = 64 from rfl,Nat.mod_eq_of_lt (by omega),Nat.mod_eq_of_lt (by omega)];exact Zn5 (by have := Nat.or_lt_two_pow (n := 32) hx hy; omega)
theorem Zsi {x y : Nat} (hx : x < 4294967296) (hy : y < 4294967296) : ixor .i64 (x : Int) (y : Int) = ((x ^^^ y : Nat) : Int) := by
 unfold ixor
 rw [BitVec.ofInt_natCast,BitVec.ofInt_natCast,BitVec.toNat_xor,BitVec.toNat_ofNat,BitVec.toNat_ofNat,show IntKind.i64.bits = 64 from rfl,Nat.mod_eq_of_lt (by omega),Nat.mod_eq_of_lt (by omega)];exact Zn5 (by have := Nat.xor_lt_two_pow (n := 32) hx hy; omega)
theorem Zl1 {k : IntKind} (x n : Nat) (hn : n ≤ k.bits) : ishr k (x : Int) n = ((x / 2 ^ n : Nat) : Int) := by
 unfold ishr
 rw [Nat.min_eq_left hn,Int.fdiv_eq_ediv_of_nonneg _ (by exact_mod_cast Nat.zero_le _)]
 exact_mod_cast rfl
theorem Zsm {x n : Nat} (hn : n ≤ 64) (h : x * 2 ^ n < 9223372036854775808) : ishl .i64 (x : Int) n = ((x * 2 ^ n : Nat) : Int) := by
 unfold ishl
 rw [show min n IntKind.i64.bits = n from Nat.min_eq_left hn];have e : (x : Int) * 2 ^ n = ((x * 2 ^ n : Nat) : Int) := by push_cast; rfl
 rw [e]; exact Zn5 h
theorem Zsk {x n : Nat} (hn : n ≤ 32) : ishl .u32 (x : Int) n = ((x * 2 ^ n % 4294967296 : Nat) : Int) := by
 unfold ishl
 rw [show min n IntKind.u32.bits = n from Nat.min_eq_left hn];have e : (x : Int) * 2 ^ n = ((x * 2 ^ n : Nat) : Int) := by push_cast; rfl
 rw [e]; exact Zlh _
def rotr (x n : Nat) : Nat := x / 2 ^ n + x % 2 ^ n * 2 ^ (32 - n)
theorem Zy0 {n : Nat} (hn : n ≤ 32) : 2 ^ n * 2 ^ (32 - n) = 4294967296 := by rw [← Nat.pow_add,show n + (32 - n) = 32 by omega]
theorem Za7 {x n : Nat} (hx : x < 4294967296) (hn : n ≤ 32) : rotr x n < 4294967296 := by
 unfold rotr
 have h1 : x % 2 ^ n + 1 ≤ 2 ^ n := Nat.mod_lt _ (Nat.two_pow_pos n)
 have h2 := Nat.mul_le_mul_right (2 ^ (32 - n)) h1
 rw [Zy0 hn,Nat.add_mul,Nat.one_mul] at h2;have h3 : x / 2 ^ n < 2 ^ (32 - n) := by
  rw [Nat.div_lt_iff_lt_mul (Nat.two_pow_pos n),Nat.mul_comm,Zy0 hn]; exact hx
 omega
theorem Z2i {x n : Nat} (hn : n ≤ 32) : x * 2 ^ (32 - n) % 4294967296 = x % 2 ^ n * 2 ^ (32 - n) := by
 conv => lhs; rw [← Zy0 hn]
 exact Nat.mul_mod_mul_right _ _ _
theorem Zoj {x n : Nat} (hx : x < 4294967296) (hn : n ≤ 32) : spin (x : Int) n = ((rotr x n : Nat) : Int) := by
 unfold spin
 rw [Zl1 (k := .u32) x n hn,Zsk (show 32 - n ≤ 32 by omega),Z2i hn]
 have h3 : x / 2 ^ n < 2 ^ (32 - n) := by
  rw [Nat.div_lt_iff_lt_mul (Nat.two_pow_pos n),Nat.mul_comm,Zy0 hn]; exact hx
 have h4 : x % 2 ^ n * 2 ^ (32 - n) < 4294967296 := Nat.lt_of_le_of_lt (Nat.le_add_left _ _) (Za7 hx hn)
 rw [Zt8 (Nat.lt_of_le_of_lt (Nat.div_le_self _ _) hx) h4]
 congr 1
 unfold rotr
 rw [Nat.or_comm,Nat.mul_comm,← Nat.two_pow_add_eq_or_of_lt h3,Nat.add_comm]
theorem Zwd {e : Nat} (he : e < 4294967296) (i : Nat) : (4294967295 - e).testBit i = (decide (i < 32) && !e.testBit i) := by
 have := Nat.testBit_two_pow_sub_succ (n := 32) (x := e) (by simpa using he) i
 rw [← this]
 congr 1
 omega
theorem Zxn {e f g : Nat} (he : e < 4294967296) (hf : f < 4294967296) (hg : g < 4294967296) : (e &&& f) + ((4294967295 - e) &&& g) = g ^^^ (e &&& (f ^^^ g)) := by
 have hd : (e &&& f) &&& ((4294967295 - e) &&& g) = 0 := by
  apply Nat.eq_of_testBit_eq
  intro i
  simp only [Nat.testBit_and,Zwd he,Nat.zero_testBit]
  cases e.testBit i <;> simp
 have h1 := Nat.and_le_left (n := e) (m := f)
 have h2 := Nat.and_le_right (n := 4294967295 - e) (m := g)
 have key := BitVec.add_eq_or_of_and_eq_zero (BitVec.ofNat 33 (e &&& f)) (BitVec.ofNat 33 ((4294967295 - e) &&& g)) (by
  apply BitVec.eq_of_toNat_eq
  rw [BitVec.toNat_and,BitVec.toNat_ofNat,BitVec.toNat_ofNat,Nat.mod_eq_of_lt (by omega),Nat.mod_eq_of_lt (by omega),hd]; rfl)
 have key2 := congrArg BitVec.toNat key
 rw [BitVec.toNat_add,BitVec.toNat_or,BitVec.toNat_ofNat,BitVec.toNat_ofNat,Nat.mod_eq_of_lt (a := e &&& f) (by omega),Nat.mod_eq_of_lt (a := (4294967295 - e) &&& g) (by omega),Nat.mod_eq_of_lt (by omega)] at key2;rw [key2];apply Nat.eq_of_testBit_eq
 intro i
 simp only [Nat.testBit_or,Nat.testBit_and,Nat.testBit_xor,Zwd he]
 rcases Nat.lt_or_ge i 32 with hi | hi
 ·cases e.testBit i <;> cases f.testBit i <;> cases g.testBit i <;> simp [hi]
 ·have hb : ∀ {x : Nat},x < 4294967296 → x.testBit i = false := fun {x} hx => Nat.testBit_lt_two_pow (Nat.lt_of_lt_of_le hx (Nat.pow_le_pow_right (n := 2) (by omega) hi))
  simp [hb he,hb hf,hb hg]
theorem Z27 (a b c : Nat) : (a &&& b) ||| (a &&& c) ||| (b &&& c) = (a &&& b) ||| (c &&& (a ||| b)) := by
 apply Nat.eq_of_testBit_eq
 intro i
 simp only [Nat.testBit_or,Nat.testBit_and]
 cases a.testBit i <;> cases b.testBit i <;> cases c.testBit i <;> rfl
end Cr
namespace Cr
open Go
set_option maxRecDepth 10000
set_option maxHeartbeats 64000000
def m32 (n : Nat) : Nat := n % 4294967296
theorem Zsd (n : Nat) : m32 n < 4294967296 := Nat.mod_lt _ (by omega)
theorem Z7w (n : Nat) : u32 (n : Int) = (m32 n : Nat) := by unfold u32 m32; exact Zlh n
theorem Zbv {x y : Int} {a b : Nat} (hx : x = a) (hy : y = b) : u32 (x + y) = (m32 (a + b) : Nat) := by
 subst hx hy
 rw [show (a : Int) + (b : Int) = ((a + b : Nat) : Int) by omega]
 exact Z7w _
def s3 (x p q r : Nat) : Nat := rotr x p ^^^ rotr x q ^^^ rotr x r
def s2 (x p q r : Nat) : Nat := rotr x p ^^^ rotr x q ^^^ x / 2 ^ r
theorem Z4r {x p q r : Nat} (hx : x < 4294967296) (hp : p ≤ 32) (hq : q ≤ 32) (hr : r ≤ 32) : s3 x p q r < 4294967296 :=
 Nat.xor_lt_two_pow (n := 32) (Nat.xor_lt_two_pow (n := 32) (Za7 hx hp) (Za7 hx hq)) (Za7 hx hr)
theorem Z4s {x p q r : Nat} (hx : x < 4294967296) (hp : p ≤ 32) (hq : q ≤ 32) : s2 x p q r < 4294967296 :=
 Nat.xor_lt_two_pow (n := 32) (Nat.xor_lt_two_pow (n := 32) (Za7 hx hp) (Za7 hx hq)) (Nat.lt_of_le_of_lt (Nat.div_le_self _ _) hx)
theorem Z06 {x p q r : Nat} (hx : x < 4294967296) (hp : p ≤ 32) (hq : q ≤ 32) (hr : r ≤ 32) : sig3 (x : Int) p q r = (s3 x p q r : Nat) := by
 unfold sig3
 rw [Zoj hx hp,Zoj hx hq,Zoj hx hr,Zl0 (Za7 hx hp) (Za7 hx hq),Zl0 (Nat.xor_lt_two_pow (n := 32) (Za7 hx hp) (Za7 hx hq)) (Za7 hx hr)]; rfl
theorem Z4m {x p q r : Nat} (hx : x < 4294967296) (hp : p ≤ 32) (hq : q ≤ 32) (hr : r ≤ 32) : sig (x : Int) p q r = (s2 x p q r : Nat) := by
 unfold sig
 rw [Zoj hx hp,Zoj hx hq,Zl1 (k := .u32) x r hr,Zl0 (Za7 hx hp) (Za7 hx hq),Zl0 (Nat.xor_lt_two_pow (n := 32) (Za7 hx hp) (Za7 hx hq)) (Nat.lt_of_le_of_lt (Nat.div_le_self _ _) hx)]; rfl
def ch (e f g : Nat) : Nat := g ^^^ (e &&& (f ^^^ g))
def mj (a b c : Nat) : Nat := (a &&& b) ||| (c &&& (a ||| b))
theorem Z67 {e f g : Nat} (he : e < 4294967296) (hg : g < 4294967296) : ch e f g < 4294967296 := Nat.xor_lt_two_pow (n := 32) hg (Nat.lt_of_le_of_lt Nat.and_le_left he)
theorem Z8v {a b c : Nat} (ha : a < 4294967296) (hc : c < 4294967296) : mj a b c < 4294967296 := Nat.or_lt_two_pow (n := 32) (Nat.lt_of_le_of_lt Nat.and_le_left ha) (Nat.lt_of_le_of_lt Nat.and_le_left hc)
structure N8 where
 a : Nat
 b : Nat
 c : Nat
 d : Nat
 e : Nat
 f : Nat
 g : Nat
 h : Nat
structure N8.ok (s : N8) : Prop where
 a : s.a < 4294967296
 b : s.b < 4294967296
 c : s.c < 4294967296
 d : s.d < 4294967296
 e : s.e < 4294967296
 f : s.f < 4294967296
 g : s.g < 4294967296
 h : s.h < 4294967296
def N8.x (s : N8) (k w : Nat) : Nat := s.h + s3 s.e 6 11 25 + ch s.e s.f s.g + k + w
def N8.y (s : N8) : Nat := s3 s.a 2 13 22 + mj s.a s.b s.c
def N8.next (s : N8) (k w : Nat) : N8 := ⟨m32 (s.x k w + s.y),s.a,s.b,s.c,m32 (s.d + s.x k w),s.e,s.f,s.g⟩
theorem N8.next_ok {s : N8} (h : s.ok) (k w : Nat) : (s.next k w).ok := ⟨Zsd _,h.a,h.b,h.c,Zsd _,h.e,h.f,h.g⟩
structure Sees (V : List Int) (i : Nat) (s : N8) : Prop where
 len : V.length = 8
 a : V.getD (spot 0 i) 0 = s.a
 b : V.getD (spot 1 i) 0 = s.b
 c : V.getD (spot 2 i) 0 = s.c
 d : V.getD (spot 3 i) 0 = s.d
 e : V.getD (spot 4 i) 0 = s.e
 f : V.getD (spot 5 i) 0 = s.f
 g : V.getD (spot 6 i) 0 = s.g
 h : V.getD (spot 7 i) 0 = s.h
theorem Zhs {V : List Int} {k : Nat} {x : Int} (h : k < V.length) : (V.set k x).getD k 0 = x := by simp [List.getD_eq_getElem?_getD,h]
theorem Zap {V : List Int} {k m : Nat} {x : Int} (h : k ≠ m) : (V.set k x).getD m 0 = V.getD m 0 := by simp [List.getD_eq_getElem?_getD,h]
theorem Zqe {k m : Int} (i : Nat) (hk : 0 ≤ k) (hm : 0 ≤ m) (hk' : k < 8) (hm' : m < 8) (h : k ≠ m) : spot k i ≠ spot m i := by unfold spot; omega
theorem Zdv (k : Int) (i : Nat) : spot (k + 1) (i + 1) = spot k i := by unfold spot; congr 2; omega
theorem Zvl (i : Nat) : spot 0 (i + 1) = spot 7 i := by unfold spot; omega
theorem Z6i {rd w V : List Int} {i k x : Nat} {s : N8} (hs : s.ok) (hv : Sees V i s) (hk : rd.getD i 0 = k) (hw : w.getD i 0 = x) : mixT rd w V i = (m32 (s.x k x) : Nat) := by
 unfold mixT
 simp only
 rw [show (i : Int).toNat * 1 = i by omega,show 0 + i = i by omega,hv.e,hv.f,hv.g,hv.h,hk,hw,Z06 hs.e (by omega) (by omega) (by omega),Zl0 hs.f hs.g,Zwt hs.e (Nat.xor_lt_two_pow (n := 32) hs.f hs.g),
  Zl0 hs.g (Nat.lt_of_le_of_lt Nat.and_le_left hs.e),Zbv rfl rfl,Zbv rfl rfl,Zbv rfl rfl,Zbv rfl rfl]
 congr 1
 show m32 (m32 (m32 (m32 (s.h + s3 s.e 6 11 25) + ch s.e s.f s.g) + k) + x) = m32 (s.h + s3 s.e 6 11 25 + ch s.e s.f s.g + k + x)
 unfold m32
 omega
theorem Zwi {rd w V : List Int} {i k x : Nat} {s : N8} (hs : s.ok) (hv : Sees V i s) (hk : rd.getD i 0 = k) (hw : w.getD i 0 = x) : Sees (Zgq rd w V i) (i + 1) (s.next k x) := by
 have ht := Z6i hs hv hk hw
 have hl : ∀ k,spot k i < V.length := fun k => by rw [hv.len]; exact Z2f k i
 have hU : mixU rd w V i = V.set (spot 3 i) ((m32 (s.d + s.x k x) : Nat) : Int) := by
  unfold mixU
  rw [hv.d,ht,Zbv rfl rfl]
  congr 2
  unfold m32; omega
 have hS : Zgq rd w V i = (V.set (spot 3 i) ((m32 (s.d + s.x k x) : Nat) : Int)).set (spot 7 i) ((m32 (s.x k x + s.y) : Nat) : Int) := by
  unfold Zgq
  simp only
  rw [hU,Zap (Zqe i (by omega) (by omega) (by omega) (by omega) (by omega)),Zap (Zqe i (by omega) (by omega) (by omega) (by omega) (by omega)),hv.a,hv.b,hv.c,ht,Z06 hs.a (by omega) (by omega) (by omega),
   Zwt hs.a hs.b,Zt8 hs.a hs.b,Zwt hs.c (Nat.or_lt_two_pow (n := 32) hs.a hs.b),Zt8 (Nat.lt_of_le_of_lt Nat.and_le_left hs.a) (Nat.lt_of_le_of_lt Nat.and_le_left hs.c),Zbv rfl rfl,Zbv rfl rfl]
  congr 2
  show m32 (m32 (m32 (s.x k x) + s3 s.a 2 13 22) + mj s.a s.b s.c) = m32 (s.x k x + (s3 s.a 2 13 22 + mj s.a s.b s.c))
  unfold m32; omega
 rw [hS];have hn : ∀ {p q : Int},0 ≤ p → 0 ≤ q → p < 8 → q < 8 → p ≠ q → spot p i ≠ spot q i := fun h1 h2 h3 h4 h5 => Zqe i h1 h2 h3 h4 h5
 refine ⟨by simp [hv.len],?_,?_,?_,?_,?_,?_,?_,?_⟩
 ·rw [Zvl,Zhs (by rw [List.length_set]; exact hl 7)]; rfl
 ·rw [show (1 : Int) = 0 + 1 from rfl,Zdv,Zap (hn (by omega) (by omega) (by omega) (by omega) (by omega)),Zap (hn (by omega) (by omega) (by omega) (by omega) (by omega)),hv.a]; rfl
 ·rw [show (2 : Int) = 1 + 1 from rfl,Zdv,Zap (hn (by omega) (by omega) (by omega) (by omega) (by omega)),Zap (hn (by omega) (by omega) (by omega) (by omega) (by omega)),hv.b]; rfl
 ·rw [show (3 : Int) = 2 + 1 from rfl,Zdv,Zap (hn (by omega) (by omega) (by omega) (by omega) (by omega)),Zap (hn (by omega) (by omega) (by omega) (by omega) (by omega)),hv.c]; rfl
 ·rw [show (4 : Int) = 3 + 1 from rfl,Zdv,Zap (hn (by omega) (by omega) (by omega) (by omega) (by omega)),Zhs (hl 3)]; rfl
 ·rw [show (5 : Int) = 4 + 1 from rfl,Zdv,Zap (hn (by omega) (by omega) (by omega) (by omega) (by omega)),Zap (hn (by omega) (by omega) (by omega) (by omega) (by omega)),hv.e]; rfl
 ·rw [show (6 : Int) = 5 + 1 from rfl,Zdv,Zap (hn (by omega) (by omega) (by omega) (by omega) (by omega)),Zap (hn (by omega) (by omega) (by omega) (by omega) (by omega)),hv.f]; rfl
 ·rw [show (7 : Int) = 6 + 1 from rfl,Zdv,Zap (hn (by omega) (by omega) (by omega) (by omega) (by omega)),Zap (hn (by omega) (by omega) (by omega) (by omega) (by omega)),hv.g]; rfl
theorem iw_n {n : Nat} (h : n < 9223372036854775808) : iw (n : Int) = n := Zn5 h
theorem Zdh {x y : Int} {a b : Nat} (hx : x = a) (hy : y = b) (h : a + b < 9223372036854775808) : iw (x + y) = ((a + b : Nat) : Int) := by
 subst hx hy
 rw [show (a : Int) + (b : Int) = ((a + b : Nat) : Int) by omega]
 exact iw_n h
theorem Zjz {x n : Nat} (hx : x < 4294967296) (hn : n ≤ 32) : Zmq (x : Int) n = (rotr x n : Nat) := by
 have hp : 0 < 2 ^ n := Nat.two_pow_pos n
 have h1 : (x : Int).tmod (2 ^ n) = ((x % 2 ^ n : Nat) : Int) := by
  rw [Int.tmod_eq_emod_of_nonneg (by omega)]
  exact_mod_cast rfl
 have h2 : x % 2 ^ n * 2 ^ (32 - n) < 4294967296 := Nat.lt_of_le_of_lt (Nat.le_add_left _ _) (Za7 hx hn)
 unfold Zmq
 rw [Zsl n hn,h1,Zl1 (k := .i64) x n (by show n ≤ 64; omega),Zsm (by omega) (by omega)];exact Zdh rfl rfl (by have := Za7 hx hn; unfold rotr at this; omega)
theorem Zvm {x p q r : Nat} (hx : x < 4294967296) (hp : p ≤ 32) (hq : q ≤ 32) (hr : r ≤ 32) : Zts (x : Int) p q r = (s3 x p q r : Nat) := by
 unfold Zts
 rw [Zjz hx hp,Zjz hx hq,Zjz hx hr,Zsi (Za7 hx hp) (Za7 hx hq),Zsi (Nat.xor_lt_two_pow (n := 32) (Za7 hx hp) (Za7 hx hq)) (Za7 hx hr)]; rfl
theorem Z05 {x p q r : Nat} (hx : x < 4294967296) (hp : p ≤ 32) (hq : q ≤ 32) (hr : r ≤ 32) : sigI (x : Int) p q r = (s2 x p q r : Nat) := by
 unfold sigI
 rw [Zjz hx hp,Zjz hx hq,Zl1 (k := .i64) x r (by show r ≤ 64; omega),Zsi (Za7 hx hp) (Za7 hx hq),Zsi (Nat.xor_lt_two_pow (n := 32) (Za7 hx hp) (Za7 hx hq)) (Nat.lt_of_le_of_lt (Nat.div_le_self _ _) hx)]; rfl
def N8.up (s : N8) : E8 := ⟨s.a,s.b,s.c,s.d,s.e,s.f,s.g,s.h⟩
theorem Zrv (n : Nat) : (n : Int).tmod 4294967296 = (m32 n : Nat) := by rw [Int.tmod_eq_emod_of_nonneg (by omega)]; unfold m32; omega
theorem N8.x_lt {s : N8} (h : s.ok) {k w : Nat} (hk : k < 4294967296) (hw : w < 4294967296) : s.x k w < 21474836480 := by
 have h1 := Z4r (x := s.e) (p := 6) (q := 11) (r := 25) h.e (by omega) (by omega) (by omega)
 have h2 := Z67 (f := s.f) h.e h.g
 have h3 := h.h
 unfold N8.x; omega
theorem N8.y_lt {s : N8} (h : s.ok) : s.y < 8589934592 := by
 have h1 := Z4r (x := s.a) (p := 2) (q := 13) (r := 22) h.a (by omega) (by omega) (by omega)
 have h2 := Z8v (b := s.b) h.a h.c
 unfold N8.y; omega
theorem Z2c {T X : List Int} {i k w : Nat} {s : N8} (hs : s.ok) (hk : T.getD (8 + i) 0 = k) (hw : X.getD i 0 = w) (hk' : k < 4294967296) (hw' : w < 4294967296) : Z2d T X i s.up = (s.x k w : Nat) := by
 have hx := N8.x_lt hs hk' hw'
 have hc := Zxn hs.e hs.f hs.g
 have h2 := Z67 (f := s.f) hs.e hs.g
 unfold N8.x at hx
 have e1 : iw (4294967295 - (s.e : Int)) = ((4294967295 - s.e : Nat) : Int) := by
  have := hs.e
  rw [show (4294967295 : Int) - (s.e : Int) = ((4294967295 - s.e : Nat) : Int) by omega]
  exact iw_n (by omega)
 have e2 : iw (iand .i64 (s.e : Int) (s.f : Int) + iand .i64 (iw (4294967295 - (s.e : Int))) (s.g : Int)) = (ch s.e s.f s.g : Nat) := by
  have a1 := hs.e
  have a2 := hs.f
  have a3 := hs.g
  rw [e1,Zo1 (by omega) (by omega),Zo1 (by omega) (by omega),Zdh rfl rfl (by rw [hc]; unfold ch at h2; omega),hc]; rfl
 show iw (iw (iw (iw ((s.h : Int) + Zts (s.e : Int) 6 11 25) + iw (iand .i64 (s.e : Int) (s.f : Int) + iand .i64 (iw (4294967295 - (s.e : Int))) (s.g : Int))) + T.getD (8 + i) 0) + X.getD i 0) = _
 rw [e2,hk,hw,Zvm hs.e (by omega) (by omega) (by omega),Zdh rfl rfl (by omega),Zdh rfl rfl (by omega),Zdh rfl rfl (by omega),Zdh rfl rfl (by omega)]
 rfl
theorem Z2b {s : N8} (hs : s.ok) : Z4j s.up = (s.y : Nat) := by
 have hy := N8.y_lt hs
 have a1 := hs.a
 have a2 := hs.b
 have a3 := hs.c
 have l1 := Nat.and_le_left (n := s.a) (m := s.b)
 have l2 := Nat.and_le_left (n := s.a) (m := s.c)
 have l3 := Nat.and_le_left (n := s.b) (m := s.c)
 show iw (Zts (s.a : Int) 2 13 22 + ior .i64 (ior .i64 (iand .i64 (s.a : Int) (s.b : Int)) (iand .i64 (s.a : Int) (s.c : Int))) (iand .i64 (s.b : Int) (s.c : Int))) = _
 rw [Zvm hs.a (by omega) (by omega) (by omega),Zo1 (by omega) (by omega),Zo1 (by omega) (by omega),Zo1 (by omega) (by omega),Z6n (by omega) (by omega),Z6n (Nat.or_lt_two_pow (n := 32) (by omega) (by omega)) (by omega),Z27];have hy' : s3 s.a 2 13 22 + mj s.a s.b s.c < 8589934592 := hy
 exact Zdh (b := mj s.a s.b s.c) rfl rfl (by omega)
theorem Ztl {T X : List Int} {i k w : Nat} {s : N8} (hs : s.ok) (hk : T.getD (8 + i) 0 = k) (hw : X.getD i 0 = w) (hk' : k < 4294967296) (hw' : w < 4294967296) : Zmp T X i s.up = (s.next k w).up := by
 have h1 := N8.x_lt hs hk' hw'
 have h2 := N8.y_lt hs
 have h3 := hs.d
 unfold Zmp
 rw [Z2c hs hk hw hk' hw',Z2b hs,Zdh rfl rfl (by omega),Zrv];have e : iw (s.up.d + ((s.x k w : Nat) : Int)) = ((s.d + s.x k w : Nat) : Int) := Zdh rfl rfl (by omega)
 rw [e,Zrv]; rfl
/-! ### words -/
def wd (b : List UInt8) (i : Nat) : Nat := (b.getD (4 * i) 0).toNat * 16777216 + (b.getD (4 * i + 1) 0).toNat * 65536 + (b.getD (4 * i + 2) 0).toNat * 256 + (b.getD (4 * i + 3) 0).toNat
theorem Z7t (b : List UInt8) (i : Nat) : wd b i < 4294967296 := by
 have h0 := UInt8.toNat_lt (b.getD (4 * i) 0)
 have h1 := UInt8.toNat_lt (b.getD (4 * i + 1) 0)
 have h2 := UInt8.toNat_lt (b.getD (4 * i + 2) 0)
 have h3 := UInt8.toNat_lt (b.getD (4 * i + 3) 0)
 unfold wd; omega
theorem Z7u (b : List UInt8) (i : Nat) : w16 b i = (wd b i : Nat) := by
 have h0 := UInt8.toNat_lt (b.getD (4 * i) 0)
 have h1 := UInt8.toNat_lt (b.getD (4 * i + 1) 0)
 have h2 := UInt8.toNat_lt (b.getD (4 * i + 2) 0)
 have h3 := UInt8.toNat_lt (b.getD (4 * i + 3) 0)
 unfold w16
 rw [iw_n (by omega),iw_n (by omega),iw_n (by omega),iw_n (by omega),Zsm (n := 24) (by omega) (by omega),Zsm (n := 16) (by omega) (by omega),Zsm (n := 8) (by omega) (by omega),Zdh rfl rfl (by omega),Zdh rfl rfl (by omega),Zdh rfl rfl (by omega)]
 rfl
theorem Zv9 {x y k : Nat} (h : y < 2 ^ k) : x * 2 ^ k ||| y = x * 2 ^ k + y := by
 rw [Nat.mul_comm,Nat.two_pow_add_eq_or_of_lt h]
theorem Z4e (b : List UInt8) (i : Nat) : word b i = (wd b i : Nat) := by
 have h0 := UInt8.toNat_lt (b.getD (4 * i) 0)
 have h1 := UInt8.toNat_lt (b.getD (4 * i + 1) 0)
 have h2 := UInt8.toNat_lt (b.getD (4 * i + 2) 0)
 have h3 := UInt8.toNat_lt (b.getD (4 * i + 3) 0)
 have hb : ∀ k,Zph b k = ((b.getD k 0).toNat : Nat) := fun k => by
  have := UInt8.toNat_lt (b.getD k 0)
  exact Zro (by omega)
 unfold word wd
 rw [hb,hb,hb,hb];generalize (b.getD (4 * i) 0).toNat = x0 at *;generalize (b.getD (4 * i + 1) 0).toNat = x1 at *;generalize (b.getD (4 * i + 2) 0).toNat = x2 at *;generalize (b.getD (4 * i + 3) 0).toNat = x3 at *;have e0 : ishl .u32 (x0 : Int) 24 = ((x0 * 16777216 : Nat) : Int) := by rw [Zsk (by omega),Nat.mod_eq_of_lt (by omega)]
 have e1 : ishl .u32 (x1 : Int) 16 = ((x1 * 65536 : Nat) : Int) := by rw [Zsk (by omega),Nat.mod_eq_of_lt (by omega)]
 have e2 : ishl .u32 (x2 : Int) 8 = ((x2 * 256 : Nat) : Int) := by rw [Zsk (by omega),Nat.mod_eq_of_lt (by omega)]
 have o1 : x0 * 16777216 ||| x1 * 65536 = x0 * 16777216 + x1 * 65536 := Zv9 (k := 24) (by omega)
 have o2 : x0 * 16777216 + x1 * 65536 ||| x2 * 256 = x0 * 16777216 + x1 * 65536 + x2 * 256 := by
  have := Zv9 (x := x0 * 256 + x1) (y := x2 * 256) (k := 16) (by omega)
  rw [show (x0 * 256 + x1) * 2 ^ 16 = x0 * 16777216 + x1 * 65536 by omega] at this; exact this
 have o3 : x0 * 16777216 + x1 * 65536 + x2 * 256 ||| x3 = x0 * 16777216 + x1 * 65536 + x2 * 256 + x3 := by
  have := Zv9 (x := x0 * 65536 + x1 * 256 + x2) (y := x3) (k := 8) (by omega)
  rw [show (x0 * 65536 + x1 * 256 + x2) * 2 ^ 8 = x0 * 16777216 + x1 * 65536 + x2 * 256 by omega] at this; exact this
 rw [e0,e1,e2,Zt8 (by omega) (by omega),o1,Zt8 (by omega) (by omega),o2,Zt8 (by omega) (by omega),o3]
def wl (L : List Nat) (i : Nat) : Nat := m32 (L.getD (i - 16) 0 + s2 (L.getD (i - 15) 0) 7 18 3 + L.getD (i - 7) 0 + s2 (L.getD (i - 2) 0) 17 19 10)
def wN (b : List UInt8) : Nat → List Nat
 | 0 => List.replicate 64 0
 | i + 1 => (wN b i).set i (if i < 16 then wd b i else wl (wN b i) i)
theorem Zyy (b : List UInt8) : ∀ i,∀ k,(wN b i).getD k 0 < 4294967296
 | 0,k => by
  rw [wN,List.getD_eq_getElem?_getD,List.getElem?_replicate]; split <;> simp
 | i + 1,k => by
  rw [wN,List.getD_eq_getElem?_getD,List.getElem?_set]
  split
  ·split
   ·simp only [Option.getD_some]; split
    ·exact Z7t b i
    ·exact Zsd _
   ·simp
  ·rw [← List.getD_eq_getElem?_getD]; exact Zyy b i k
def upL (L : List Nat) : List Int := L.map Int.ofNat
theorem Zch (L : List Nat) (k : Nat) : (upL L).getD k 0 = ((L.getD k 0 : Nat) : Int) := by
 unfold upL
 rw [List.getD_eq_getElem?_getD,List.getD_eq_getElem?_getD,List.getElem?_map];cases L[k]? <;> rfl
theorem Zvf (L : List Nat) (k n : Nat) : (upL L).set k (n : Int) = upL (L.set k n) := by unfold upL; rw [List.map_set]; rfl
theorem Zrx (b : List UInt8) : ∀ i,Za0 b i = upL (wN b i)
 | 0 => by rw [Za0,wN,upL,List.map_replicate]; rfl
 | i + 1 => by
  rw [Za0,wN,Zrx b i,← Zvf]
  congr 1
  by_cases h : i < 16
  ·rw [if_pos h,if_pos h]; exact Z4e b i
  ·rw [if_neg h,if_neg h]
   have hl := Zyy b i
   unfold later
   rw [Zch,Zch,Zch,Zch,Z4m (hl _) (by omega) (by omega) (by omega),Z4m (hl _) (by omega) (by omega) (by omega),Zbv rfl rfl,Zbv rfl rfl,Zbv rfl rfl]
   congr 1
   unfold wl m32; omega
theorem Zu6 (b : List UInt8) : ∀ i,Zb0 b i = upL (wN b i)
 | 0 => by rw [Zb0,wN,upL,List.map_replicate]; rfl
 | i + 1 => by
  rw [Zb0,wN,Zu6 b i,← Zvf]
  congr 1
  by_cases h : i < 16
  ·rw [if_pos h,if_pos h]; exact Z7u b i
  ·rw [if_neg h,if_neg h]
   have hl := Zyy b i
   have a1 := hl (i - 16)
   have a2 := hl (i - 7)
   have a3 := Z4s (r := 3) (hl (i - 15)) (p := 7) (q := 18) (by omega) (by omega)
   have a4 := Z4s (r := 10) (hl (i - 2)) (p := 17) (q := 19) (by omega) (by omega)
   unfold Z1d
   rw [Zch,Zch,Zch,Zch,Z05 (hl _) (by omega) (by omega) (by omega),Z05 (hl _) (by omega) (by omega) (by omega),Zdh rfl rfl (by omega),Zdh rfl rfl (by omega),Zdh rfl rfl (by omega),Zrv]
   rfl
def rdN : List Nat := roundL.map Int.toNat
def fsN : List Nat := firstL.map Int.toNat
theorem Z4u : roundL = upL rdN := by decide +kernel
theorem Z6v : firstL = upL fsN := by decide +kernel
theorem Z4v : ∀ k,rdN.getD k 0 < 4294967296 := by
 have h : ∀ x ∈ rdN,x < 4294967296 := by decide +kernel
 intro k
 rw [List.getD_eq_getElem?_getD];cases e : rdN[k]? with
 | none => simp
 | some x => exact h x (List.mem_of_getElem? e)
structure H8 (h : List Nat) : Prop where
 len : h.length = 8
 lt : ∀ x ∈ h,x < 4294967296
theorem H8.get {h : List Nat} (H : H8 h) (k : Nat) : h.getD k 0 < 4294967296 := by
 rw [List.getD_eq_getElem?_getD];cases e : h[k]? with
 | none => simp
 | some x => exact H.lt x (List.mem_of_getElem? e)
theorem Z85 : H8 fsN := ⟨by decide +kernel,by decide +kernel⟩
def st (h : List Nat) (b : List UInt8) : Nat → N8
 | 0 => ⟨h.getD 0 0,h.getD 1 0,h.getD 2 0,h.getD 3 0,h.getD 4 0,h.getD 5 0,h.getD 6 0,h.getD 7 0⟩
 | i + 1 => (st h b i).next (rdN.getD i 0) ((wN b 64).getD i 0)
theorem Zzb {h : List Nat} (H : H8 h) (b : List UInt8) : ∀ i,(st h b i).ok
 | 0 => ⟨H.get 0,H.get 1,H.get 2,H.get 3,H.get 4,H.get 5,H.get 6,H.get 7⟩
 | i + 1 => N8.next_ok (Zzb H b i) _ _
theorem Zrt {h : List Nat} (H : H8 h) (b : List UInt8) : ∀ i,i ≤ 64 → Zbx (firstL ++ roundL) (Zb0 b 64) (upL h) i = (st h b i).up
 | 0,_ => by
  unfold Zbx st N8.up
  simp only [Zch]
 | i + 1,hi => by
  rw [Zbx,Zrt H b i (by omega)];have hk : (firstL ++ roundL).getD (8 + i) 0 = ((rdN.getD i 0 : Nat) : Int) := by
   rw [List.getD_eq_getElem?_getD,List.getElem?_append_right (by rw [Zhy]; omega),Zhy,show 8 + i - 8 = i by omega,← List.getD_eq_getElem?_getD,← Zch,← Z4u]
  have hw : (Zb0 b 64).getD i 0 = (((wN b 64).getD i 0 : Nat) : Int) := by rw [Zu6,Zch]
  exact Ztl (Zzb H b i) hk hw (Z4v i) (Zyy b 64 i)
theorem Zwh {h : List Nat} (H : H8 h) (b : List UInt8) : ∀ i,i ≤ 64 → Sees (Zld roundL (Za0 b 64) (upL h) i) i (st h b i)
 | 0,_ => by
  refine ⟨by simp [Zld,upL,H.len],?_,?_,?_,?_,?_,?_,?_,?_⟩ <;> exact Zch h _
 | i + 1,hi => by
  have ih := Zwh H b i (by omega)
  rw [Zld];exact Zwi (Zzb H b i) ih (by rw [Z4u,Zch]) (by rw [Zrx,Zch])
theorem Z8y {V : List Int} (h : V.length = 8) : V = [V.getD 0 0,V.getD 1 0,V.getD 2 0,V.getD 3 0,V.getD 4 0,V.getD 5 0,V.getD 6 0,V.getD 7 0] := by
 match V,h with
 | [_,_,_,_,_,_,_,_],_ => rfl
theorem Z1c {V : List Nat} (h : V.length = 8) : V = [V.getD 0 0,V.getD 1 0,V.getD 2 0,V.getD 3 0,V.getD 4 0,V.getD 5 0,V.getD 6 0,V.getD 7 0] := by
 match V,h with
 | [_,_,_,_,_,_,_,_],_ => rfl
def Zt4 (h : List Nat) (b : List UInt8) : List Nat :=
 let s := st h b 64
 [m32 (h.getD 0 0 + s.a),m32 (h.getD 1 0 + s.b),m32 (h.getD 2 0 + s.c),m32 (h.getD 3 0 + s.d),m32 (h.getD 4 0 + s.e),m32 (h.getD 5 0 + s.f),m32 (h.getD 6 0 + s.g),m32 (h.getD 7 0 + s.h)]
theorem Z23 (h : List Nat) (b : List UInt8) : H8 (Zt4 h b) := ⟨by unfold Zt4; generalize st h b 64 = s; simp only [List.length_cons,List.length_nil],fun x hx => by
 unfold Zt4 at hx
 generalize st h b 64 = s at hx;simp only [ List.mem_cons,List.not_mem_nil,or_false] at hx
 rcases hx with h | h | h | h | h | h | h | h <;> (rw [h]; exact Zsd _)⟩
theorem Z3y (h0 h1 h2 h3 h4 h5 h6 h7 a b c d e f g k : Int) : Znp [h0,h1,h2,h3,h4,h5,h6,h7] [a,b,c,d,e,f,g,k] 8 = [u32 (h0 + a),u32 (h1 + b),u32 (h2 + c),u32 (h3 + d),u32 (h4 + e),u32 (h5 + f),u32 (h6 + g),u32 (h7 + k)] := rfl
theorem Z4i (h0 h1 h2 h3 h4 h5 h6 h7 a b c d e f g k : Int) : sumI [a,b,c,d,e,f,g,k] [h0,h1,h2,h3,h4,h5,h6,h7] 8 = [(iw (a + h0)).tmod 4294967296,(iw (b + h1)).tmod 4294967296,(iw (c + h2)).tmod 4294967296,(iw (d + h3)).tmod 4294967296,(iw (e + h4)).tmod 4294967296,(iw (f + h5)).tmod 4294967296,(iw (g + h6)).tmod 4294967296,(iw (k + h7)).tmod 4294967296] := rfl
theorem Z3t {h : List Nat} (H : H8 h) (b : List UInt8) : Zq8 roundL (upL h) b = upL (Zt4 h b) := by
 have hv := Zwh H b 64 (Nat.le_refl _)
 have e0 : spot 0 64 = 0 := rfl
 have e1 : spot 1 64 = 1 := rfl
 have e2 : spot 2 64 = 2 := rfl
 have e3 : spot 3 64 = 3 := rfl
 have e4 : spot 4 64 = 4 := rfl
 have e5 : spot 5 64 = 5 := rfl
 have e6 : spot 6 64 = 6 := rfl
 have e7 : spot 7 64 = 7 := rfl
 unfold Zq8
 rw [Z8y hv.len];have ha := hv.a
 have hb := hv.b
 have hc := hv.c
 have hd := hv.d
 have he := hv.e
 have hf := hv.f
 have hg := hv.g
 have hh := hv.h
 rw [e0] at ha;rw [e1] at hb;rw [e2] at hc;rw [e3] at hd;rw [e4] at he;rw [e5] at hf;rw [e6] at hg;rw [e7] at hh;rw [ha,hb,hc,hd,he,hf,hg,hh];have hu : upL h = [((h.getD 0 0 : Nat) : Int),((h.getD 1 0 : Nat) : Int),((h.getD 2 0 : Nat) : Int),((h.getD 3 0 : Nat) : Int),((h.getD 4 0 : Nat) : Int),((h.getD 5 0 : Nat) : Int),((h.getD 6 0 : Nat) : Int),((h.getD 7 0 : Nat) : Int)] := by
  conv => lhs; rw [Z1c H.len]
  rfl
 rw [hu,Z3y,Zbv rfl rfl,Zbv rfl rfl,Zbv rfl rfl,Zbv rfl rfl,Zbv rfl rfl,Zbv rfl rfl,Zbv rfl rfl,Zbv rfl rfl]
 rfl
theorem Z14 {h : List Nat} (H : H8 h) (b : List UInt8) : Zy1 (firstL ++ roundL) (upL h) b = upL (Zt4 h b) := by
 have hs := Zzb H b 64
 unfold Zy1
 rw [Zrt H b 64 (Nat.le_refl _)];have hu : upL h = [((h.getD 0 0 : Nat) : Int),((h.getD 1 0 : Nat) : Int),((h.getD 2 0 : Nat) : Int),((h.getD 3 0 : Nat) : Int),((h.getD 4 0 : Nat) : Int),((h.getD 5 0 : Nat) : Int),((h.getD 6 0 : Nat) : Int),((h.getD 7 0 : Nat) : Int)] := by
  conv => lhs; rw [Z1c H.len]
  rfl
 have key : ∀ {x y : Nat},x < 4294967296 → y < 4294967296 → (iw ((x : Int) + (y : Int))).tmod 4294967296 = ((m32 (y + x) : Nat) : Int) := fun {x y} hx hy => by
  rw [Zdh rfl rfl (by omega),Zrv,Nat.add_comm]
 rw [hu];show sumI [((st h b 64).a : Int),((st h b 64).b : Int),((st h b 64).c : Int),((st h b 64).d : Int),((st h b 64).e : Int),((st h b 64).f : Int),((st h b 64).g : Int),((st h b 64).h : Int)] _ 8 = _
 rw [Z4i,key hs.a (H.get 0),key hs.b (H.get 1),key hs.c (H.get 2),key hs.d (H.get 3),key hs.e (H.get 4),key hs.f (H.get 5),key hs.g (H.get 6),key hs.h (H.get 7)]
 rfl
theorem Zr8 {rd fs : List Int} {S : StrM} {c : List UInt8} (hn : S.n % 64 = 0) (hR : S.R.length = 64) (hc : c.length = 64) : ∀ j,j ≤ 63 →
  S.more rd fs (c.take j) = ⟨if j = 0 then S.H else Zbo fs S.H S.n,c.take j ++ S.R.drop j,S.n + j⟩
 | 0,_ => by simp [StrM.more]
 | j + 1,hj => by
  have ih := Zr8 (rd := rd) (fs := fs) hn hR hc j (by omega)
  rw [StrM.more_snoc (by omega),ih];have h1 : ¬ (S.n + j + 1) % 64 = 0 := by omega
  have h2 : (S.n + j) % 64 = j := by omega
  unfold StrM.one
  simp only
  rw [if_neg h1,h2];have e1 : Zbo fs (if j = 0 then S.H else Zbo fs S.H S.n) (S.n + j) = Zbo fs S.H S.n := by
   unfold Zbo
   by_cases h0 : j = 0
   ·subst h0; simp
   ·rw [if_neg (by omega),if_neg h0]
  have e2 : (c.take j ++ S.R.drop j).set j (c.getD j 0) = c.take (j + 1) ++ S.R.drop (j + 1) := by
   have e0 : (c.take j).length = j := by simp; omega
   have e3 : S.R.drop j = S.R[j]'(by omega) :: S.R.drop (j + 1) := List.drop_eq_getElem_cons (by omega)
   have e4 : c.take (j + 1) = c.take j ++ [c[j]'(by omega)] := List.take_succ_eq_append_getElem (by omega)
   have e5 : c.getD j 0 = c[j]'(by omega) := by simp [List.getD_eq_getElem?_getD,show j < c.length by omega]
   rw [List.set_append_right _ _ (by omega),e0,Nat.sub_self,e3,List.set_cons_zero,e4,e5,List.append_assoc]; rfl
  rw [e1,e2,if_neg (show ¬ j + 1 = 0 by omega)]; rfl
theorem Zut {rd fs : List Int} {S : StrM} {c : List UInt8} (hn : S.n % 64 = 0) (hR : S.R.length = 64) (hc : c.length = 64) : S.more rd fs c = ⟨Zq8 rd (Zbo fs S.H S.n) c,c,S.n + 64⟩ := by
 have h := Zr8 (rd := rd) (fs := fs) hn hR hc 63 (Nat.le_refl _)
 have e : c = c.take (63 + 1) := (List.take_of_length_le (by omega)).symm
 conv => lhs; rw [e,StrM.more_snoc (by omega),h]
 have h2 : (S.n + 63) % 64 = 63 := by omega
 have hset : (c.take 63 ++ S.R.drop 63).set 63 (c.getD 63 0) = c := by
  have e0 : (c.take 63).length = 63 := by simp; omega
  have e3 : S.R.drop 63 = S.R[63]'(by omega) :: S.R.drop 64 := List.drop_eq_getElem_cons (by omega)
  have e4 : S.R.drop 64 = [] := List.drop_of_length_le (by omega)
  have e5 : c.getD 63 0 = c[63]'(by omega) := by simp [List.getD_eq_getElem?_getD,show 63 < c.length by omega]
  rw [List.set_append_right _ _ (by omega),e0,Nat.sub_self,e3,e4,List.set_cons_zero,e5];have e6 : c.take (63 + 1) = c.take 63 ++ [c[63]'(by omega)] := List.take_succ_eq_append_getElem (by omega)
  rw [← e6,← e]
 unfold StrM.one
 simp only
 rw [if_pos (by omega),h2,hset];have e1 : Zbo fs (if (63 : Nat) = 0 then S.H else Zbo fs S.H S.n) (S.n + 63) = Zbo fs S.H S.n := by
  unfold Zbo; simp
 rw [e1]
def blk (t : List UInt8) (k : Nat) : List UInt8 := (t.drop (64 * k)).take 64
def hAt (t : List UInt8) : Nat → List Nat
 | 0 => fsN
 | k + 1 => Zt4 (hAt t k) (blk t k)
theorem Zwu (t : List UInt8) : ∀ k,H8 (hAt t k)
 | 0 => Z85
 | _ + 1 => Z23 _ _
theorem Zkz (t : List UInt8) : ∀ m,64 * m ≤ t.length → (StrM.init.more roundL firstL (t.take (64 * m))).n = 64 * m ∧ (StrM.init.more roundL firstL (t.take (64 * m))).R.length = 64 ∧
  Zbo firstL (StrM.init.more roundL firstL (t.take (64 * m))).H (64 * m) = upL (hAt t m) ∧ (0 < m → (StrM.init.more roundL firstL (t.take (64 * m))).H = upL (hAt t m))
 | 0,_ => by
  refine ⟨by simp [StrM.more,StrM.init],by simp [StrM.more,StrM.init],?_,fun h => absurd h (by omega)⟩
  simp only [Zbo,Nat.mul_zero,if_true]
  exact Z6v
 | m + 1,hm => by
  obtain ⟨h1,h2,h3,_⟩ := Zkz t m (by omega)
  have e : t.take (64 * (m + 1)) = t.take (64 * m) ++ blk t m := by
   unfold blk
   rw [show 64 * (m + 1) = 64 * m + 64 by omega,List.take_add]
  have hb : (blk t m).length = 64 := by simp [blk]; omega
  rw [e,StrM.more_append];obtain ⟨S,hS⟩ : ∃ S,S = StrM.init.more roundL firstL (t.take (64 * m)) := ⟨_,rfl⟩
  rw [← hS] at h1 h2 h3 ⊢;have hbm := Zut (rd := roundL) (fs := firstL) (S := S) (c := blk t m) (by omega) h2 hb
  rw [h1,h3,Z3t (Zwu t m)] at hbm;rw [hbm];refine ⟨by simp only; omega,hb,?_,fun _ => rfl⟩
  unfold Zbo
  rw [if_neg (by omega)]; rfl
def Za1 (s : List UInt8) : List UInt8 := s ++ padB s.length
theorem Zw3 (n : Nat) : (n + 1 + gap n + 8) % 64 = 0 := by unfold gap; omega
theorem Zua {n k : Nat} (h : k < gap n) : ¬ (n + 1 + k + 8) % 64 = 0 := by unfold gap at h; omega
theorem Zee (s : List UInt8) : (Za1 s).length = s.length + 1 + gap s.length + 8 := by
 have : (lenB s.length 8).length = 8 := by simp [lenB]
 simp [Za1,padB,this]; omega
theorem Ztt (s : List UInt8) (m : Nat) (hm : (Za1 s).length = 64 * m) : (StrM.init.more roundL firstL s).sum roundL firstL = outB (upL (hAt (Za1 s) m)) := by
 unfold StrM.sum
 have hn : (StrM.init.more roundL firstL s).n = s.length := by rw [StrM.more_n]; simp [StrM.init]
 rw [hn,← StrM.more_append];have hl := Zee s
 have h := (Zkz (Za1 s) m (by omega)).2.2.2 (by omega)
 rw [List.take_of_length_le (by omega)] at h;show outB (StrM.init.more roundL firstL (Za1 s)).H = _
 rw [h]
end Cr
namespace Cr
open Go Go.Proofs
set_option maxRecDepth 100000
set_option maxHeartbeats 64000000
attribute [local irreducible] Calls

abbrev tabV : Value := .agg (ints .i64 (Zd7 310)).toArray
theorem Zz0 {n : Nat} (hn : n ≤ 1099511627776) (j : Nat) (hj : j < 8) : Zwl n j = b8 (ishr .i64 (8 * (n : Int)) (8 * (7 - j))) := by
 unfold Zwl
 have e1 : IntKind.u64.wrap (n : Int) = (n : Int) := by simp only [IntKind.wrap,IntKind.bits,IntKind.signed]; simp; omega
 have e2 : IntKind.u64.wrap ((n : Int) * 8) = ((8 * n : Nat) : Int) := by simp only [IntKind.wrap,IntKind.bits,IntKind.signed]; simp; omega
 rw [e1,e2,show 8 * (n : Int) = ((8 * n : Nat) : Int) by omega,Zl1 (k := .u64) _ _ (by show _ ≤ 64; omega),Zl1 (k := .i64) _ _ (by show _ ≤ 64; omega)]
theorem Zia (h : List Nat) : (upL h).length = h.length := by simp [upL]
theorem Zzr (H : List Int) (i k : Nat) (hk : k < 4) : Z2v H (4 * i + k) = b8 (ishr .i64 (H.getD i 0) (24 - 8 * k)) := by
 unfold Z2v
 rw [show (4 * i + k) / 4 = i by omega,show 24 - (4 * i + k) % 4 * 8 = 24 - 8 * k by omega]
 unfold ishr
 rw [show min (24 - 8 * k) IntKind.u32.bits = 24 - 8 * k from Nat.min_eq_left (by show _ ≤ 32; omega),show min (24 - 8 * k) IntKind.i64.bits = 24 - 8 * k from Nat.min_eq_left (by show _ ≤ 64; omega)]
def pre (s : List UInt8) (k : Nat) : List UInt8 := s ++ 128 :: List.replicate k 0
theorem Zf2 (s : List UInt8) (k : Nat) : (pre s k).length = s.length + 1 + k := by simp [pre]; omega
theorem Zzm (s : List UInt8) (k : Nat) : pre s (k + 1) = pre s k ++ [0] := by
 unfold pre
 rw [List.replicate_succ',List.append_assoc]; rfl
theorem Ze2 (n : Nat) : ∀ j,(lenB n j).length = j
 | 0 => rfl
 | j + 1 => by simp [lenB,Ze2 n j]
theorem Ztu (s : List UInt8) : pre s (gap s.length) ++ lenB s.length 8 = Za1 s := by simp [pre,Za1,padB]
theorem Zhw : firstL.length = 8 := by decide +kernel
theorem Zvt : roundL.length = 64 := by decide +kernel
theorem Zvn : Seg (ints .i64 (firstL ++ roundL)) 0 8 (ints .i64 firstL) := ⟨by
 refine ⟨?_,by rw [ints_length,Zhw]⟩
 unfold ints
 rw [List.map_append,List.drop_zero,List.take_append_of_le_length (by simp [Zhw]),List.take_of_length_le (by simp [Zhw])]⟩
theorem Z4t (a : Option Addr) (c : Nat) (s : List UInt8) (W : World) (hs : Rd W (bytes a s)) (hl : s.length ≤ 1099511627776) (m : Nat) (hm : (Za1 s).length = 64 * m) :
  Calls Tryz.prog 20 #[tabV,.slice a s.length c] W (Ret fun v w => v = .agg (bv (outB (upL (hAt (Za1 s) m)))).toArray ∧ St W noF [] w) := by
 have hS := St.start W
 have hgl : gap s.length < 64 := by unfold gap; omega
 refine Zab Tryz.func20 rfl Tryz.ntmps20 rfl ?_
 repeat (first|refine Yeb ?_|refine Yaf ?_|refine Yba (fun _ _ hS _ => ?_)|refine Yar (fun _ _ hS _ => ?_)|refine Ybe (fun _ _ hS _ => ?_)|refine Yec ?_|refine Yab ?_)
 rename_i b2 _ _ _ b4 _ _ _ _ _ _;refine Zas rfl rfl rfl rfl rfl hS rfl (Nat.le_refl _) (hs.ro.rd hS) (by simp) Zdb (by omega) (by simp only [maxLen]; omega) (fun p1 c1 w hS hc1 _ => ?_)
 rw [List.nil_append] at hS;rw [Nat.zero_add] at hc1 ⊢;repeat (first|refine Yeb ?_|refine Yeq ?_|refine Ybe (fun _ _ hS _ => ?_)|refine Yec ?_|refine Yab ?_)
 refine Zas rfl rfl rfl rfl rfl hS (by simp) hc1 hS.ownRd rfl (fun u hu => by
  simp only [List.mem_cons,List.not_mem_nil,or_false] at hu
  subst hu; rfl) (by omega) (by simp only [maxLen]; omega) (fun p2 c2 w hS hc2 _ => ?_)
 have hS : St W noF [own 5 1 p2 c2 (bv s ++ [.int .u8 128]),pts b4 (.cells (List.replicate 32 (.int .u8 0)).toArray 54),pts b2 (.cells (ints .i64 (Zd7 310)).toArray 60)] w := hS.took
 rw [show bv s ++ [Value.int .u8 128] = bv (pre s 0) by simp [pre,bv]] at hS
 repeat (first|refine Yeb ?_|refine Yag ?_|refine Yae ?_|refine Yak ?_|refine Yab ?_)
 refine Zbq (α := Option Addr × Nat) (fun z => [(1,.slice a s.length c),(2,.pointer (some ⟨b2,0,none⟩)),(4,.pointer (some ⟨b4,0,none⟩)),(5,.slice z.1 (pre s (gap s.length)).length z.2)])
  (fun z w => (pre s (gap s.length)).length ≤ z.2 ∧ St W noF [own 5 1 z.1 z.2 (bv (pre s (gap s.length))),pts b4 (.cells (List.replicate 32 (.int .u8 0)).toArray 54),pts b2 (.cells (ints .i64 (Zd7 310)).toArray 60)] w) ?_ ?_
 ·refine Zaj (α := Nat × Option Addr × Nat) (fun z => [(1,.slice a s.length c),(2,.pointer (some ⟨b2,0,none⟩)),(4,.pointer (some ⟨b4,0,none⟩)),(5,.slice z.2.1 (s.length + 1 + z.1) z.2.2)])
   (fun z w => z.1 ≤ gap s.length ∧ s.length + 1 + z.1 ≤ z.2.2 ∧ St W noF [own 5 1 z.2.1 z.2.2 (bv (pre s z.1)),pts b4 (.cells (List.replicate 32 (.int .u8 0)).toArray 54),pts b2 (.cells (ints .i64 (Zd7 310)).toArray 60)] w) (fun z => gap s.length - z.1) (0,p2,c2)
   ⟨rfl,rfl,rfl,rfl,trivial⟩ ⟨Nat.zero_le _,hc2,hS⟩ ?_
  clear hS;rintro ⟨k,pk,ck⟩ w ⟨hk,hck,hS⟩
  simp only at hk hck hS ⊢
  by_cases h1 : k < gap s.length
  ·have hgb := Zua h1
   repeat (first|refine Yeb ?_|(refine X_id ?_;first|refine Yaf ?_|refine Yat ?_|refine Ybj ?_|refine Yaw ?_|refine Yb8 ?_|refine Ybe (fun _ _ hS _ => ?_))|refine Yef ?_|refine Yab ?_)
   refine Zas rfl rfl rfl rfl rfl hS (by rw [Zak,Zf2,Nat.mul_one]) hck (hS.rd (List.mem_cons_self ..)).own_row rfl (fun u hu => by
    simp only [List.mem_cons,List.not_mem_nil,or_false] at hu
    subst hu; rfl) (by omega) (by simp only [maxLen]; omega) (fun p' c' w hS hc' _ => ?_)
   rw [show bv (pre s k) ++ [Value.int .u8 0] = bv (pre s (k + 1)) by rw [Zzm,Zb8]; rfl] at hS
   repeat (first|refine Yeb ?_|refine Yag ?_|refine Yas ?_)
   exact Zae (z := (k,pk,ck)) (k + 1,p',c') ⟨rfl,rfl,rfl,rfl,trivial⟩ ⟨by simp only; omega,hc',hS.took⟩ (by simp only; omega)
  ·obtain rfl : k = gap s.length := by omega
   have hgm := Zw3 s.length
   repeat (first|refine Yeb ?_|(refine X_id ?_;first|refine Yaf ?_|refine Yat ?_|refine Ybc ?_|refine Yaw ?_|refine Yb8 ?_)|refine Yeo ?_|refine Yeh ?_)
   refine Zbw (pk,ck) ⟨rfl,rfl,rfl,?_,trivial⟩ ⟨by rw [Zf2]; exact hck,hS⟩
   simp only [Zf2]; rfl
 clear hS;rintro ⟨pz,cz⟩ w ⟨hcz,hS⟩
 simp only at hcz hS ⊢
 obtain ⟨P,hP⟩ : ∃ P,P = pre s (gap s.length) := ⟨_,rfl⟩
 have hPl : P.length ≤ s.length + 65 := by rw [hP,Zf2]; omega
 rw [← hP] at hcz hS ⊢;repeat (first|refine Yeb ?_|refine Yag ?_|refine Yee ?_|refine Yab ?_)
 refine Zbq (α := Option Addr × Nat) (fun z => [(2,.pointer (some ⟨b2,0,none⟩)),(4,.pointer (some ⟨b4,0,none⟩)),(5,.slice z.1 (P ++ lenB s.length 8).length z.2)])
  (fun z w => (P ++ lenB s.length 8).length ≤ z.2 ∧ St W noF [own 5 1 z.1 z.2 (bv (P ++ lenB s.length 8)),pts b4 (.cells (List.replicate 32 (.int .u8 0)).toArray 54),pts b2 (.cells (ints .i64 (Zd7 310)).toArray 60)] w) ?_ ?_
 ·refine Zaj (α := Nat × Option Addr × Nat) (fun z => [(1,.slice a s.length c),(2,.pointer (some ⟨b2,0,none⟩)),(4,.pointer (some ⟨b4,0,none⟩)),(5,.slice z.2.1 (P.length + z.1) z.2.2),(6,.int .i64 (7 - (z.1 : Nat)))])
   (fun z w => z.1 ≤ 8 ∧ P.length + z.1 ≤ z.2.2 ∧ St W noF [own 5 1 z.2.1 z.2.2 (bv (P ++ lenB s.length z.1)),pts b4 (.cells (List.replicate 32 (.int .u8 0)).toArray 54),pts b2 (.cells (ints .i64 (Zd7 310)).toArray 60)] w) (fun z => 8 - z.1) (0,pz,cz)
   ⟨rfl,rfl,rfl,rfl,rfl,trivial⟩ ⟨Nat.zero_le _,hcz,by simpa [lenB] using hS⟩ ?_
  clear hS;rintro ⟨k,pk,ck⟩ w ⟨hk,hck,hS⟩
  simp only at hk hck hS ⊢
  by_cases h1 : k < 8
  ·repeat (first|refine Yeb ?_|(refine X_id ?_;first|refine Yaf ?_|refine Yat ?_|refine Yb2 ?_|refine Yb1 ?_|refine Ycs ?_|refine Ycp ?_|refine Ybe (fun _ _ hS _ => ?_))|refine Yef ?_|refine Yab ?_)
   refine Zas rfl rfl rfl rfl rfl hS (by rw [Zak,List.length_append,Ze2,Nat.mul_one]) hck (hS.rd (List.mem_cons_self ..)).own_row rfl (fun u hu => by
    simp only [List.mem_cons,List.not_mem_nil,or_false] at hu
    subst hu; rfl) (by omega) (by simp only [maxLen]; omega) (fun p' c' w hS hc' _ => ?_)
   rw [show (8 * (7 - (k : Int))).toNat = 8 * (7 - k) by omega,← Zz0 hl k h1,show bv (P ++ lenB s.length k) ++ [Value.int .u8 (Zwl s.length k).toNat] = bv (P ++ lenB s.length (k + 1)) by rw [lenB,← List.append_assoc,Zb8 _ [Zwl s.length k]]; rfl] at hS
   repeat (first|refine Yeb ?_|refine Yaf ?_|refine Yag ?_|refine Ybv ?_|refine Yad ?_|refine Yej ?_)
   exact Zae (z := (k,pk,ck)) (k + 1,p',c') ⟨rfl,rfl,rfl,rfl,(by show some _ = some _; congr 2; push_cast; omega),trivial⟩ ⟨by simp only; omega,hc',hS.took⟩ (by simp only; omega)
  ·obtain rfl : k = 8 := by omega
   repeat (first|refine Yeb ?_|refine Yaf ?_|refine Yb6 ?_|refine Yeo ?_|refine Yeh ?_)
   refine Zbw (pk,ck) ⟨rfl,rfl,?_,trivial⟩ ⟨by rw [List.length_append,Ze2]; exact hck,hS⟩
   simp only [List.length_append,Ze2]; rfl
 clear hS hcz;rintro ⟨py,cy⟩ w ⟨hcz,hS⟩
 simp only at hcz hS ⊢
 subst hP
 rw [Ztu] at hcz hS ⊢;clear hPl;have hln : (Za1 s).length ≤ 1099511627776 + 100 := by rw [Zee]; omega
 rw [hm] at hln hcz ⊢;obtain ⟨T,hT⟩ : ∃ T,T = Zd7 310 := ⟨_,rfl⟩
 have hTs : T = firstL ++ roundL := hT.trans Zy7
 have hT72 : T.length = 72 := by rw [hTs,List.length_append,Zhw,Zvt]
 have hl72 : LenO (ints .i64 T) 72 := ⟨by rw [ints_length,hT72]⟩
 have hsg : Seg (ints .i64 T) 0 8 (ints .i64 (upL (hAt (Za1 s) 0))) := by
  show Seg _ 0 8 (ints .i64 (upL fsN))
  rw [← Z6v,hTs]; exact Zvn
 have hl8 : ∀ k,LenO (ints .i64 (upL (hAt (Za1 s) k))) 8 := fun k => ⟨by rw [ints_length,Zia,(Zwu _ k).len]⟩
 rw [← hT] at hS;clear hT;repeat (first|refine Yeb ?_|(refine X_id ?_;first|refine Yag ?_|refine Yan ?_|refine Ybi ?_|refine Yb9 (fun _ hS => ?_)|refine Yar (fun _ _ hS _ => ?_))|refine Yee ?_|refine Yab ?_)
 rename_i b7 _ _ _ _;refine Zbq (α := Unit) (fun _ => [(4,.pointer (some ⟨b4,0,none⟩)),(7,.pointer (some ⟨b7,0,none⟩))])
  (fun _ w => St W noF [pts b7 (.cells (ints .i64 (upL (hAt (Za1 s) m))).toArray 57),pts b4 (.cells (List.replicate 32 (.int .u8 0)).toArray 54)] w) ?_ ?_
 ·refine Zaj (α := Nat) (fun k => [(2,.pointer (some ⟨b2,0,none⟩)),(4,.pointer (some ⟨b4,0,none⟩)),(5,.slice py (64 * m) cy),(7,.pointer (some ⟨b7,0,none⟩)),(8,.int .i64 ((64 * k : Nat) : Int))])
   (fun k w => k ≤ m ∧ St W noF [pts b7 (.cells (ints .i64 (upL (hAt (Za1 s) k))).toArray 57),own 5 1 py cy (bv (Za1 s)),pts b4 (.cells (List.replicate 32 (.int .u8 0)).toArray 54),pts b2 (.cells (ints .i64 T).toArray 60)] w) (fun k => m - k) 0
   ⟨rfl,rfl,rfl,rfl,rfl,trivial⟩ ⟨Nat.zero_le _,hS⟩ ?_
  clear hS;rintro k w ⟨hk,hS⟩
  have hlk := hl8 k
  have hlk1 := hl8 (k + 1)
  by_cases h1 : k < m
  ·have hbl : (blk (Za1 s) k).length = 64 := by unfold blk; simp; omega
   have htn : ∀ w,Rd w (bytes (sub py (64 * k) 1 cy) (blk (Za1 s) k)) → Calls Tryz.prog 54 #[.agg (ints .i64 T).toArray,.agg (ints .i64 (upL (hAt (Za1 s) k))).toArray,.slice (sub py (64 * k) 1 cy) 64 (cy - 64 * k)] w (Ret fun v w' => v = .agg (ints .i64 (upL (hAt (Za1 s) (k + 1)))).toArray ∧ St w noF [] w') := fun w hr => by
    have h := Z7x T (upL (hAt (Za1 s) k)) hT72 (by rw [Zia,(Zwu _ k).len]) _ (cy - 64 * k) _ w hr hbl
    rw [hTs,Z14 (Zwu _ _)] at h;rw [hTs];exact h
   have hrd : ∀ {w : World} {rs : List Res},St W noF rs w → own 5 1 py cy (bv (Za1 s)) ∈ rs → Rd w (bytes (sub py (64 * k) 1 cy) (blk (Za1 s) k)) := fun {w rs} h hm => by
    have := Rd.subBytes (w := w) (a := py) (s := Za1 s) (l := 64 * k) (h := 64 * k + 64) (c := cy) ((h.rd hm).own_row) (by omega) (by omega)
    rw [show 64 * k + 64 - 64 * k = 64 by omega] at this
    exact this
   repeat (first|refine Yeb ?_|refine Yaf ?_|refine Yat ?_|refine Ya1 ?_|refine Yef ?_|refine Yab ?_)
   refine Zao (.s 0 (.s 1 (.s 2 (.s 3 (.s 4 (.s 5 (.s 6 (.h 7 (.h 8 .nil .no) .no)))))))) mixed (by kernel_rfl) rfl ?_
   have hS := hS.drew
   repeat (first|(refine Zaf ?_;first|refine Ya6 ?_|refine Ycl ?_|refine Yb0 ?_))
   refine Zai rfl rfl (fun _ => Zaq (l := 64 * k) (h := 64 * k + 64) rfl rfl rfl rfl (.inr ⟨_,_,rfl,by omega,by omega,by omega⟩) (.inr ⟨_,_,rfl,by omega,by omega,by omega⟩)) rfl rfl ?_
   rw [show 64 * k + 64 - 64 * k = 64 by omega]
   repeat (first|refine Yeb ?_|(refine X_id ?_;first|(refine Zac 54 rfl rfl rfl rfl rfl hS (htn _ (hrd hS (by simp))) ?_;rintro _ _ rfl hS)|refine Yer ?_|refine Yb9 (fun _ hS => ?_))|refine Yad ?_|refine Yej ?_|(refine Zaf ?_;first|refine Ya2 ?_|refine Yax ?_)|(refine Zad ?_;first|refine Yay ?_))
   exact Zae (k + 1) ⟨rfl,rfl,rfl,rfl,(by show some _ = some _; congr 2; try (push_cast; omega)),trivial⟩ ⟨h1,hS.took⟩ (by omega)
  ·obtain rfl : k = m := by omega
   repeat (first|refine Yeb ?_|refine Yaf ?_|refine Yat ?_|refine Yaz ?_|refine Yeo ?_|refine Yeh ?_)
   exact Zbw () ⟨rfl,rfl,trivial⟩ hS.took
 clear hS;rintro _ w hS
 obtain ⟨H,hH⟩ : ∃ H,H = upL (hAt (Za1 s) m) := ⟨_,rfl⟩
 have hH8 : H.length = 8 := by rw [hH,Zia,(Zwu _ m).len]
 rw [← hH] at hS ⊢;repeat (first|refine Yeb ?_|refine Yag ?_|refine Yar (fun _ _ hS _ => ?_)|refine Yee ?_|refine Yab ?_)
 rename_i b9 _ _;rw [Zfs] at hS;refine Zaj (α := Nat) (fun i => [(4,.pointer (some ⟨b4,0,none⟩)),(7,.pointer (some ⟨b7,0,none⟩)),(9,.pointer (some ⟨b9,0,none⟩)),(10,.int .i64 (i : Nat))])
  (fun i w => i ≤ 8 ∧ St W noF [pts b9 (.cells (bv (Zkb H (4 * i))).toArray 54),pts b7 (.cells (ints .i64 H).toArray 57),pts b4 (.cells (bv (List.replicate 32 0)).toArray 54)] w) (fun i => 8 - i) 0
  ⟨rfl,rfl,rfl,rfl,trivial⟩ ⟨Nat.zero_le _,hS⟩ ?_
 clear hS;rintro i w ⟨hi,hS⟩
 by_cases h1 : i < 8
 ·repeat (first|refine Yeb ?_|refine Yaf ?_|refine Yag ?_|refine Ya1 ?_|refine Yef ?_|refine Yab ?_)
  refine Zaj (α := Nat) (fun k => [(4,.pointer (some ⟨b4,0,none⟩)),(7,.pointer (some ⟨b7,0,none⟩)),(9,.pointer (some ⟨b9,0,none⟩)),(10,.int .i64 (i : Nat)),(11,.int .i64 (k : Nat))])
   (fun k w => k ≤ 4 ∧ St W noF [pts b9 (.cells (bv (Zkb H (4 * i + k))).toArray 54),pts b7 (.cells (ints .i64 H).toArray 57),pts b4 (.cells (bv (List.replicate 32 0)).toArray 54)] w) (fun k => 4 - k) 0
   ⟨rfl,rfl,rfl,rfl,rfl,trivial⟩ ⟨Nat.zero_le _,by rw [Nat.add_zero]; exact hS⟩ ?_
  clear hS;rintro k w ⟨hk,hS⟩
  obtain ⟨L,hLe⟩ : ∃ L,L = Zkb H (4 * i + k) := ⟨_,rfl⟩
  have hL : L.length = 32 := by rw [hLe]; exact Zc6 H _
  rw [← hLe] at hS;by_cases h2 : k < 4
  ·repeat (first|refine Yeb ?_|(refine X_id ?_;first|refine Yaf ?_|refine Yag ?_|refine Ya1 ?_|refine Ycj ?_|refine Yaw ?_|refine Ybv ?_|refine Yb1 ?_|refine Ycs ?_|refine Ycp ?_|refine X_yl (Zau rfl rfl (hS.cellI (by omega))) rfl rfl ?_|refine Zjr rfl rfl rfl rfl hS (by omega) (fun _ hS => ?_))|refine Yef ?_|refine Yej ?_)
   refine Zae (k + 1) ⟨rfl,rfl,rfl,rfl,rfl,trivial⟩ ⟨h2,?_⟩ (by omega)
   rw [show 0 + (4 * (i : Int) + k).toNat * 1 = 4 * i + k by omega,show 0 + (i : Int).toNat * 1 = i by omega,show (24 - 8 * (k : Int)).toNat = 24 - 8 * k by omega,hLe,← Zzr H i k h2] at hS
   exact hS
  ·obtain rfl : k = 4 := by omega
   repeat (first|refine Yeb ?_|refine Yaf ?_|refine Yag ?_|refine Yaz ?_|refine Yaw ?_|refine Yeo ?_|refine Yfk ?_)
   exact Zae (i + 1) ⟨rfl,rfl,rfl,rfl,trivial⟩ ⟨h1,by rw [show 4 * (i + 1) = 4 * i + 4 by omega,← hLe]; exact hS⟩ (by omega)
 ·obtain rfl : i = 8 := by omega
  rw [show 4 * 8 = 32 from rfl] at hS;obtain ⟨L,hLe⟩ : ∃ L,L = Zkb H 32 := ⟨_,rfl⟩
  rw [← hLe] at hS;have hlen : LenO (bv L) 32 := ⟨by rw [Zak,hLe,Zc6]⟩
  repeat (first|refine Yeb ?_|refine Yaf ?_|refine Yaz ?_|refine Ybi ?_|refine Yb9 (fun _ hS => ?_)|refine Yek ?_|refine Yel ?_)
  exact ⟨by rw [hLe]; rfl,hS.drops⟩
end Cr
namespace Cr
open Go Go.Proofs
set_option maxHeartbeats 64000000
def sha (s : List UInt8) : List UInt8 := (StrM.init.more roundL firstL s).sum roundL firstL
theorem Zif (s : List UInt8) : (sha s).length = 32 := by unfold sha StrM.sum; exact Ze0 _
theorem Z4o (s : List UInt8) (m : Nat) (hm : (Za1 s).length = 64 * m) : sha s = outB (upL (hAt (Za1 s) m)) := Ztt s m hm
attribute [irreducible] sha
theorem Z72 (a : Option Addr) (c : Nat) (s : List UInt8) (W : World) (hs : Rd W (bytes a s)) (hl : s.length ≤ 1099511627776) :
  Calls Tryz.prog 20 #[tabV,.slice a s.length c] W (Ret fun v w => v = .agg (bv (sha s)).toArray ∧ St W noF [] w) := by
 obtain ⟨m,hm⟩ : ∃ m,(Za1 s).length = 64 * m := ⟨(Za1 s).length / 64,by
  have := Zw3 s.length
  rw [Zee]; omega⟩
 rw [Z4o s m hm];exact Z4t a c s W hs hl m hm
theorem Zun (l : List (List UInt8)) : digest roundL firstL l = sha (Zaz l) := by
 unfold digest sha; rfl
end Cr
namespace Cr
open Go Go.Proofs
set_option maxRecDepth 100000
set_option maxHeartbeats 64000000
attribute [local irreducible] Calls

theorem Zw6 (n : Nat) : Zko n = [b8 (ishr .i64 n 24),b8 (ishr .i64 n 16),b8 (ishr .i64 n 8),b8 n] := by
 have e : ishr .i64 (n : Int) 0 = n := by unfold ishr; simp
 show [Zgv n 0,Zgv n 1,Zgv n 2,Zgv n 3] = _
 unfold Zgv
 rw [show 8 * (3 - 3) = 0 from rfl,e]
theorem Z3i (a : Option Addr) (c : Nat) (l : List Bs) (W : World) (hB : Bss W noF a l) (hn : (Zaz (Zbe l)).length ≤ 1099511627776) :
  Calls Tryz.prog 22 #[.slice a l.length c] W (Ret fun v w => ∃ p k,v = .slice p (Zaz (Zbe l)).length k ∧ St W noF [bytes p (Zaz (Zbe l))] w) := by
 have hS := St.start W
 have hll : l.length * 4 ≤ (Zaz (Zbe l)).length := by
  clear hn hS hB
  induction l with
  | nil => simp
  | cons x l ih => simp only [Zbe,Zaz,List.map_cons,List.flatMap_cons,List.length_append,Za2,List.length_cons] at ih ⊢; omega
 refine Zab Tryz.func22 rfl Tryz.ntmps22 rfl ?_
 repeat (first|refine Yeb ?_|refine Yag ?_|refine Yee ?_|refine Yab ?_)
 refine Zaj (α := Nat × Option Addr × Nat) (fun z => [(0,.slice a l.length c),(3,.slice z.2.1 (Zaz ((Zbe l).take z.1)).length z.2.2),(4,.int .i64 (z.1 : Nat))])
  (fun z w => z.1 ≤ l.length ∧ (Zaz ((Zbe l).take z.1)).length ≤ z.2.2 ∧ St W noF [own 5 1 z.2.1 z.2.2 (bv (Zaz ((Zbe l).take z.1)))] w) (fun z => l.length - z.1) (0,none,0) ⟨rfl,rfl,rfl,trivial⟩ ⟨Nat.zero_le _,Nat.le_refl _,hS.own_none _ _ _⟩ ?_
 clear hS;rintro ⟨i,pa,pc⟩ w ⟨hi,hc,hS⟩
 simp only at hi hc hS ⊢
 have hle := Zc3 (Zbe l) i
 by_cases h1 : i < l.length
 ·have hx0 : l[i]? = some l[i] := List.getElem?_eq_getElem h1
  generalize l[i] = x at hx0;have hxb := hB.all x (List.mem_of_getElem? hx0)
  have hj := Zgu (l := Zbe l) (i := i) (x := x.s) (by simp [Zbe,hx0])
  have hle1 := Zc3 (Zbe l) (i + 1)
  rw [hj,List.length_append,List.length_append,Za2] at hle1;obtain ⟨F,hF⟩ : ∃ F,F = Zaz ((Zbe l).take i) := ⟨_,rfl⟩
  rw [← hF] at hS hc hle hle1 hj ⊢;have hr := hB.row
  have hx : (l.map Bs.val)[i]? = some (.slice x.a x.s.length x.c) := by simp [hx0,Bs.val]
  obtain ⟨ab,ao,rfl⟩ := (hr.rd hS).base (by intro e; rw [e] at hx; simp at hx)
  repeat (first|refine Yeb ?_|(refine X_id ?_;first|refine Yaf ?_|refine Yag ?_|refine Yat ?_|refine Ya1 ?_|refine Ybd ?_|refine Ycs ?_|refine Ycp ?_|refine Yb7 ?_|refine Ybe (fun _ _ hS _ => ?_))|refine Yef ?_|refine Yab ?_)
  have hfb : [Value.int .u8 ((b8 (ishr .i64 (x.s.length : Int) 24)).toNat : Int),.int .u8 ((b8 (ishr .i64 (x.s.length : Int) 16)).toNat : Int),.int .u8 ((b8 (ishr .i64 (x.s.length : Int) 8)).toNat : Int),.int .u8 ((b8 (x.s.length : Int)).toNat : Int)] = bv (Zko x.s.length) := by rw [Zw6]; rfl
  refine Zas rfl rfl rfl rfl rfl hS (by simp) hc (hS.rd (List.mem_cons_self ..)).own_row rfl (fun u hu => by
   simp only [List.mem_cons,List.not_mem_nil,or_false] at hu
   rcases hu with rfl | rfl | rfl | rfl <;> rfl) (by omega) (by simp only [maxLen]; omega) (fun a1 c1 w hS hc1 _ => ?_)
  repeat (first|refine Yeb ?_|refine Yaf ?_|refine Yag ?_|refine Ybd ?_|refine Yb7 ?_|refine Yad ?_|refine Yab ?_)
  refine Zas rfl rfl rfl rfl rfl hS (by simp) hc1 (hxb.rd hS) (by simp) Zdb (by omega) (by simp only [maxLen]; omega) (fun a2 c2 w hS hc2 _ => ?_)
  repeat (first|refine Yeb ?_|refine Yer ?_|refine Yad ?_|refine Yej ?_)
  refine Zae (z := (i,pa,pc)) (i + 1,a2,c2) ⟨rfl,?_,rfl,trivial⟩ ⟨h1,?_,?_⟩ (by simp only; omega)
  ·show some _ = some _
   rw [hj,List.length_append,List.length_append,Za2,Nat.add_assoc]
  ·simp only; rw [hj,List.length_append,List.length_append,Za2]; omega
  ·simp only
   rw [hj,Zb8,Zb8,← hfb,← List.append_assoc];exact hS.pick [0]
 ·obtain rfl : i = l.length := by omega
  repeat (first|refine Yeb ?_|refine Yaf ?_|refine Yag ?_|refine Yat ?_|refine Yaz ?_|refine Yek ?_|refine Yfd ?_)
  have e : (Zbe l).take l.length = Zbe l := by rw [show l.length = (Zbe l).length by simp [Zbe],List.take_length]
  rw [e] at hS ⊢;exact ⟨pa,pc,rfl,hS.head fun _ h => h.row⟩
theorem Zrg {P : Program} {o : Oper} {σ : Env} {w : World} {t ty : TypeId} {x y : Operand} {a b : Bool} (c : Bool) (ho : o.op = .binOp .eql t x y ty) (hx : ev σ x = some (.bool a)) (hy : ev σ y = some (.bool b)) [h : Und P t .bool] (hc : (a == b) = c) : Yl P o σ w (.bool c) := ⟨fun N ds f ha => by
 subst hc
 have h2 := run_eql_bool (P := P) w t a b h.und
 simp [execOp,ho,ha.eval hx,ha.eval hy,eqGuard,h2]⟩
theorem applySeals_ (a : Option Addr) (bs0 : List UInt8) (q : Nat) (size : Int) (W : World) (hq : bs0.length ≤ q) (hb0 : Ro W noF (bytes a bs0)) (hG : Gl W noF roundL firstL) (hL : Lg W noF) :
  Calls Tryz.prog 4 #[.slice a bs0.length q,.int .i64 size] W (Ret fun v w => v = .bool true ∧ St W noF [] w) := by
 have hS := St.start W
 obtain ⟨hM,hhM⟩ : ∃ hM : Nat,hM = min bs0.length 2000 := ⟨_,rfl⟩
 have hmin2 : min ((bs0.length : Nat) : Int) 2000 = (hM : Nat) := by omega
 have hsb := hb0.subBytes (l := 0) (h := hM) (c := q) (by omega) (by omega)
 rw [List.drop_zero,Nat.sub_zero] at hsb;have hbl0 : (bs0.take hM).length = hM := by rw [List.length_take]; omega
 obtain ⟨bs,hbs⟩ : ∃ bs,bs = bs0.take hM := ⟨_,rfl⟩
 rw [← hbs] at hsb hbl0;have hbl : bs.length ≤ 2000 := by omega
 refine Zab Tryz.func4 rfl Tryz.ntmps4 rfl ?_
 repeat (first|refine Yeb ?_|refine Ye4 ?_|refine Yec ?_|refine Yab ?_)
 refine X_yl (Znu rfl rfl rfl) rfl rfl ?_
 rw [hmin2];repeat (first|refine Yaa ?_)
 refine X_yl (Zaq (l := 0) (h := hM) rfl rfl rfl rfl (.inr ⟨_,_,rfl,by omega,by omega,by omega⟩) (.inl ⟨rfl,rfl⟩)) rfl rfl ?_
 rw [show hM - 0 = bs.length by omega]
 generalize q - 0 = q2;generalize sub a 0 1 q = sa at hsb ⊢;repeat (first|refine Yeb ?_|(refine X_id ?_;first|refine Yaf ?_|refine Yag ?_|refine Ycc ?_|refine Yc0 ?_|refine Yc8 ?_)|refine Yec ?_|refine Yab ?_)
 obtain ⟨Z,hZ,hZ1,hZ2⟩ : ∃ Z : Nat,IntKind.i64.wrap (16380 + IntKind.i64.wrap ((IntKind.u64.wrap size).tmod 9)) = (Z : Nat) ∧ 16380 ≤ Z ∧ Z ≤ 16388 := by
  have hw0 : 0 ≤ IntKind.u64.wrap size := by simp [IntKind.wrap,IntKind.bits,IntKind.signed]; omega
  obtain ⟨K,hK⟩ : ∃ K,K = (IntKind.u64.wrap size).tmod 9 := ⟨_,rfl⟩
  have hK0 : 0 ≤ K ∧ K < 9 := by rw [hK,Int.tmod_eq_emod_of_nonneg hw0]; omega
  refine ⟨(16380 + K).toNat,?_,by omega,by omega⟩
  have e1 : IntKind.i64.wrap K = K := w64 (by omega) (by omega)
  rw [← hK,e1,w64 (by omega) (by omega)];omega
 rw [hZ];refine Zaa _ rfl rfl rfl rfl rfl (Zss roundL firstL _ (hG.mono fun _ hr => (hr.rd hS).ro) (hL.at_ hS)) ?_
 rintro _ w ⟨lp,tp,dp,f,c,r,rfl,hS'⟩
 replace hS := hS.plus hS';clear hS';obtain ⟨F1,hS1,hro,hw1,hbk1⟩ := hS.call [true]
 have hT := Zru (hro (pts f (.cells (List.toArray [.pointer (some ⟨tp,0,none⟩),.int .i64 0]) 168 (0,0))) (by simp)) (hro (itab roundL firstL tp lp dp 400 2 80 400 (Zby 80)) (by simp))
 have hL1 := hL.mono fun r hr => hw1 r hr
 have hG1 := hG.mono fun r hr => hw1 r hr
 have hsb1 := hw1 _ hsb
 clear hS hro hsb hZ;have hS : St w F1 [chR c f 0 (atT (Zby 80)) (Nt t0) []] w := hS1
 clear hS1;repeat (first|refine Yeb ?_|refine Ye5 ?_|refine Ydr (fun _ _ hS => ?_)|refine Yec ?_|refine Yab ?_)
 rename_i kb _;obtain ⟨zs,hzs⟩ : ∃ zs,zs = List.replicate Z (0 : UInt8) := ⟨_,rfl⟩
 rw [← hzs] at hS;have hzl : zs.length = Z := by rw [hzs,List.length_replicate]
 obtain ⟨e,t1,hke,hst,he⟩ : ∃ e t1,Zff 80 t0 Zmr 1 zs = (e,t1) ∧ SealT t1 ∧ ((e = 0 ∧ ¬ 16384 < Z) ∨ (e = 2 ∧ 16384 < Z)) := by
  by_cases h : 16384 < Z
  ·exact ⟨2,t0,Zvo tool_right (by omega),Z2k,.inr ⟨rfl,h⟩⟩
  ·obtain ⟨h1,h2⟩ := Zvp tool_right (b := zs) (by omega)
   exact ⟨_,_,rfl,h2,.inl ⟨h1,h⟩⟩
 obtain ⟨_,hcc,hr1,hw,hbk⟩ := hS.call [false,true]
 have hby : Ro _ _ (bytes (some ⟨kb,0,none⟩) zs) := (hr1 _ (List.mem_cons_self ..)).mono fun h hh => ⟨h,Zgp h hh,fun _ _ e => e⟩
 have hkeep := Z6m Zvh Zmr 1 (some ⟨kb,0,none⟩) zs Z (by omega) (by omega) _ _ (hT.mono hw) (hL1.mono hw) hby hcc
 rw [hzl,hke] at hkeep;refine Zaa _ rfl rfl rfl rfl rfl hkeep ?_
 rintro _ w ⟨X1,hX1,rfl,hS⟩
 replace hS := hbk hS
 clear hbk hw hcc hr1 hby hkeep hke;have hS : St _ F1 [chR c f 0 (atT (Zby 80)) (Nt t1) X1] w := hS.took
 simp only
 repeat (first|refine Yeb ?_|(refine X_id ?_;first|(refine Zac 15 rfl rfl rfl rfl rfl hS (Zks _) ?_;rintro _ _ rfl hS)|(refine Zac 16 rfl rfl rfl rfl rfl hS (Zv6 _ _) ?_;rintro _ _ rfl hS)|(refine Zac 17 rfl rfl rfl rfl rfl hS (Zxk _) ?_;rintro _ _ rfl hS)|(refine Zac 8 rfl rfl rfl rfl rfl hS (Zz3 _ _ _) ?_;rintro _ _ rfl hS)|(refine Zac 13 rfl rfl rfl rfl rfl hS (Zue _ _ _) ?_;rintro _ _ rfl hS)|refine Ye5 ?_|refine Ybe (fun _ _ hS _ => ?_))|refine Yec ?_|refine Yab ?_)
 replace hS := hS.front (chR c f 0 (atT (Zby 80)) (Nt t1) X1)
 obtain ⟨_,hcc,hr1,hw,hbk⟩ := hS.call [true]
 refine Zaa _ rfl rfl rfl rfl rfl (Zkt (p := [Zzs]) hst.ok (hst.no (by decide) (by decide)).2 (by decide) (by simp) _ 1 _ _ (hT.mono hw) (hL1.mono hw) (hr1 _ (List.mem_cons_self ..)).own_row hcc) ?_
 rintro _ w ⟨X2,hX2,rfl,hS⟩
 replace hS := hbk hS
 clear hbk hw hcc hr1;obtain ⟨f1,f2,f3⟩ := hst.file
 repeat (first|refine Yeb ?_|(refine X_id ?_;first|refine Yaf ?_|refine Yag ?_|refine Ya0 ?_|refine Ybm ?_|refine Ybe (fun _ _ hS _ => ?_))|refine Yec ?_|refine Yab ?_)
 replace hS := hS.front (chR c f 0 (atT (Zby 80)) (Nt t1) X2)
 obtain ⟨_,hcc,hr1,hw,hbk⟩ := hS.call [true]
 refine Zaa _ rfl rfl rfl rfl rfl (Zxj hst.ok file0 none 0 _ [Ze3] 1 _ _ (hT.mono hw) (hL1.mono hw) (Zh5 _ _ _) (hr1 _ (List.mem_cons_self ..)).own_row (by simp) (by simp) hcc) ?_
 rintro _ w ⟨X3,hX3,rfl,hS⟩
 replace hS := hbk hS
 clear hbk hw hcc hr1;rw [f1];generalize (Zbf 80 t1 file0 [Ze3]).2 = t2 at hS f2 f3;repeat (first|refine Yeb ?_|refine Yaf ?_|refine Ybe (fun _ _ hS _ => ?_)|refine Yec ?_|refine Yab ?_)
 replace hS := hS.front (chR c f 0 (atT (Zby 80)) (Nt t2) X3)
 obtain ⟨_,hcc,hr1,hw,hbk⟩ := hS.call [true]
 refine Zaa _ rfl rfl rfl rfl rfl (Zkt (p := [Ze3]) f2 f3 (by decide) (by simp) _ 1 _ _ (hT.mono hw) (hL1.mono hw) (hr1 _ (List.mem_cons_self ..)).own_row hcc) ?_
 rintro _ w ⟨X4,hX4,rfl,hS⟩
 replace hS := hbk hS
 clear hbk hw hcc hr1;repeat (first|refine Yeb ?_|refine Ye5 ?_|refine Yec ?_|refine Yab ?_)
 refine Zaa _ rfl rfl rfl rfl rfl (Zz2 roundL firstL _ (hG1.mono fun _ hr => (hr.rd hS).ro) (hL1.at_ hS)) ?_
 rintro _ w ⟨rfl,hS'⟩
 replace hS := hS.plus hS';clear hS';repeat (first|refine Yaa ?_|refine Yav ?_|refine Yaf ?_)
 refine Zaa _ rfl rfl rfl rfl rfl (Z71 sa q2 bs roundL firstL _ (hG1.mono fun _ hr => (hr.rd hS).ro) (hsb1.rd hS).ro (by omega)) ?_
 rintro _ w ⟨rfl,hS'⟩
 replace hS := hS.plus hS';clear hS';rw [Zun];have hl32 : LenO (bv (sha (Zaz [Ze7,bs]))) 32 := ⟨by rw [Zak]; exact Zif _⟩
 have hcl : bv Ze7 = [.int .u8 97,.int .u8 114,.int .u8 99,.int .u8 104,.int .u8 105,.int .u8 118,.int .u8 101] := rfl
 repeat (first|refine Yav ?_)
 refine Zaa _ rfl rfl rfl rfl rfl (Z8w _) ?_
 rintro _ w ⟨rfl,hS'⟩
 replace hS := hS.plus hS';clear hS';repeat (first|refine Yav ?_|refine Ybe (fun _ _ hS _ => ?_))
 rename_i b5 _ _;refine Zf8 rfl rfl rfl rfl hS (by simp) (fun w hS => ?_)
 repeat (first|refine Yav ?_|refine Yaf ?_|refine Ybe (fun _ _ hS _ => ?_))
 rename_i b6 w6 _;have hB : Bss w6 noF (some ⟨b6,0,none⟩) [⟨some ⟨b5,0,none⟩,7,Ze7⟩,⟨sa,q2,bs⟩] := ⟨(show Rd w6 (row (some ⟨b6,0,none⟩) _) by simpa [Bs.val,Ze7] using hS.ownRd (a := some ⟨b6,0,none⟩)).ro,fun x hx => by
  simp only [List.mem_cons,List.not_mem_nil,or_false] at hx
  rcases hx with rfl | rfl
  ·exact (hS.rd (r := bytes (some ⟨b5,0,none⟩) Ze7) (by simp [bytes,← hcl])).ro
  ·exact (hsb1.rd hS).ro⟩
 have hfl : (Zaz [Ze7,bs]).length ≤ 1099511627776 := by simp [Zaz,Za2,Ze7]; omega
 refine Zaa _ rfl rfl rfl rfl rfl (Z3i (some ⟨b6,0,none⟩) 2 [⟨some ⟨b5,0,none⟩,7,Ze7⟩,⟨sa,q2,bs⟩] _ hB hfl) ?_
 rintro _ w ⟨g,k,rfl,hS'⟩
 replace hS := hS.plus hS';clear hS' hB;rw [show Zbe [(⟨some ⟨b5,0,none⟩,7,Ze7⟩ : Bs),⟨sa,q2,bs⟩] = [Ze7,bs] from rfl] at *
 repeat (first|refine Yav ?_)
 refine Zaa _ rfl rfl rfl rfl rfl (Z72 g k (Zaz [Ze7,bs]) _ (hS.rd (List.mem_cons_self ..)) hfl) ?_
 rintro _ w ⟨rfl,hS'⟩
 replace hS := hS.plus hS';clear hS';repeat (first|refine Yav ?_)
 refine X_yl (Zx4 rfl rfl rfl (Zif _) (Zif _)) rfl rfl ?_
 rw [decide_eq_true rfl];rcases he with ⟨h0,hZ3⟩ | ⟨h0,hZ3⟩
 all_goals
  rw [h0];repeat (first|refine Yaa ?_|refine Yav ?_|(refine X_id ?_;first|refine Yaf ?_|refine Ya9 ?_|refine Ybg ?_|refine Ybh ?_|refine Ybx ?_|refine Ybr ?_))
  refine X_yl (Zrg true rfl rfl rfl rfl) rfl rfl ?_
  repeat (first|refine Yaa ?_|refine Yav ?_|refine Ybf ?_|(refine X_id ?_;first|refine Yaf ?_|refine Ya9 ?_|refine Ya7 ?_|refine Ybg ?_|refine Ybh ?_))
  refine Zaa _ rfl rfl rfl rfl rfl (Zz4 _ _ _ _) ?_
  rintro _ w ⟨rfl,hS'⟩
  replace hS := hS.plus hS';clear hS';repeat (first|refine Yes ?_|refine Yaf ?_|refine Yag ?_|refine Ya9 ?_|refine Ybg ?_|refine Yah ?_|refine Yed ?_)
  exact ⟨rfl,(hbk1 hS.drops).drops⟩
end Cr
