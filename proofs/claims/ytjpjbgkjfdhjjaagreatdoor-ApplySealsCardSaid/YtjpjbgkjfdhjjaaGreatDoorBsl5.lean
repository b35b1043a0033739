/-
  Layer 4 (wal): big,small,full,front,note.
  Layer 1 (block): Read.
  Layer 4 (wal): full,front,note.
  Numbers as bytes,there and back. No program is in sight.
  A segment of a row that can be read. Over any program.
  Layer 4 (wal): number,sum.
  Layer 4 (wal): sum.
  Maps with keys of an integer type or strings: made,looked up,updated. Over any program.
  Layer 4 (wal): Check.
  Layer 4 (wal): a log in memory,what it tells; steps.
  Layer 4 (wal): lay.
  Layer 4 (wal): entry.
  Layer 4 (wal): clear; Once.Do.
  Arrays of bytes compared. Over any program.
-/
import Derived.Test.YtjpjbgkjfdhjjaaGreatDoorBsl4
import Derived.Test.YtjpjbgkjfdhjjaaGreatDoorBsl2
import Derived.Test.YtjpjbgkjfdhjjaaGreatDoorBsl3
import Derived.MapKept
import Derived.Laws.StructEq
namespace Cr
open Go Go.Proofs
set_option maxRecDepth 100000
set_option maxHeartbeats 64000000
attribute [local irreducible] Calls

/-! ### big -/
def Z0r (n : Int) (c i : Nat) : UInt8 := b8 (ishr .u64 (IntKind.u64.wrap n) (8 * (c - 1 - i)))
def Zk0 (n : Int) (c : Nat) : Nat → List UInt8
 | 0 => List.replicate c 0
 | i + 1 => (Zk0 n c i).set i (Z0r n c i)
theorem Zeb (n : Int) (c : Nat) : ∀ i,(Zk0 n c i).length = c
 | 0 => by simp [Zk0]
 | i + 1 => by simp [Zk0,Zeb n c i]
def bigB (n : Int) (c : Nat) : List UInt8 := Zk0 n c c
theorem Zag (n : Int) (c : Nat) : (bigB n c).length = c := Zeb n c c
attribute [irreducible] bigB
theorem big_ (n : Int) (c : Nat) (W : World) (hc : c ≤ 1048576) :
  Calls Tryz.prog 165 #[.int .i64 n,.int .i64 (c : Nat)] W (Ret fun v w => ∃ p,v = .slice (some ⟨p,0,none⟩) c c ∧ St W noF [pts p (.cells (bv (bigB n c)).toArray 5)] w) := by
 have hS := St.start W
 refine Zab Tryz.func165 rfl Tryz.ntmps165 rfl ?_
 repeat (first|refine Yeb ?_|refine Ye4 ?_|refine Ydr (fun _ _ hS => ?_)|refine Yee ?_|refine Yab ?_)
 rename_i p w0;refine Zaj (α := Nat) (fun i => [(0,.int .i64 n),(1,.int .i64 (c : Nat)),(5,.slice (some ⟨p,0,none⟩) c c),(10,.int .i64 (c : Nat)),(11,.int .i64 (i : Nat))])
  (fun i w => i ≤ c ∧ St W noF [pts p (.cells (bv (Zk0 n c i)).toArray 5)] w) (fun i => c - i) 0 ⟨rfl,rfl,rfl,rfl,rfl,trivial⟩ ⟨Nat.zero_le _,hS⟩ ?_
 clear hS;rintro i w ⟨hi,hS⟩
 obtain ⟨L,hLe⟩ : ∃ L,L = Zk0 n c i := ⟨_,rfl⟩
 have hL : L.length = c := by rw [hLe]; exact Zeb n c i
 rw [← hLe] at hS;by_cases hlt : i < c
 ·repeat (first|refine Yeb ?_|(refine X_id ?_;first|refine Yaf ?_|refine Yag ?_|refine Ya1 ?_|refine Ybd ?_|refine Yaw ?_|refine Ybv ?_|refine Yb1 ?_|refine Ycs ?_|refine Yc0 ?_|refine Ycp ?_|refine Zx9 rfl rfl rfl rfl hS (by omega) (fun _ hS => ?_))|refine Yef ?_|refine Yej ?_)
  refine Zae (i + 1) ⟨rfl,rfl,rfl,rfl,rfl,trivial⟩ ⟨by omega,?_⟩ (by omega)
  simp only [Zk0,Z0r]
  rw [← hLe];rw [show 0 + (i : Int).toNat * 1 = i by omega,show (8 * ((c : Int) - 1 - (i : Int))).toNat = 8 * (c - 1 - i) by omega] at hS
  exact hS
 ·obtain rfl : i = c := by omega
  repeat (first|refine Yeb ?_|refine Yfj ?_|refine Yek ?_|refine Yfd ?_)
  refine ⟨p,rfl,?_⟩
  unfold bigB
  rw [← hLe];exact hS

/-! ### small -/
def Zms (s : List UInt8) : Nat → Int
 | 0 => 0
 | i + 1 => ior .i64 (ishl .i64 (Zms s i) 8) ((s.getD i 0).toNat : Int)
def Zcp (s : List UInt8) : Int := Zms s s.length
theorem Z04 (a : Option Addr) (c : Nat) (s : List UInt8) (W : World) (hs : Rd W (bytes a s)) (hl : s.length ≤ 1048576) :
  Calls Tryz.prog 162 #[.slice a s.length c] W (Ret fun v w => v = .int .i64 (Zcp s) ∧ W = w) := by
 have hS := St.start W
 have hso := hs.ro
 refine Zab Tryz.func162 rfl Tryz.ntmps162 rfl ?_
 repeat (first|refine Yeb ?_|refine Ye4 ?_|refine Yee ?_|refine Yab ?_)
 refine Zaj (α := Nat) (fun i => [(3,.int .i64 (Zms s i)),(6,.slice a s.length c),(7,.int .i64 (s.length : Nat)),(8,.int .i64 (i : Nat))])
  (fun i w => i ≤ s.length ∧ w = W) (fun i => s.length - i) 0 ⟨rfl,rfl,rfl,rfl,trivial⟩ ⟨Nat.zero_le _,rfl⟩ ?_
 rintro i w ⟨hi,rfl⟩
 by_cases hlt : i < s.length
 ·obtain ⟨xb,xo,rfl⟩ := hs.base (by intro e; have := Zak s; rw [e] at this; simp at this; omega)
  have hb : Ro w noF (bytes (some ⟨xb,xo,none⟩) s) := hso
  have h256 := UInt8.toNat_lt (s.getD ((i : Int).toNat * 1) 0)
  repeat (first|refine Yeb ?_|(refine X_id ?_;first|refine Yaf ?_|refine Yag ?_|refine Ya1 ?_|refine Ybd ?_|refine Yaw ?_|refine X_yl (Zev rfl rfl (w64 (by omega) (by omega))) rfl rfl ?_|refine X_yl (Z32 rfl rfl rfl) rfl rfl ?_|refine X_yl (Zxw rfl rfl rfl (by omega)) rfl rfl ?_|refine X_yl (Zau rfl rfl ((hb.rd hS).cellB' (by omega))) rfl rfl ?_)|refine Yef ?_|refine Yej ?_)
  refine Zae (i + 1) ⟨?_,rfl,rfl,rfl,trivial⟩ ⟨by omega,rfl⟩ (by omega)
  show some _ = some _
  simp only [Zms]
  rw [show (i : Int).toNat * 1 = i by omega]
  rfl
 ·obtain rfl : i = s.length := by omega
  repeat (first|refine Yeb ?_|refine Yfj ?_|refine Yek ?_|refine Yfd ?_)
  exact ⟨rfl,rfl⟩
end Cr
namespace Cr
open Go Go.Proofs
set_option maxRecDepth 100000
set_option maxHeartbeats 64000000

theorem Zi8 {F : Fence} {n : Nat} {P : Program} {f : FuncId} {args : Array Value} {w : World} {R R' : Value → World → Prop} (h : CallsIn F n P f args w (Ret R)) (hm : ∀ v w,R v w → R' v w) : CallsIn F n P f args w (Ret R') := by
 obtain ⟨h1,h2⟩ := h
 refine ⟨h1,fun cs hr => ?_⟩
 obtain ⟨e,w3,fr,⟨v,he,hR⟩,hrest⟩ := h2 cs hr
 exact ⟨e,w3,fr,⟨v,he,hm _ _ hR⟩,hrest⟩
theorem Fr.round2 {σ : Env} {N : Nat} {tm : Array Value} (hsz : tm.size = N) (h : ∀ n v,look σ n = some v → tm[n]? = some v) (l : Nat) {a b : Nat} (x y : Value) (ha : a < N) (hb : b < N) :
  Fr ((b,y) :: (a,x) :: σ) N ⟨[],some l⟩ { tmps := (#[a,b].zip #[x,y]).foldl (fun tmps (t,v) => tmps.setIfInBounds t v) tm,defers := [] } := by
 have := ((Fr.round hsz h l).put ha x).put hb y
 simpa [Act.put] using this
theorem Zf3 {T : TypeId} {e c : Nat} {a : Option Addr} {cs : List Value} : ∀ h,own T e a c cs h → row a cs h := fun h hh => by
 obtain ⟨h1,_,⟨rfl,h0⟩ | ⟨b,cells,rfl,rfl,hc,ht⟩⟩ := hh
 ·exact .inl ⟨by rw [Nat.zero_mul] at h1; exact List.length_eq_zero_iff.1 (by omega),h0⟩
 ·refine .inr ⟨b,0,cells,T,(0,0),rfl,rfl,fun i v hv => ?_⟩
  rw [← ht,List.getElem?_take] at hv
  split at hv
  ·simpa using hv
  ·cases hv
theorem Zo9 {α : Type} {l : List α} {k : Nat} {x : α} (hk : k ≠ 0) (hx : l[k - 1]? = some x) : l.drop (k - 1) = x :: l.drop k := by
 obtain ⟨h,rfl⟩ := List.getElem?_eq_some_iff.1 hx
 have := List.drop_eq_getElem_cons h
 rwa [show k - 1 + 1 = k by omega] at this
theorem Zxb {α : Type} {l : List α} {k : Nat} {x : α} {f : α → Bool} (hk : k ≠ 0) (hx : l[k - 1]? = some x) (hf : (l.drop k).reverse.find? f = none) (h : f x = false) : (l.drop (k - 1)).reverse.find? f = none := by
 rw [Zo9 hk hx,List.reverse_cons,List.find?_append,hf];simp [h]
theorem Zxc {α : Type} {l : List α} {k : Nat} {x : α} {f : α → Bool} (hk : k ≠ 0) (hx : l[k - 1]? = some x) (hf : (l.drop k).reverse.find? f = none) (h : f x = true) : l.reverse.find? f = some x := by
 have e : l = l.take (k - 1) ++ (x :: l.drop k) := by rw [← Zo9 hk hx]; simp
 rw [e,List.reverse_append,List.reverse_cons,List.find?_append,List.find?_append,hf];simp [h]
theorem Rd.slide {w : World} {b o : Nat} {cs : List Value} (H : Rd w (row (some ⟨b,o,none⟩) cs)) (k n : Nat) : Rd w (row (some ⟨b,o + k,none⟩) ((cs.drop k).take n)) :=
 H.mono fun h hr => by
  rcases hr with ⟨rfl,h0⟩ | ⟨b',off,cells,T,fz,hb,rfl,hc⟩
  ·exact ⟨h,.inl ⟨by simp,h0⟩,fun _ _ e => e⟩
  ·obtain ⟨rfl,rfl⟩ : b = b' ∧ o = off := by simpa using hb
   refine ⟨_,.inr ⟨b,o + k,cells,T,fz,rfl,rfl,fun i v hv => ?_⟩,fun _ _ e => e⟩
   rw [List.getElem?_take] at hv
   split at hv
   ·rw [List.getElem?_drop] at hv
    have := hc _ _ hv
    rwa [Nat.add_assoc]
   ·cases hv
theorem Zvz (p : Nat) (D : DiskM) (no : Int) (W : World) (hd : Rd W (disk p D)) (hline : D.line.length < 1073741824) :
  Calls Tryz.prog 110 #[.pointer (some ⟨p,0,none⟩),.int .i64 no] W (Ret fun v w => ∃ a c,v = .tuple #[.slice a (D.read no).2.length c,.int .i64 (D.read no).1] ∧ (D.read no).2.length ≤ c ∧ St W noF [bytes a (D.read no).2] w) := by
 have hS := St.start W
 obtain ⟨hok,al,cl,ai,ci,c1,c2,hcd,hrl,hri⟩ := hd.disk
 have hdo := hd.ro
 cases hoff : D.off
 ·cases hin : Zc9 D no
  ·refine Zab Tryz.func110 rfl Tryz.ntmps110 rfl ?_
   repeat (first|refine Yeb ?_|(refine X_id ?_;first|(refine Zaa 56 rfl rfl rfl rfl rfl (on_b p D _ hoff _ (hdo.rd hS)) ?_;rintro _ _ ⟨rfl,rfl⟩)|(refine Zaa 159 rfl rfl rfl rfl rfl (Z6q p D no _ hin _ (hdo.rd hS)) ?_;rintro _ _ ⟨rfl,rfl⟩)|refine Yaf ?_|refine Yag ?_|refine Ybb ?_|refine Ybo ?_|refine Yaq ?_|refine Yao (fun _ hS _ => ?_)|refine Yba (fun _ _ hS _ => ?_)|refine Yar (fun _ _ hS _ => ?_))|refine Yew ?_|refine Yab ?_|refine Yap ?_|refine Ya8 ?_|refine Ybz ?_)
   rw [show D.read no = (1,[]) by simp [DiskM.read,hoff,hin]]
   exact ⟨none,0,rfl,Nat.le_refl _,hS.drops.row_none⟩
  ·refine Zab Tryz.func110 rfl Tryz.ntmps110 rfl ?_
   repeat (first|refine Yeb ?_|(refine X_id ?_;first|(refine Zaa 56 rfl rfl rfl rfl rfl (on_b p D _ hoff _ (hdo.rd hS)) ?_;rintro _ _ ⟨rfl,rfl⟩)|(refine Zaa 159 rfl rfl rfl rfl rfl (Z6q p D no _ hin _ (hdo.rd hS)) ?_;rintro _ _ ⟨rfl,rfl⟩)|refine Yaf ?_|refine Yag ?_|refine Yau ?_|refine Yan ?_|refine Ybb ?_|refine Yaq ?_|refine Yba (fun _ _ hS _ => ?_)|refine Yar (fun _ _ hS _ => ?_))|refine Yfa ?_|refine Yej ?_)
   have hcd1 := hS.kept hcd
   repeat (first|refine Yaa ?_|refine Yb5 ?_)
   obtain ⟨_,hc,hr,hw,hbk⟩ := hS.call []
   refine Zaa _ rfl rfl rfl rfl rfl (Zra _ _ _ _) ?_
   rintro _ w ⟨bx,rfl,hS⟩
   replace hS := hbk hS.more
   clear hc hr hw hbk;repeat (first|refine Yac ?_|refine Yak ?_|refine Yab ?_)
   rename_i b3 _ _ _ b4 _ _ _ b5 _ _ _ _;refine Zlb (first := []) (captured := [.pointer (some ⟨bx,0,none⟩)])
    (fun l r j w => (j = none ∧ D.line.reverse.find? (fun x => x.1 == no) = none ∧ ∃ lo,St W noF [pts l lo,pts r (.deferred (some [])),pts bx (.cells #[.slice ai D.line.length ci] 129),pts b5 (.cells #[.int .i64 0] 28),pts b4 (.cells #[.slice none 0 0] 22),pts b3 (.cells #[.int .i64 no] 3)] w) ∨
     (j = some .ret ∧ ∃ x tb,D.line.reverse.find? (fun x => x.1 == no) = some x ∧ ∃ lo,St W noF [pts l lo,pts r (.deferred (some [])),pts tb (.cells (.int .i64 x.1 :: bv x.2).toArray 287),pts b5 (.cells #[.int .i64 0] 28),pts b4 (.cells #[.slice (some ⟨tb,1,none⟩) 64 64] 22)] w))
    rfl rfl hS ?_ ?_ ?_
   ·intro A B hA hB fn tm l r w1 htm hlook hS
    have hln : ∀ x ∈ D.line,(Value.int .i64 x.1 :: bv x.2).length = 65 := fun x hx => by simp [(hok.line64 x hx).1]
    have hll := Zdd fun x hx => (hok.line64 x hx).1
    have hW := fun (w : World) rs (h : St W noF rs w) => hri.ro.rd h
    refine Zi8 (Zje l bx D.line.length ci ai (Za8 D.line) w1 129 (by omega) hll
     (fun k w => k ≤ D.line.length ∧ (D.line.drop k).reverse.find? (fun x => x.1 == no) = none ∧ St W noF [pts l (.loop (recd fn tm #[22,23] A B r .ready none)),pts r (.deferred (some [])),pts bx (.cells #[.slice ai D.line.length ci] 129),pts b5 (.cells #[.int .i64 0] 28),pts b4 (.cells #[.slice none 0 0] 22),pts b3 (.cells #[.int .i64 no] 3)] w)
     (fun w => ∃ x tb,D.line.reverse.find? (fun x => x.1 == no) = some x ∧ St W noF [pts l (.loop (recd fn tm #[22,23] A B r .done (some .ret))),pts r (.deferred (some [])),pts tb (.cells (.int .i64 x.1 :: bv x.2).toArray 287),pts b5 (.cells #[.int .i64 0] 28),pts b4 (.cells #[.slice (some ⟨tb,1,none⟩) 64 64] 22)] w)
     (fun k w h => h.2.2.has) (fun k w h => hW _ _ h.2.2) ?_ ⟨Nat.le_refl _,by rw [List.drop_length]; rfl,hS⟩) ?_
    ·rintro k w ⟨hkl,hf,hS⟩
     refine ⟨_,rfl,hS.has,fun hk => ?_⟩
     obtain ⟨x,hx⟩ : ∃ x,D.line[k - 1]? = some x := by
      have : k - 1 < D.line.length := by omega
      exact ⟨_,List.getElem?_eq_getElem this⟩
     have hxm := List.mem_of_getElem? hx
     have hlen : LenIs (bv x.2) 64 := ⟨by simp [(hok.line64 x hxm).1]⟩
     have hagg : ((Za8 D.line).drop ((k - 1) * 65)).take 65 = .int .i64 x.1 :: bv x.2 := Zd3 hln hx
     rw [hagg];show RoundIn Fence.wide 0 Tryz.prog l fn ((#[22,23].zip _).foldl _ tm) A B w _
     refine Zvu (Fr.round2 htm hlook l (.int .i64 ((k - 1 : Nat) : Int)) (.agg (.int .i64 x.1 :: bv x.2).toArray) (by decide) (by decide)) ?_
     refine C_eq hA ?_
     by_cases hno : x.1 = no
     ·repeat (first|refine Yeb ?_|refine Yao (fun _ hS _ => ?_)|refine Yar (fun _ _ hS _ => ?_)|refine Yad ?_)
      refine Zrm hS.has (fun w hset => ?_)
      replace hS := hS.upd hset
      refine C_eq hB ?_
      repeat (first|refine Yeb ?_|(refine X_id ?_;first|refine Yan ?_|refine Ybg ?_|refine Ydm ?_|refine Yaq ?_|refine Yao (fun _ hS _ => ?_))|refine Yez ?_|refine Yab ?_|refine Ya8 ?_)
      refine Zrk hS.has (fun w hset => ⟨_,rfl,.inr ⟨rfl,x,_,?_,(hS.upd hset).pick [1,1,0,1,1]⟩⟩)
      exact Zxc hk hx hf (by simpa using hno)
     ·repeat (first|refine Yeb ?_|refine Yao (fun _ hS _ => ?_)|refine Yar (fun _ _ hS _ => ?_)|refine Yad ?_)
      refine Zrm hS.has (fun w hset => ?_)
      replace hS := hS.upd hset
      refine C_eq hB ?_
      repeat (first|refine Yeb ?_|refine Yan ?_|refine Ybh ?_|refine Yaq ?_|refine Yfa ?_|refine Yej ?_)
      refine Zp4 hS.has (fun w hset => ⟨_,rfl,.inl ⟨rfl,by omega,?_,(hS.upd hset).pick [1,1,1,1,1,1]⟩⟩)
      exact Zxb hk hx hf (by simpa using hno)
    ·rintro _ w3 (⟨_,hf,hS⟩ | ⟨x,tb,hf,hS⟩)
     ·exact ⟨_,_,by simp,hS.has,fun w4 hset => .inl ⟨rfl,by simpa using hf,_,hS.upd hset⟩⟩
     ·exact ⟨_,_,by simp,hS.has,fun w4 hset => .inr ⟨rfl,x,tb,hf,_,hS.upd hset⟩⟩
   ·intro l r w4 hJ
    rcases hJ with ⟨_,hf,lo,hS⟩ | ⟨h,_⟩
    ·repeat (first|refine Yae ?_|refine Zn3 rfl ?_|refine Yas ?_)
     have hin2 : 0 ≤ no ∧ no < D.laid.length := by simpa [Zc9] using hin
     have hin0 := hin2.1
     have hin1 := hin2.2
     obtain ⟨lb,lo,rfl⟩ := hrl.base (by intro e; have h := Zde hok.laid64; rw [e] at h; simp at h; omega)
     refine Zao (.s 0 (.s 1 (.s 2 (.s 3 (.s 4 (.s 5 (.s 6 (.h 7 (.h 8 (.h 9 .nil .no) .no) .no)))))))) mixed (by kernel_rfl) rfl ?_
     have hS := hS.drew
     have hcd3 := hS.kept hcd
     repeat (first|(refine Zaf ?_;first|refine Ya6 ?_|refine Ybs ?_|refine Ybk ?_|refine Yc7 ?_|refine Yca ?_|refine Ybn ?_|refine Ydx ?_|refine Yax ?_))
     have hseg : ((Zba D.laid).drop (no.toNat * 64)).take 64 = bv (D.laid.getD no.toNat []) := by
      obtain ⟨s,hs⟩ : ∃ s,D.laid[no.toNat]? = some s := ⟨_,List.getElem?_eq_getElem (by omega)⟩
      rw [List.getD_eq_getElem?_getD,hs];exact Zd3 (fun x hx => by simp [hok.laid64 x hx]) hs
     have hrs := (hrl.ro.rd hS).slide (no.toNat * 64) 64
     rw [hseg] at hrs;have h64 : (D.laid.getD no.toNat []).length = 64 := by rw [← Zak,← hseg,List.length_take,List.length_drop,Zde hok.laid64]; omega
     obtain ⟨_,hc,hr,hw,hbk⟩ := hS.call []
     refine Zaa _ rfl rfl rfl rfl rfl (Z64 _ 64 _ (D.laid.getD no.toNat []) _ hrs h64 (by omega)) ?_
     rintro _ w ⟨a',c',rfl,_,hcc,hS⟩
     replace hS := hbk hS.more
     clear hc hr hw hbk;have hcd4 := hS.kept hcd
     refine And.intro (by repeat (first|exact trivial|refine And.intro (.inl (by decide +kernel)) ?_|refine And.intro (.inr (by first|exact hS.cell|exact Zdf hcd4)) ?_)) ?_
     repeat (first|refine Yao (fun _ hS _ => ?_)|refine Yah ?_|refine Yab ?_|(refine Zaf ?_;first|refine Ya2 ?_|refine Yax ?_)|(refine Zad ?_;first|refine Yay ?_))
     refine Zym (.inl rfl) hS.has (fun w hset => ?_)
     replace hS := hS.upd hset
     repeat (first|refine Ybz ?_)
     rw [show D.read no = (0,D.laid.getD no.toNat []) by simp only [DiskM.read,hoff,hin,DiskM.find,hf]; rfl]
     refine ⟨a',c',by rw [h64],by rw [h64]; exact hcc,(hS.pick [0]).head fun h hh => ?_⟩
     exact Zf3 h hh
    ·cases h
   ·intro l r c w4 hJ
    rcases hJ with ⟨h,_⟩ | ⟨h,x,tb,hf,lo,hS⟩
    ·cases h
    ·cases h
     repeat (first|refine Yah ?_|refine Yap ?_|refine Ya8 ?_)
     refine Zym (.inl rfl) hS.has (fun w hset => ?_)
     replace hS := hS.upd hset
     repeat (first|refine Ybz ?_)
     have hx64 : x.2.length = 64 := (hok.line64 x (by simpa using List.mem_of_find?_eq_some hf)).1
     rw [show D.read no = (0,x.2) by simp only [DiskM.read,hoff,hin,DiskM.find,hf]; rfl]
     refine ⟨some ⟨tb,1,none⟩,64,by rw [hx64],by rw [hx64]; exact Nat.le_refl _,(hS.pick [2]).head (Zqj (n := 64) ?_)⟩
     simp [← hx64,← Zak]
 ·refine Zab Tryz.func110 rfl Tryz.ntmps110 rfl ?_
  repeat (first|refine Yeb ?_|(refine X_id ?_;first|(refine Zaa 56 rfl rfl rfl rfl rfl (on_b p D _ hoff _ (hdo.rd hS)) ?_;rintro _ _ ⟨rfl,rfl⟩)|refine Yaf ?_|refine Yag ?_|refine Ybo ?_|refine Yao (fun _ hS _ => ?_)|refine Yba (fun _ _ hS _ => ?_)|refine Yar (fun _ _ hS _ => ?_))|refine Yez ?_|refine Yab ?_|refine Yap ?_|refine Ya8 ?_|refine Ybz ?_)
  rw [show D.read no = (9,[]) by simp [DiskM.read,hoff]]
  exact ⟨none,0,rfl,Nat.le_refl _,hS.drops.row_none⟩
end Cr
namespace Cr
open Go Go.Proofs
set_option maxRecDepth 100000
set_option maxHeartbeats 64000000
attribute [local irreducible] Calls

def Zct (l : List UInt8) : List UInt8 := (l ++ List.replicate 64 0).take 64
theorem Zbs (l : List UInt8) : (Zct l).length = 64 := by simp [Zct]
theorem Zzq {T e c : Nat} {a : Option Addr} {cs cs' : List Value} (n : Nat) (h : cs.take n = cs') : ∀ g,own T e a c cs g → row a cs' g := fun g hg => by
 have := Zf3 g hg
 subst h
 rcases this with ⟨rfl,h0⟩ | ⟨b,off,cells,T',fz,hb,hp,hc⟩
 ·exact .inl ⟨by simp,h0⟩
 ·refine .inr ⟨b,off,cells,T',fz,hb,hp,fun i v hv => ?_⟩
  rw [List.getElem?_take] at hv
  split at hv
  ·exact hc i v hv
  ·cases hv
theorem Z6u (ab ao c : Nat) (l : List Bs) (W : World) (hB : Bss W noF (some ⟨ab,ao,none⟩) l) (h2 : 2 ≤ l.length) (hc : l.length ≤ c) (hl : l.length ≤ 1099511627776) (hn : (Zah l).length ≤ 1099511627776) :
  Calls Tryz.prog 167 #[.slice (some ⟨ab,ao,none⟩) l.length c] W (Ret fun v w => ∃ p k,v = .slice (some ⟨p,0,none⟩) 64 k ∧ St W noF [bytes (some ⟨p,0,none⟩) (Zct (Zah l))] w) := by
 have hS := St.start W
 refine Zab Tryz.func167 rfl Tryz.ntmps167 rfl ?_
 repeat (first|refine Yeb ?_|refine Yeq ?_|refine Yec ?_|refine Yab ?_)
 refine Zaa _ rfl rfl rfl rfl rfl (Z80 ab ao c l _ hB h2 hc hl hn) ?_
 rintro _ w ⟨p,rfl,hS'⟩
 replace hS := hS.plus hS';clear hS';repeat (first|refine Yaa ?_)
 refine Zlg (m := 64) rfl rfl rfl rfl rfl rfl hS (hS.rd (List.mem_cons_self ..)) (by simp) (by omega) (by omega) (by omega) (by simp only [maxLen]; omega) (fun b k w hS hk => ?_)
 repeat (first|refine Yaa ?_)
 refine X_yl (Zaq (l := 0) (h := 64) rfl rfl rfl rfl (.inr ⟨_,_,rfl,by omega,by omega,by omega⟩) (.inl ⟨rfl,rfl⟩)) rfl rfl ?_
 rw [sub_zero];repeat (first|refine Yeb ?_|refine Yag ?_|refine Yah ?_|refine Yed ?_)
 refine ⟨b,k,rfl,(hS.pick [0]).head fun h hh => Zzq 64 ?_ h hh⟩
 unfold Zct
 rw [Zfs,← Zb8,← Zky]
theorem Bss.ofRd {w : World} {a : Option Addr} {l : List Bs} (hr : Rd w (Cr.row a (l.map Bs.val))) (hall : ∀ x ∈ l,Rd w (bytes x.a x.s)) : Bss w noF a l := ⟨hr.ro,fun x hx => (hall x hx).ro⟩
theorem Rd.ptsB {w : World} {b : Nat} {s : List UInt8} {T : TypeId} (h : Rd w (Cr.pts b (.cells (bv s).toArray T))) : Rd w (bytes (some ⟨b,0,none⟩) s) := h.mono fun g hg => ⟨g,Zgp g hg,fun _ _ e => e⟩

/-! ### front -/
def Zeq (rd fs : List Int) (n : Int) : List UInt8 := Zct (bigB n 8 ++ digest rd fs [bigB n 8])
theorem Zhu (rd fs : List Int) (n : Int) : (Zeq rd fs n).length = 64 := Zbs _
theorem Z1h (n : Int) (rd fs : List Int) (W : World) (hG : Gl W noF rd fs) :
  Calls Tryz.prog 163 #[.int .i64 n] W (Ret fun v w => ∃ p k,v = .slice (some ⟨p,0,none⟩) 64 k ∧ St W noF [bytes (some ⟨p,0,none⟩) (Zeq rd fs n)] w) := by
 have hS := St.start W
 refine Zab Tryz.func163 rfl Tryz.ntmps163 rfl ?_
 repeat (first|refine Yeb ?_|refine Yeq ?_|refine Yec ?_|refine Yab ?_)
 refine Zaa _ rfl rfl rfl rfl rfl (big_ n 8 _ (by omega)) ?_
 rintro _ w ⟨p,rfl,hS'⟩
 replace hS := hS.plus hS';clear hS';repeat (first|refine Yeb ?_|refine Yeq ?_|refine Ybe (fun _ _ hS _ => ?_)|refine Yec ?_|refine Yab ?_)
 rename_i q wq _;have hB := Bss.ofRd (w := wq) (a := some ⟨q,0,none⟩) (l := [⟨some ⟨p,0,none⟩,8,bigB n 8⟩]) (by simpa [Bs.val,Zag] using (hS.rd (List.mem_cons_self ..)).own_row) (fun x hx => by
  simp only [List.mem_singleton] at hx
  subst hx
  exact (hS.rd (List.mem_cons_of_mem _ (List.mem_cons_self ..))).ptsB)
 have hfl : (Zaz (Zbe [⟨some ⟨p,0,none⟩,8,bigB n 8⟩])).length < 1152921504606846976 := by simp [Zaz,Zbe,Za2,Zag]
 have hl32 : LenO (bv (digest rd fs (Zbe [⟨some ⟨p,0,none⟩,8,bigB n 8⟩]))) 32 := ⟨by rw [Zak]; exact Zbc _ _ _⟩
 refine Zac _ rfl rfl rfl rfl rfl hS (Zne _ 1 _ rd fs _ hfl (by simp) (hG.mono fun r hr => (hr.rd hS).ro) hB) ?_
 rintro _ w rfl hS
 clear hB hfl;repeat (first|refine Yeb ?_|(refine X_id ?_;first|refine Yaf ?_|refine Ydm ?_|refine Yao (fun _ hS _ => ?_)|refine Yar (fun _ _ hS _ => ?_)|refine Ybe (fun _ _ hS _ => ?_))|refine Yec ?_|refine Yab ?_)
 rename_i b4 _ _ _ _ _ _ b6 w6 _;have hB := Bss.ofRd (w := w6) (a := some ⟨b6,0,none⟩) (l := [⟨some ⟨p,0,none⟩,8,bigB n 8⟩,⟨some ⟨b4,0,none⟩,32,digest rd fs [bigB n 8]⟩]) (by simpa [Bs.val,Zag,Zbc] using (hS.rd (List.mem_cons_self ..)).own_row) (fun x hx => by
  simp only [List.mem_cons,List.not_mem_nil,or_false] at hx
  rcases hx with rfl | rfl
  ·exact (hS.rd (by simp)).ptsB (T := 5)
  ·exact (hS.rd (List.mem_cons_of_mem _ (List.mem_cons_self ..))).ptsB)
 refine Zaa _ rfl rfl rfl rfl rfl (Z6u b6 0 2 _ _ hB (by simp) (by simp) (by simp) (by simp [Zah,Zag,Zbc])) ?_
 rintro _ w ⟨r,k,rfl,hS'⟩
 replace hS := hS.plus hS';clear hS' hB;repeat (first|refine Yeb ?_|refine Yag ?_|refine Yah ?_|refine Yed ?_)
 refine ⟨r,k,rfl,?_⟩
 have := hS.pick [0]
 unfold Zeq
 simpa [Zah] using this

/-! ### note -/
def Zhj (number at_ count no : Int) (d : List UInt8) : List UInt8 := Zct (bigB number 8 ++ (bigB at_ 4 ++ (bigB count 4 ++ (bigB no 4 ++ d))))
theorem Zfm (number at_ count no : Int) (d : List UInt8) : (Zhj number at_ count no d).length = 64 := Zbs _
theorem Z6c (number at_ count no : Int) (d : List UInt8) (hd : d.length = 32) (W : World) :
  Calls Tryz.prog 121 #[.int .i64 number,.int .i64 at_,.int .i64 count,.int .i64 no,.agg (bv d).toArray] W (Ret fun v w => ∃ p k,v = .slice (some ⟨p,0,none⟩) 64 k ∧ St W noF [bytes (some ⟨p,0,none⟩) (Zhj number at_ count no d)] w) := by
 have hS := St.start W
 have hl32 : LenO (bv d) 32 := ⟨by rw [Zak]; exact hd⟩
 refine Zab Tryz.func121 rfl Tryz.ntmps121 rfl ?_
 repeat (first|refine Yeb ?_|refine Yag ?_|refine Yba (fun _ _ hS _ => ?_)|refine Yec ?_|refine Yab ?_)
 rename_i bd _ _;refine Zao (.s 0 (.s 2 (.s 4 (.s 6 (.s 8 (.h 1 (.h 3 (.h 5 (.h 7 (.h 9 (.h 10 (.s 11 .nil) .no) .no) .no) .no) .no) .no)))))) mixed (by kernel_rfl) rfl ?_
 have hS := hS.drew
 repeat (first|(refine Zaf ?_;first|refine Ya6 ?_|refine Yc7 ?_|refine Yax ?_))
 refine Zaa _ rfl rfl rfl rfl rfl (big_ number 8 _ (by omega)) ?_
 rintro _ w ⟨p1,rfl,hS'⟩
 replace hS := hS.plus hS';clear hS';repeat (first|(refine Zaf ?_;first|refine Yax ?_)|(refine Zad ?_;first|refine Yay ?_))
 refine Zaa _ rfl rfl rfl rfl rfl (big_ at_ 4 _ (by omega)) ?_
 rintro _ w ⟨p2,rfl,hS'⟩
 replace hS := hS.plus hS';clear hS';repeat (first|(refine Zaf ?_;first|refine Yax ?_)|(refine Zad ?_;first|refine Yay ?_))
 refine Zaa _ rfl rfl rfl rfl rfl (big_ count 4 _ (by omega)) ?_
 rintro _ w ⟨p3,rfl,hS'⟩
 replace hS := hS.plus hS';clear hS';repeat (first|(refine Zaf ?_;first|refine Yax ?_)|(refine Zad ?_;first|refine Yay ?_))
 refine Zaa _ rfl rfl rfl rfl rfl (big_ no 4 _ (by omega)) ?_
 rintro _ w ⟨p4,rfl,hS'⟩
 replace hS := hS.plus hS';clear hS';repeat (first|refine Ybe (fun _ _ hS _ => ?_)|(refine Zaf ?_;first|refine Yax ?_)|(refine Zad ?_;first|refine Yay ?_))
 rename_i b6 w6 _;have hB := Bss.ofRd (w := w6) (a := some ⟨b6,0,none⟩) (l := [⟨some ⟨p1,0,none⟩,8,bigB number 8⟩,⟨some ⟨p2,0,none⟩,4,bigB at_ 4⟩,⟨some ⟨p3,0,none⟩,4,bigB count 4⟩,⟨some ⟨p4,0,none⟩,4,bigB no 4⟩,⟨some ⟨bd,0,none⟩,32,d⟩])
  (by simpa [Bs.val,Zag,hd] using (hS.rd (List.mem_cons_self ..)).own_row) (fun x hx => by
   simp only [List.mem_cons,List.not_mem_nil,or_false] at hx
   rcases hx with rfl | rfl | rfl | rfl | rfl
   ·exact (hS.rd (by simp)).ptsB (T := 5)
   ·exact (hS.rd (by simp)).ptsB (T := 5)
   ·exact (hS.rd (by simp)).ptsB (T := 5)
   ·exact (hS.rd (by simp)).ptsB (T := 5)
   ·exact (hS.rd (by simp)).ptsB (T := 54))
 refine Zaa _ rfl rfl rfl rfl rfl (Z6u b6 0 5 _ _ hB (by simp) (by simp) (by simp) (by simp [Zah,Zag,hd])) ?_
 rintro _ w ⟨r,k,rfl,hS'⟩
 replace hS := hS.plus hS';clear hS' hB;repeat (first|refine Yah ?_|refine Yed ?_|(refine Zaf ?_;first|refine Ya2 ?_|refine Ybl ?_)|(refine Zad ?_;first|refine Yay ?_))
 refine ⟨r,k,rfl,?_⟩
 have := hS.pick [0]
 unfold Zhj
 simpa [Zah] using this
end Cr
namespace Cr
open Go Go.Proofs
set_option maxRecDepth 10000
set_option maxHeartbeats 64000000
theorem Zz8 {n : Nat} (k : Nat) (hk : k ≤ 64) : ishr .u64 (n : Int) k = ((n / 2 ^ k : Nat) : Int) := by
 unfold ishr
 rw [show IntKind.u64.bits = 64 from rfl,Nat.min_eq_left hk,Int.fdiv_eq_ediv_of_nonneg _ (Int.le_of_lt (Int.pow_pos (by omega)))];simp
theorem Zpj (n : Int) (c i : Nat) (hi : i < c) : ∀ j,j ≤ c → (Zk0 n c j).getD i 0 = if i < j then Z0r n c i else 0
 | 0,_ => by simp [Zk0,List.getD_eq_getElem?_getD,hi]
 | j + 1,hj => by
  have ih := Zpj n c i hi j (by omega)
  rw [Zk0,List.getD_eq_getElem?_getD,List.getElem?_set];by_cases h : j = i
  ·rw [if_pos h,if_pos (by rw [Zeb]; omega),if_pos (by omega),h]; rfl
  ·rw [if_neg h,← List.getD_eq_getElem?_getD,ih]
   by_cases h2 : i < j
   ·rw [if_pos h2,if_pos (by omega)]
   ·rw [if_neg h2,if_neg (by omega)]
theorem Z0f {l : List UInt8} (h : l.length ≤ 64) : Zct l = l ++ List.replicate (64 - l.length) 0 := by
 unfold Zct
 rw [List.take_append,List.take_of_length_le h,List.take_replicate,show min (64 - l.length) 64 = 64 - l.length by omega]
end Cr
namespace Cr
open Go
set_option maxHeartbeats 64000000
theorem Rd.cellsX {w : World} {a : Option Addr} {cs seg : List Value} {i' i n : Nat} (H : Rd w (Cr.row a cs)) (hi : i' = i) (h : (cs.drop i).take n = seg) (hn : seg.length = n) : Zmh w (adr a i') n seg := by
 subst hi; subst h
 exact ⟨H.seg _ _,hn⟩
end Cr
namespace Cr
open Go Go.Proofs
set_option maxRecDepth 100000
set_option maxHeartbeats 64000000
attribute [local irreducible] Calls

/-! ### number -/
def Zil (rd fs : List Int) (b : List UInt8) : Bool := decide (0 ≤ Zcp (b.take 8)) && decide (Zcp (b.take 8) ≤ 1152921504606846976) && decide (b = Zeq rd fs (Zcp (b.take 8)))
def Za9 (rd fs : List Int) (b : List UInt8) : Int × Bool := if b = List.replicate 64 0 then (0,true) else (Zcp (b.take 8),Zil rd fs b)
theorem Z2y (a : Option Addr) (c : Nat) (b : List UInt8) (rd fs : List Int) (W : World) (hG : Gl W noF rd fs) (hb : Rd W (bytes a b)) (h64 : b.length = 64) (hc : 64 ≤ c) :
  Calls Tryz.prog 111 #[.slice a 64 c] W (Ret fun v w => v = .tuple #[.int .i64 (Za9 rd fs b).1,.bool (Za9 rd fs b).2] ∧ St W noF [] w) := by
 have hS := St.start W
 have hbo := hb.ro
 obtain ⟨ab,ao,rfl⟩ := hb.base (by intro e; have := Zak b; rw [e] at this; simp at this; omega)
 have hb8 : Rd W (bytes (some ⟨ab,ao,none⟩) (b.take 8)) := by
  have := hb.subBytes (l := 0) (h := 8) (c := c) (by omega) (by omega)
  rw [sub_zero] at this
  simpa using this
 have h8 : (b.take 8).length = 8 := by simp [h64]
 have hsm := Z04 (some ⟨ab,ao,none⟩) c (b.take 8) W hb8 (by omega)
 rw [h8] at hsm;obtain ⟨n,hn⟩ : ∃ n,n = Zcp (b.take 8) := ⟨_,rfl⟩
 rw [← hn] at hsm;refine Zab Tryz.func111 rfl Tryz.ntmps111 rfl ?_
 repeat (first|refine Yeb ?_|refine Yeq ?_|refine Yec ?_|refine Yab ?_)
 refine X_yl (Zaq (l := 0) (h := 8) rfl rfl rfl rfl (.inr ⟨_,_,rfl,by omega,by omega,by omega⟩) (.inl ⟨rfl,rfl⟩)) rfl rfl ?_
 rw [sub_zero,Nat.sub_zero,Nat.sub_zero];repeat (first|refine Yeb ?_|(refine X_id ?_;first|(refine Zaa 162 rfl rfl rfl rfl rfl hsm ?_;rintro _ _ ⟨rfl,rfl⟩)|refine Ye4 ?_|refine Ydr (fun _ _ hS => ?_))|refine Yec ?_|refine Yab ?_)
 refine Zaa _ rfl rfl rfl rfl rfl (Zsv _ _ _ _ _ _ b (List.replicate 64 0) _ (hbo.rd hS) ((hS.rd (List.mem_cons_self ..)).ptsB) h64 (by simp)) ?_
 rintro _ _ ⟨rfl,rfl⟩
 by_cases hz : b = List.replicate 64 0
 ·repeat (first|refine Yeb ?_|refine Yag ?_|refine Yae ?_|refine Yad ?_|refine Yah ?_|refine Zys rfl (by first|assumption|omega) ?_|refine Ye7 ?_)
  exact ⟨by rw [Za9,if_pos hz],hS.drops⟩
 ·have e2 : Za9 rd fs b = (n,Zil rd fs b) := by rw [Za9,if_neg hz,hn]
  by_cases h0 : 0 ≤ n
  ·by_cases h1 : n ≤ 1152921504606846976
   ·repeat (first|refine Yes ?_|refine Yaf ?_|refine Ya9 ?_|refine Ydc ?_|refine Yb2 ?_|refine Yae ?_|refine Yad ?_|refine Yal ?_|refine Ydy ?_|refine Yab ?_)
    refine Zaa _ rfl rfl rfl rfl rfl (Z1h n rd fs _ (hG.mono fun r hr => (hr.rd hS).ro)) ?_
    rintro _ w ⟨p,k,rfl,hS'⟩
    replace hS := hS.plus hS';clear hS';repeat (first|refine Yav ?_)
    refine Zaa _ rfl rfl rfl rfl rfl (Zsv _ _ _ _ _ _ b (Zeq rd fs n) _ (hbo.rd hS) (hS.rd (List.mem_cons_self ..)) h64 (Zhu ..)) ?_
    rintro _ _ ⟨rfl,rfl⟩
    repeat (first|refine Yeb ?_|refine Yag ?_|refine Ya9 ?_|refine Yah ?_|refine Ye0 ?_)
    refine ⟨?_,hS.drops⟩
    rw [e2];simp [Zil,← hn,h0,h1]
   ·repeat (first|refine Yfb ?_|(refine X_id ?_;first|refine Yaf ?_|refine Yag ?_|refine Ya9 ?_|refine Ya7 ?_|refine Ydt ?_|refine Yb2 ?_)|refine Yae ?_|refine Yad ?_|refine Yah ?_|refine Yal ?_|refine Ydy ?_|refine Ye0 ?_)
    refine ⟨?_,hS.drops⟩
    rw [e2];simp [Zil,← hn,h1]
  ·repeat (first|refine Yev ?_|refine Yaf ?_|refine Yag ?_|refine Ya7 ?_|refine Yb6 ?_|refine Yae ?_|refine Yad ?_|refine Yah ?_|refine Yal ?_|refine Ydy ?_|refine Ye0 ?_)
   refine ⟨?_,hS.drops⟩
   rw [e2];simp [Zil,← hn,h0]
structure Wr where
 no : Int
 x : Bs
def Wr.cells (v : Wr) : List Value := [.int .i64 v.no,.slice v.x.a v.x.s.length v.x.c]
def Wr.data (v : Wr) : Int × List UInt8 := (v.no,v.x.s)
structure Wrs (W : World) (F : Nat → Prop) (a : Option Addr) (l : List Wr) : Prop where
 row : Ro W F (row a (l.flatMap Wr.cells))
 all : ∀ v ∈ l,Ro W F (bytes v.x.a v.x.s)
theorem Wrs.mono {W w : World} {F F' : Nat → Prop} {a : Option Addr} {l : List Wr} (h : Wrs W F a l) (hw : ∀ r,Ro W F r → Ro w F' r) : Wrs w F' a l := ⟨hw _ h.row,fun x hx => hw _ (h.all x hx)⟩
theorem Zn6 {l : List Wr} {i : Nat} {v : Wr} (h : l[i]? = some v) : ((l.flatMap Wr.cells).drop (i * 2)).take 2 = v.cells := Zd3 (f := Wr.cells) (fun _ _ => rfl) h
theorem Z4d (l : List Wr) : (l.flatMap Wr.cells).length = l.length * 2 := Zgw (fun _ _ => rfl)
def Zfy (number : Int) (l : List (Int × List UInt8)) : List (List UInt8) := [bigB number 8,bigB (l.length : Nat) 4] ++ l.flatMap fun v => [bigB v.1 4,v.2]
def sumB (rd fs : List Int) (number : Int) (l : List (Int × List UInt8)) : List UInt8 := digest rd fs (Zfy number l)
theorem Zj2 (rd fs : List Int) (number : Int) (l : List (Int × List UInt8)) : (sumB rd fs number l).length = 32 := Zbc _ _ _
attribute [irreducible] sumB
theorem St.rdsPut {W : World} {F : Nat → Prop} {rs : List Res} {w : World} {b : Nat} {T : TypeId} {s : List UInt8} {l : List Bs} (k : Nat) (hS : St W F (pts b (.cells (bv s).toArray T) :: rds l :: rs) w) : St W F (rds (l ++ [⟨some ⟨b,0,none⟩,k,s⟩]) :: rs) w :=
 St.rdsCons (x := ⟨some ⟨b,0,none⟩,k,s⟩) (hS.head fun h hh => Zgp h hh)
theorem Z4a (number : Int) (a : Option Addr) (c : Nat) (l : List Wr) (rd fs : List Int) (W : World) (hG : Gl W noF rd fs) (hW : Wrs W noF a l) (hl : l.length ≤ 1048576) (hn : (Zaz (Zfy number (l.map Wr.data))).length < 1152921504606846976) :
  Calls Tryz.prog 119 #[.int .i64 number,.slice a l.length c] W (Ret fun v w => v = .agg (bv (sumB rd fs number (l.map Wr.data))).toArray ∧ St W noF [] w) := by
 have hS := St.start W
 refine Zab Tryz.func119 rfl Tryz.ntmps119 rfl ?_
 repeat (first|refine Yeb ?_|refine Yaf ?_|refine Yar (fun _ _ hS _ => ?_)|refine Yec ?_|refine Yab ?_)
 rename_i b4 _ _;refine Zaa _ rfl rfl rfl rfl rfl (big_ number 8 _ (by omega)) ?_
 rintro _ w ⟨p1,rfl,hS'⟩
 replace hS := hS.plus hS';clear hS';repeat (first|refine Yaa ?_|refine Yaf ?_|refine Yat ?_)
 refine Zaa _ rfl rfl rfl rfl rfl (big_ (l.length : Nat) 4 _ (by omega)) ?_
 rintro _ w ⟨p2,rfl,hS'⟩
 replace hS := hS.plus hS';clear hS';repeat (first|refine Yeb ?_|refine Ye4 ?_|refine Ybe (fun _ _ hS _ => ?_)|refine Yee ?_|refine Yab ?_)
 rename_i b5 w5 _;refine Zaj (α := Nat × Option Addr × Nat × List Bs × List Bs) (fun z => [(4,.pointer (some ⟨b4,0,none⟩)),(5,.slice z.2.1 z.2.2.2.1.length z.2.2.1),(14,.slice a l.length c),(15,.int .i64 (l.length : Nat)),(16,.int .i64 (z.1 : Nat))])
  (fun z w => z.1 ≤ l.length ∧ Zbe z.2.2.2.1 = [bigB number 8,bigB (l.length : Nat) 4] ++ (l.take z.1).flatMap (fun v => [bigB v.no 4,v.x.s]) ∧ z.2.2.2.1.length = 2 + 2 * z.1 ∧ z.2.2.2.1.length ≤ z.2.2.1 ∧ (∀ x ∈ z.2.2.2.1,x ∈ z.2.2.2.2 ∨ ∃ v ∈ l,x = v.x) ∧
   St W noF [own 22 1 z.2.1 z.2.2.1 (z.2.2.2.1.map Bs.val),rds z.2.2.2.2,pts b4 (.cells (List.replicate 32 (.int .u8 0)).toArray 54)] w) (fun z => l.length - z.1)
  (0,some ⟨b5,0,none⟩,2,[⟨some ⟨p1,0,none⟩,8,bigB number 8⟩,⟨some ⟨p2,0,none⟩,4,bigB (l.length : Nat) 4⟩],[⟨some ⟨p2,0,none⟩,4,bigB (l.length : Nat) 4⟩,⟨some ⟨p1,0,none⟩,8,bigB number 8⟩])
  ⟨rfl,rfl,rfl,rfl,rfl,trivial⟩ ⟨Nat.zero_le _,rfl,rfl,Nat.le_refl _,by simp,?_⟩ ?_
 ·replace hS := hS.rdsNil
  have hS := hS.pick [2,0,1,0,0]
  replace hS := hS.rdsPut 4
  have hS := hS.pick [1,0,0,0]
  replace hS := hS.rdsPut 8
  have hS := hS.pick [1,0,0]
  simpa [Bs.val,Zag] using hS
 clear hS;rintro ⟨i,a5,c5,L,O⟩ w ⟨hi,hT,hL,hLc,hO,hS⟩
 simp only at hi hT hL hLc hO hS ⊢
 by_cases hlt : i < l.length
 ·have hx0 : l[i]? = some l[i] := List.getElem?_eq_getElem hlt
  generalize l[i] = v at hx0;have hr := hW.row
  have hxs : ((l.flatMap Wr.cells).drop (i * 2)).take 2 = [.int .i64 v.no,.slice v.x.a v.x.s.length v.x.c] := Zn6 hx0
  obtain ⟨ab,ao,rfl⟩ := (hW.row.rd hS).base (by intro e; rw [e] at hxs; simp at hxs)
  repeat (first|refine Yeb ?_|(refine X_id ?_;first|refine Ya1 ?_|refine Ybd ?_|refine Ybq ?_|refine Yao (fun _ hS _ => ?_)|refine Yar (fun _ _ hS _ => ?_))|refine Yef ?_|refine Yab ?_)
  refine Zao (.s 0 (.s 1 (.s 2 (.s 4 (.s 5 (.h 3 (.h 6 (.h 7 (.s 8 .nil) .no) .no) .no)))))) mixed (by kernel_rfl) rfl ?_
  have hS := hS.drew
  repeat (first|(refine Zaf ?_;first|refine Ya6 ?_|refine Ybk ?_|refine Ybn ?_|refine Yax ?_))
  refine Zaa _ rfl rfl rfl rfl rfl (big_ v.no 4 _ (by omega)) ?_
  rintro _ w ⟨p,rfl,hS'⟩
  replace hS := hS.plus hS';clear hS';repeat (first|refine Ybe (fun _ _ hS _ => ?_)|(refine Zaf ?_;first|refine Yax ?_)|(refine Zad ?_;first|refine Yay ?_))
  refine Zas rfl rfl rfl rfl rfl hS (by simp) hLc (hS.rd (List.mem_cons_self ..)).own_row rfl (fun u hu => by
   simp only [List.mem_cons,List.not_mem_nil,or_false] at hu
   rcases hu with rfl | rfl <;> rfl) (by omega) (by simp only [maxLen]; omega) (fun a' c' w hS hc' hnil => ?_)
  repeat (first|refine Yeb ?_|refine Yeg ?_|refine Yad ?_|refine Yej ?_|(refine Zaf ?_;first|refine Ya2 ?_|refine Ybl ?_)|(refine Zad ?_;first|refine Yay ?_))
  refine Zae (z := (i,a5,c5,L,O)) (i + 1,a',c',L ++ [(⟨some ⟨p,0,none⟩,4,bigB v.no 4⟩ : Bs),v.x],O ++ [(⟨some ⟨p,0,none⟩,4,bigB v.no 4⟩ : Bs)]) ⟨rfl,?_,rfl,rfl,rfl,trivial⟩ ⟨by simp only; omega,?_,by simp; omega,by simp; omega,?_,?_⟩ (by simp only; omega)
  ·show some _ = some _
   simp
  ·have hi : i < l.length := hlt
   rw [List.take_succ_eq_append_getElem hi];have hv : l[i] = v := by
    have := List.getElem?_eq_getElem hi
    rw [hx0] at this;exact (Option.some.inj this).symm
   rw [hv];simp only [Zbe,List.map_append,List.flatMap_append,List.flatMap_cons,List.flatMap_nil,List.map_cons,List.map_nil] at hT ⊢
   rw [hT];simp
  ·intro x hx
   simp only [List.mem_append,List.mem_cons,List.not_mem_nil,or_false] at hx ⊢
   rcases hx with hx | rfl | rfl
   ·rcases hO x hx with h | h
    ·exact .inl (.inl h)
    ·exact .inr h
   ·exact .inl (.inr rfl)
   ·exact .inr ⟨v,List.mem_of_getElem? hx0,rfl⟩
  ·skip
   have hS := hS.pick [2,3,0,2]
   replace hS := hS.rdsPut 4
   have hS := hS.pick [1,0,0]
   simpa [Bs.val,Zag] using hS
 ·obtain rfl : i = l.length := by omega
  repeat (first|refine Yeb ?_|refine Yaf ?_|refine Yaz ?_|refine Yeo ?_|refine Yeh ?_)
  have hB := Bss.ofRd (w := w) (a := a5) (l := L) ((hS.rd (List.mem_cons_self ..)).own_row) (fun x hx => by
   rcases hO x hx with h | ⟨v,hv,rfl⟩
   ·have h1 : Ro w noF (rds O) := (hS.rd (by simp)).ro
    exact (h1.rds x h).start
   ·exact (hW.all v hv).rd hS)
  have hTT : Zbe L = Zfy number (l.map Wr.data) := by
   rw [hT,List.take_length];simp [Zfy,Wr.data,List.flatMap_map]
  have hl32 : LenO (bv (digest rd fs (Zbe L))) 32 := ⟨by rw [Zak]; exact Zbc _ _ _⟩
  refine Zac _ rfl rfl rfl rfl rfl hS (Zne _ c5 L rd fs _ (by rw [hTT]; exact hn) (by omega) (hG.mono fun r hr => (hr.rd hS).ro) hB) ?_
  rintro _ w rfl hS
  clear hB;repeat (first|refine Yeb ?_|refine Yao (fun _ hS _ => ?_)|refine Yah ?_|refine Yab ?_|refine Ybw ?_)
  refine ⟨?_,hS.drops⟩
  rw [hTT];unfold sumB
  rfl
end Cr
namespace Cr
open Go Go.MapKept
set_option maxRecDepth 10000
set_option maxHeartbeats 64000000
class Key (d : TypeDesc) {α : Type} [DecidableEq α] (mk : α → Value) : Prop where
 same : ∀ a b,Instr.sameNow d (mk a) (mk b) = some (decide (a = b))
 isKey : ∀ a,IsKey d (mk a)
 bits : ∀ a n,Instr.sameBits n (mk a) (mk a) = true
instance : Key (.int .i64) (Value.int .i64) := ⟨fun a b => by
 have : (a == b) = decide (a = b) := by by_cases h : a = b <;> simp [h]
 simp [Instr.sameNow,this],fun a => by simp [IsKey],fun a n => by cases n <;> simp [Instr.sameBits]⟩
def mapr {α : Type} (mk : α → Value) (r : Nat) (L : List (α × Value)) : Res := fun h => ∃ (es : Array MapEntry) (clock : Nat),es.toList.map (fun e => (e.key,e.val)) = L.map (fun x => (mk x.1,x.2)) ∧ pts r (.map es clock) h
section
variable {α : Type} [DecidableEq α]
def getM (k : α) : List (α × Value) → Option Value
 | [] => none
 | x :: l => if k = x.1 then some x.2 else getM k l
def setM (k : α) (v : Value) : List (α × Value) → List (α × Value)
 | [] => [(k,v)]
 | x :: l => if k = x.1 then (k,v) :: l else x :: setM k v l
theorem Zcu {d : TypeDesc} {mk : α → Value} [hk : Key d mk] (k : α) : ∀ (L : List (α × Value)) (es : List MapEntry) (i : Nat),es.map (fun e => (e.key,e.val)) = L.map (fun x => (mk x.1,x.2)) →
  ∃ r,Instr.findNow d (mk k) es i = some r ∧ r.map (·.2) = getM k L ∧ (∀ p,r = some p → i ≤ p.1 ∧ ∃ e,es[p.1 - i]? = some e ∧ e.key = mk k ∧ (es.modify (p.1 - i) fun e => { e with key := mk k,val := p.2 }).map (fun e => (e.key,e.val)) = L.map (fun x => (mk x.1,x.2)))
 | [],[],i,_ => ⟨none,rfl,rfl,fun p h => by cases h⟩
 | [],_ :: _,_,h => by simp at h
 | _ :: _,[],_,h => by simp at h
 | x :: L,e :: es,i,h => by
  simp only [List.map_cons,List.cons.injEq,Prod.mk.injEq] at h
  obtain ⟨⟨h1,h2⟩,h3⟩ := h
  unfold Instr.findNow getM
  rw [h1,hk.same];by_cases hkx : k = x.1
  ·subst hkx
   refine ⟨some (i,e.val),by simp,by simp [h2],fun p hp => ?_⟩
   cases hp
   exact ⟨Nat.le_refl _,e,by simp,h1,by simp [h2,h3]⟩
  ·obtain ⟨r,g1,g2,g3⟩ := Zcu (d := d) k L es (i + 1) h3
   refine ⟨r,by simp [hkx,g1],by rw [g2,if_neg hkx],fun p hp => ?_⟩
   obtain ⟨h4,e',h5,h6,h7⟩ := g3 p hp
   have e1 : p.1 - i = (p.1 - (i + 1)) + 1 := by omega
   refine ⟨by omega,e',by rw [e1]; simpa using h5,h6,?_⟩
   rw [e1,List.modify_succ_cons,List.map_cons,h7,h1,h2]
   rfl
variable {P : Program} {o : Oper} {σ : Env} {w : World} {x y : Operand} {t kt et : TypeId} {N : Nat} {ds : Md} {K : Env → World → Prop} {mk : α → Value} {dd : TypeDesc}
theorem Zyb {β : Type} {d : Nat} {W : World} {F : Nat → Prop} {rs : List Res} (mk : β → Value) (ho : o.op = .makeMap t none) (hd : o.dst = some d) (hN : Nat.blt d N = true) (hS : St W F rs w)
  (hk : ∀ r w',St W F (mapr mk r [] :: rs) w' → K ((d,.map (some r)) :: σ) w') : X P o N ds σ w K := ⟨fun f ha K' Q' hK => by
 unfold Oper.wp
 have hexec : (execOp f.eval o).run P w = .ok (.value (.map (some w.heap.size))) (w.alloc (.map #[] 0)) := by
  have : (Instr.makeMap t none).run P w = .ok (.map (some w.heap.size)) (w.alloc (.map #[] 0)) := rfl
  simp [execOp,ho,this]
 rw [hexec];have := hK _ _ _ (ha.put (Zam hN) (.map (some w.heap.size))) (hk w.heap.size _ ((hS.alloc (.map #[] 0)).head fun h hh => ⟨#[],0,by simp,hh⟩))
 rw [← hd] at this;exact this⟩
theorem Zh3 {r : Nat} {L : List (α × Value)} {k : α} {z : Value} {n m : Nat} (ho : o.op = .lookup t x y false) (hx : ev σ x = some (.map (some r))) (hy : ev σ y = some (mk k)) [hu : Und P t (.map kt et)] [hkt : Und P kt dd] [hK : Key dd mk] [hi : Inf P et z n m]
  (hr : Rd w (mapr mk r L)) : Yl P o σ w ((getM k L).getD z) := ⟨fun N ds f ha => by
 obtain ⟨h,⟨es,clock,hes,rfl⟩,hag⟩ := hr
 have hb : w.heap[r]? = some (.map es clock) := hag r _ (Zan _ _)
 obtain ⟨q,g1,g2,_⟩ := Zcu (hk := hK) k L es.toList 0 hes
 obtain ⟨i,hi',hz',_⟩ := info_parts hi.inf
 have hc := run_checkKey (P := P) (w := w) hkt.und (hK.isKey k) es.isEmpty 9999
 have hf := run_findKey (P := P) (w := w) hkt.und g1
 have hg : (getObj r).run P w = .ok (.map es clock) w := by simp [getObj,Sem.run,hb]
 simp only [execOp,ho,ha.eval hx,ha.eval hy,Instr.lookup,Sem.run_bind,run_underlying hu.und,hg,hc,hf,Result.andThen_ok,Sem.run_pure]
 rw [← g2];cases q <;> simp [zeroValue,typeInfo,hi',hz']⟩
theorem Zhb {k : α} {v : Value} : ∀ {L : List (α × Value)},getM k L = none → setM k v L = L ++ [(k,v)]
 | [],_ => rfl
 | x :: L,h => by
  unfold getM at h
  split at h
  ·cases h
  ·rename_i hne
   simp [setM,hne,Zhb h]
theorem Zha {k : α} {v : Value} : ∀ (L : List (α × Value)) (es : List MapEntry) (i : Nat),es.map (fun e => (e.key,e.val)) = L.map (fun x => (mk x.1,x.2)) → ∀ [Key dd mk] (j : Nat) (u : Value),Instr.findNow dd (mk k) es i = some (some (j,u)) →
  (es.modify (j - i) fun e => { e with key := mk k,val := v }).map (fun e => (e.key,e.val)) = (setM k v L).map (fun x => (mk x.1,x.2)) ∧ i ≤ j ∧ (es[j - i]?).map (·.key) = some (mk k)
 | [],[],i,_,_,j,u,h => by simp [Instr.findNow] at h
 | [],_ :: _,_,h,_,_,_,_ => by simp at h
 | _ :: _,[],_,h,_,_,_,_ => by simp at h
 | x :: L,e :: es,i,h,hK,j,u,hf => by
  simp only [List.map_cons,List.cons.injEq,Prod.mk.injEq] at h
  obtain ⟨⟨h1,h2⟩,h3⟩ := h
  unfold Instr.findNow at hf
  rw [h1,hK.same] at hf;unfold setM
  by_cases hkx : k = x.1
  ·subst hkx
   simp at hf
   obtain ⟨rfl,_⟩ := hf
   simp [h3,h1]
  ·simp [hkx] at hf
   obtain ⟨g1,g2,g3⟩ := Zha (v := v) L es (i + 1) h3 j u hf
   have e1 : j - i = (j - (i + 1)) + 1 := by omega
   refine ⟨?_,by omega,by rw [e1]; simpa using g3⟩
   rw [e1,List.modify_succ_cons,List.map_cons,g1,if_neg hkx,h1,h2]
   rfl
theorem Zk8 {r : Nat} {L : List (α × Value)} {k : α} {v : Value} {W : World} {F : Nat → Prop} {rs : List Res} {z : Operand} (ho : o.op = .mapUpdate t x y z) (hx : ev σ x = some (.map (some r))) (hy : ev σ y = some (mk k)) (hz : ev σ z = some v) [hu : Und P t (.map kt et)] [hkt : Und P kt dd] [hK : Key dd mk]
  (hd : o.dst = none) (hS : St W F (mapr mk r L :: rs) w) (hk : ∀ w',St W F (mapr mk r (setM k v L) :: rs) w' → K σ w') : X P o N ds σ w K := ⟨fun f ha K' Q' hKK => by
 obtain ⟨h,⟨h1,h2,⟨es,clock,hes,hp⟩,hs,hdj,hun⟩,s⟩ := hS
 have hS2 : St W F (pts r (.map es clock) :: rs) w := ⟨h,⟨h1,h2,hp,hs,hdj,hun⟩,s⟩
 have hb : w.heap[r]? = some (.map es clock) := hS2.get
 obtain ⟨q,g1,g2,_⟩ := Zcu (hk := hK) k L es.toList 0 hes
 have hc := run_checkKey (P := P) (w := w) hkt.und (hK.isKey k) false 9999
 have hf := run_findKey (P := P) (w := w) hkt.und g1
 have hg : (getObj r).run P w = .ok (.map es clock) w := by simp [getObj,Sem.run,hb]
 have hset : ∀ o',(setObj r o').run P w = .ok () { w with heap := w.heap.setIfInBounds r o' } := fun o' => run_setObj_map o' hb
 unfold Oper.wp
 have key : ∃ es' clock',(execOp f.eval o).run P w = .ok .skip { w with heap := w.heap.setIfInBounds r (.map es' clock') } ∧ es'.toList.map (fun e => (e.key,e.val)) = (setM k v L).map (fun x => (mk x.1,x.2)) := by
  cases hq : q with
  | none =>
   subst hq
   refine ⟨es.push { key := mk k,val := v,born := clock },clock + 1,?_,?_⟩
   ·simp only [execOp,ho,ha.eval hx,ha.eval hy,ha.eval hz,Instr.mapUpdate,Sem.run_bind,run_underlying hu.und,hg,hc,hf,hset,Result.andThen_ok,Sem.run_pure]
   ·rw [Zhb (by rw [← g2]; rfl)]
    simp [hes]
  | some p =>
   obtain ⟨j,u⟩ := p
   subst hq
   obtain ⟨g4,g5,g6⟩ := Zha (v := v) L es.toList 0 hes j u g1
   simp only [Nat.sub_zero] at g4 g6
   have hek : ((es[j]?).map (·.key)).getD (mk k) = mk k := by
    rw [← Array.getElem?_toList,g6]; rfl
   refine ⟨es.modify j fun e => { e with key := mk k,val := v },clock,?_,?_⟩
   ·simp only [execOp,ho,ha.eval hx,ha.eval hy,ha.eval hz,Instr.mapUpdate,Sem.run_bind,run_underlying hu.und,hg,hc,hf,hset,Result.andThen_ok,Sem.run_pure,hek,Instr.keyThatStays,hK.bits,if_true]
   ·simpa [Array.toList_modify] using g4
 obtain ⟨es',clock',hexec,hes'⟩ := key
 rw [hexec];have u := Za6 (o' := .map es' clock') hb
 refine hKK _ _ _ (?_ : Fr σ N ds _) (hk _ ((hS2.set u).head fun h hh => ⟨es',clock',hes',hh⟩))
 rw [hd]; exact ha⟩
end
end Cr
namespace Cr
open Go Go.Proofs
set_option maxRecDepth 100000
set_option maxHeartbeats 64000000
attribute [local irreducible] Calls

def badW (x : Int × List UInt8) : Bool := decide (x.1 < 0) || decide (¬ (x.2.length : Int) = 64)
def Zbd (l : List (Int × List UInt8)) : Nat → Bool
 | 0 => false
 | i + 1 => Zbd l i || decide ((l.getD i (0,[])).1 ∈ (l.take i).map (·.1))
def Zca (l : List (Int × List UInt8)) : Int := if l.any badW then 1 else if Zbd l l.length then 8 else 0
def Zj6 (l : List (Int × List UInt8)) : Nat → List (Int × Value)
 | 0 => []
 | i + 1 => setM (l.getD i (0,[])).1 (.bool true) (Zj6 l i)
theorem Zkm (k k' : Int) (v : Value) : ∀ L,getM k (setM k' v L) = if k = k' then some v else getM k L
 | [] => by by_cases h : k = k' <;> simp [setM,getM,h]
 | x :: L => by
  unfold setM
  by_cases h : k' = x.1
  ·subst h
   by_cases h2 : k = x.1 <;> simp [getM,h2]
  ·rw [if_neg h]
   unfold getM
   rw [Zkm k k' v L];by_cases h1 : k = x.1
   ·have : ¬ k = k' := fun e => h (by rw [← e,h1])
    simp [h1,Ne.symm h]
   ·simp [h1]
theorem Zo3 (l : List (Int × List UInt8)) (k : Int) : ∀ i,i ≤ l.length → (getM k (Zj6 l i)).getD (.bool false) = .bool (decide (k ∈ (l.take i).map (·.1)))
 | 0,_ => by simp [Zj6,getM]
 | i + 1,h => by
  have ih := Zo3 l k i (by omega)
  simp only [Zj6]
  rw [Zkm,List.take_succ_eq_append_getElem (by omega)];have e : l.getD i (0,[]) = l[i] := by simp [List.getD_eq_getElem?_getD,show i < l.length by omega]
  have e2 : (l.take i ++ [l[i]]).map (·.1) = (l.take i).map (·.1) ++ [l[i].1] := by rw [List.map_append]; rfl
  rw [e,e2];simp only [List.mem_append,List.mem_singleton]
  by_cases hk : k = l[i].1
  ·rw [if_pos hk,decide_eq_true (Or.inr hk)]; rfl
  ·rw [if_neg hk,ih]
   congr 1
   exact decide_eq_decide.2 ⟨Or.inl,fun h => h.resolve_right hk⟩
theorem Zkx (a : Option Addr) (c : Nat) (l : List Wr) (W : World) (hW : Wrs W noF a l) (hl : l.length ≤ 1048576) (hx64 : ∀ v ∈ l,v.x.s.length ≤ 140737488355328) :
  Calls Tryz.prog 116 #[.slice a l.length c] W (Ret fun v w => v = .int .i64 (Zca (l.map Wr.data)) ∧ St W noF [] w) := by
 have hS := St.start W
 obtain ⟨d,hd⟩ : ∃ d,d = l.map Wr.data := ⟨_,rfl⟩
 rw [← hd];have hdl : d.length = l.length := by rw [hd]; simp
 refine Zab Tryz.func116 rfl Tryz.ntmps116 rfl ?_
 repeat (first|refine Yeb ?_|refine Yag ?_|refine Yec ?_|refine Yab ?_)
 refine Zyb (Value.int .i64) rfl rfl rfl hS (fun r w hS => ?_)
 repeat (first|refine Yeb ?_|refine Ye4 ?_|refine Yee ?_|refine Yab ?_)
 refine Zaj (α := Nat) (fun i => [(3,.map (some r)),(4,.bool (Zbd d i)),(8,.slice a l.length c),(9,.int .i64 (l.length : Nat)),(10,.int .i64 (i : Nat))])
  (fun i w => i ≤ l.length ∧ (∀ x ∈ d.take i,badW x = false) ∧ St W noF [mapr (Value.int .i64) r (Zj6 d i)] w) (fun i => l.length - i) 0 ⟨rfl,rfl,rfl,rfl,rfl,trivial⟩ ⟨Nat.zero_le _,by simp,hS⟩ ?_
 clear hS;rintro i w ⟨hi,hbad,hS⟩
 by_cases hlt : i < l.length
 ·have hx0 : l[i]? = some l[i] := List.getElem?_eq_getElem hlt
  generalize l[i] = v at hx0;have hv64 := hx64 v (List.mem_of_getElem? hx0)
  have hdi : d[i]? = some v.data := by rw [hd]; simp [hx0]
  have hdg : d.getD i (0,[]) = (v.no,v.x.s) := by rw [List.getD_eq_getElem?_getD,hdi]; rfl
  have hr := hW.row
  have hxs : ((l.flatMap Wr.cells).drop (i * 2)).take 2 = [.int .i64 v.no,.slice v.x.a v.x.s.length v.x.c] := Zn6 hx0
  obtain ⟨ab,ao,rfl⟩ := (hW.row.rd hS).base (by intro e; rw [e] at hxs; simp at hxs)
  have hbadr : badW v.data = true → Zca d = 1 := fun h => by
   unfold Zca
   rw [if_pos (List.any_eq_true.2 ⟨_,List.mem_of_getElem? hdi,h⟩)]
  by_cases hn : v.no < 0
  ·repeat (first|refine Yev ?_|(refine X_id ?_;first|refine Yaf ?_|refine Yag ?_|refine Yan ?_|refine Ya9 ?_|refine Ya1 ?_|refine Ybd ?_|refine Yaq ?_|refine Ybq ?_|refine Yao (fun _ hS _ => ?_)|refine Yar (fun _ _ hS _ => ?_))|refine Yae ?_|refine Yad ?_|refine Yak ?_|refine Yah ?_|refine Yal ?_|refine Yaj ?_|refine Yex ?_)
   exact ⟨by rw [hbadr (by simp [badW,Wr.data,hn])],hS.drops⟩
  ·by_cases h64 : (v.x.s.length : Int) = 64
   ·have hgood : badW v.data = false := by unfold badW Wr.data; rw [decide_eq_false hn]; simp [h64]
    obtain ⟨b,hb⟩ : ∃ b,b = Zbd d i := ⟨_,rfl⟩
    rw [← hb];have ht : Zbd d (i + 1) = (b || decide (v.no ∈ (d.take i).map (·.1))) := by rw [Zbd,hdg,← hb]
    have hb1 : ∀ x ∈ d.take (i + 1),badW x = false := fun x hx => by
     have hid : i < d.length := by omega
     rw [List.take_succ_eq_append_getElem hid] at hx;have hvd : d[i] = v.data := by
      have := List.getElem?_eq_getElem hid
      rw [hdi] at this;exact (Option.some.inj this).symm
     rw [hvd] at hx;rcases List.mem_append.1 hx with h | h
     ·exact hbad x h
     ·rw [List.mem_singleton.1 h]; exact hgood
    cases b
    ·repeat (first|refine Yes ?_|(refine X_id ?_;first|refine Yaf ?_|refine Yan ?_|refine Ya7 ?_|refine Yat ?_|refine Ybc ?_|refine Ya1 ?_|refine Yaz ?_|refine Ybd ?_|refine Yaq ?_|refine Ybq ?_|refine Yao (fun _ hS _ => ?_)|refine Yar (fun _ _ hS _ => ?_))|refine Yei ?_|refine Yab ?_)
     refine X_yl (Zh3 (mk := Value.int .i64) (k := v.no) rfl rfl rfl (hS.rd (List.mem_cons_of_mem _ (List.mem_cons_self ..)))) rfl rfl ?_
     rw [Zo3 d v.no i (by omega)];repeat (first|refine Yeb ?_|(refine X_id ?_;first|refine Yaf ?_|refine Yag ?_|refine Yan ?_|refine Ya7 ?_|refine Yaq ?_)|refine Yad ?_|refine Yab ?_)
     replace hS := hS.pick [1]
     refine Zk8 (mk := Value.int .i64) (k := v.no) rfl rfl rfl rfl rfl hS (fun w hS => ?_)
     repeat (first|refine Yeb ?_|refine Yeg ?_|refine Yad ?_|refine Yej ?_)
     refine Zae (i + 1) ⟨rfl,by rw [ht]; rfl,rfl,rfl,rfl,trivial⟩ ⟨by omega,hb1,?_⟩ (by omega)
     simp only [Zj6,hdg]
     exact hS
    ·repeat (first|refine Yfb ?_|(refine X_id ?_;first|refine Yaf ?_|refine Yag ?_|refine Yan ?_|refine Ya9 ?_|refine Ya7 ?_|refine Yat ?_|refine Ybc ?_|refine Ya1 ?_|refine Yaz ?_|refine Ybd ?_|refine Yaq ?_|refine Ybq ?_|refine Yao (fun _ hS _ => ?_)|refine Yar (fun _ _ hS _ => ?_))|refine Yei ?_|refine Yab ?_)
     replace hS := hS.pick [1]
     refine Zk8 (mk := Value.int .i64) (k := v.no) rfl rfl rfl rfl rfl hS (fun w hS => ?_)
     repeat (first|refine Yeb ?_|refine Yeg ?_|refine Yad ?_|refine Yej ?_)
     refine Zae (i + 1) ⟨rfl,by rw [ht]; rfl,rfl,rfl,rfl,trivial⟩ ⟨by omega,hb1,?_⟩ (by omega)
     simp only [Zj6,hdg]
     exact hS
   ·repeat (first|refine Yes ?_|(refine X_id ?_;first|refine Yaf ?_|refine Yag ?_|refine Yan ?_|refine Ya7 ?_|refine Yat ?_|refine Ybj ?_|refine Ya1 ?_|refine Yaz ?_|refine Ybd ?_|refine Yaq ?_|refine Ybq ?_|refine Yao (fun _ hS _ => ?_)|refine Yar (fun _ _ hS _ => ?_))|refine Yae ?_|refine Yad ?_|refine Yak ?_|refine Yah ?_|refine Yal ?_|refine Yaj ?_|refine Yex ?_)
    exact ⟨by rw [hbadr (by simp [badW,Wr.data,h64])],hS.drops⟩
 ·obtain rfl : i = l.length := by omega
  have hany : d.any badW = false := by
   rw [← hdl,List.take_length] at hbad
   simpa using hbad
  cases ht : Zbd d l.length
  ·rw [show Zca d = 0 by unfold Zca; rw [if_neg (by simp [hany]),hdl,ht]; rfl]
   repeat (first|refine Yeb ?_|refine Yfj ?_|refine Yae ?_|refine Yad ?_|refine Yah ?_|refine Yal ?_|refine Ya3 ?_|refine Yai ?_|refine Yfd ?_)
   exact ⟨rfl,hS.drops⟩
  ·rw [show Zca d = 8 by unfold Zca; rw [if_neg (by simp [hany]),hdl,ht]; rfl]
   repeat (first|refine Yeb ?_|refine Yfj ?_|refine Yae ?_|refine Yad ?_|refine Yah ?_|refine Ya3 ?_|refine Yaj ?_|refine Yai ?_|refine Yab ?_|refine Yap ?_|refine Ya4 ?_|refine Ya5 ?_|refine Yam ?_)
   exact ⟨rfl,hS.drops⟩
abbrev Zzy (p : Nat) (o s m : Int) (j : Nat) (done : Int) (rd : Bool) : List Value := [.pointer (some ⟨p,0,none⟩),.int .u32 o,.int .i32 s,.int .u32 m,.int .i64 (j : Nat),.int .i64 done,.bool rd]
abbrev Zcd (lp p : Nat) (o s m : Int) (j : Nat) (done : Int) (rd : Bool) : Res := pts lp (.cells (Zzy p o s m j done rd).toArray 149)
section
variable (lp p : Nat) (o s m : Int) (j : Nat) (done : Int) (rd : Bool) (D : DiskM) (W : World)
theorem Zek (hL : Rd W (Zcd lp p o s m j done rd)) (hD : Rd W (disk p D)) (hj : j ≤ 4096) :
  Calls Tryz.prog 115 #[.pointer (some ⟨lp,0,none⟩)] W (Ret fun v w => v = .int .i64 ((D.laid.length : Int) - 1 - j) ∧ St W noF [] w) := by
 have hc := hL.pts
 have hS := St.start W
 have hm := hD.disk.1.most
 have hLo := hL.ro
 have hDo := hD.ro
 refine Zab Tryz.func115 rfl Tryz.ntmps115 rfl ?_
 repeat (first|refine Yeb ?_|refine Yfe ?_|refine Yen ?_|refine Yab ?_)
 refine Zao (.s 0 (.s 1 (.s 2 (.s 3 (.s 6 (.s 7 (.s 8 (.s 9 (.h 4 (.s 5 (.s 10 (.s 11 .nil))) .no))))))))) mixed (by kernel_rfl) rfl ?_
 have hS := hS.drew
 have hc := (hLo.rd hS).pts
 repeat (first|(refine X_id ?_;first|(refine Zaa 57 rfl rfl rfl rfl rfl (Zmu p D _ (hDo.rd hS)) ?_;rintro _ _ ⟨rfl,rfl⟩))|refine Yah ?_|refine Yed ?_|(refine Zaf ?_;first|refine Ya2 ?_|refine Ya6 ?_|refine Ybl ?_|refine Ybs ?_|refine Ybk ?_|refine Yce ?_|refine Ydx ?_|refine Yax ?_)|(refine Zad ?_;first|refine Yay ?_))
 exact ⟨rfl,hS⟩
theorem Zrp (hL : Rd W (Zcd lp p o s m j done rd)) (hj : j ≤ 4096) :
  Calls Tryz.prog 118 #[.pointer (some ⟨lp,0,none⟩)] W (Ret fun v w => v = .int .i64 ((j : Int) / 2) ∧ W = w) := by
 have hc := hL.pts
 have hS := St.start W
 refine Zab Tryz.func118 rfl Tryz.ntmps118 rfl ?_
 repeat (first|refine Yeb ?_|(refine X_id ?_;first|refine Yaf ?_|refine Yag ?_|refine Yau ?_|refine Yan ?_|refine Yc6 ?_|refine Ybt ?_|refine Yb5 ?_)|refine Ye1 ?_|refine Yed ?_)
 exact ⟨rfl,rfl⟩
def hasM (n : Int) (l : List (Int × List UInt8)) : Bool := l.all fun x => decide (x.1 < n)
theorem Zu7 (a : Option Addr) (c : Nat) (l : List Wr) (hL : Rd W (Zcd lp p o s m j done rd)) (hD : Rd W (disk p D)) (hj : j ≤ 4096) (hW : Wrs W noF a l) (hl : l.length ≤ 1048576) :
  Calls Tryz.prog 117 #[.pointer (some ⟨lp,0,none⟩),.slice a l.length c] W (Ret fun v w => v = .bool (hasM ((D.laid.length : Int) - 1 - j) (l.map Wr.data)) ∧ St W noF [] w) := by
 have hS := St.start W
 have hLo := hL.ro
 have hDo := hD.ro
 obtain ⟨n,hn⟩ : ∃ n,n = (D.laid.length : Int) - 1 - j := ⟨_,rfl⟩
 rw [← hn];refine Zab Tryz.func117 rfl Tryz.ntmps117 rfl ?_
 repeat (first|refine Yeb ?_|refine Ye4 ?_|refine Yee ?_|refine Yab ?_)
 refine Zaj (α := Nat) (fun i => [(0,.pointer (some ⟨lp,0,none⟩)),(7,.slice a l.length c),(8,.int .i64 (l.length : Nat)),(9,.int .i64 (i : Nat))])
  (fun i w => i ≤ l.length ∧ (∀ v ∈ l.take i,v.no < n) ∧ St W noF [] w) (fun i => l.length - i) 0 ⟨rfl,rfl,rfl,rfl,trivial⟩ ⟨Nat.zero_le _,by simp,hS⟩ ?_
 clear hS;rintro i w ⟨hi,hok,hS⟩
 by_cases hlt : i < l.length
 ·have hx0 : l[i]? = some l[i] := List.getElem?_eq_getElem hlt
  have htk := List.take_succ_eq_append_getElem hlt
  generalize l[i] = v at hx0 htk;have hr := hW.row
  have hxs : ((l.flatMap Wr.cells).drop (i * 2)).take 2 = [.int .i64 v.no,.slice v.x.a v.x.s.length v.x.c] := Zn6 hx0
  obtain ⟨ab,ao,rfl⟩ := (hW.row.rd hS).base (by intro e; rw [e] at hxs; simp at hxs)
  by_cases hno : v.no < n
  ·repeat (first|refine Yeb ?_|(refine X_id ?_;first|refine Ya1 ?_|refine Ybd ?_|refine Ybq ?_|refine Yao (fun _ hS _ => ?_)|refine Yar (fun _ _ hS _ => ?_))|refine Yef ?_|refine Yab ?_)
   refine Zao (.s 0 (.s 1 (.s 2 (.h 3 (.s 4 .nil) .no)))) mixed (by kernel_rfl) rfl ?_
   have hS := hS.drew
   repeat (first|refine Yeb ?_|(refine X_id ?_;first|(refine Zac 115 rfl rfl rfl rfl rfl hS (Zek lp p o s m j done rd D _ (hLo.rd hS) (hDo.rd hS) hj) ?_;rintro _ _ rfl hS)|refine Yeg ?_)|refine Ye3 ?_|refine Yej ?_|(refine Zaf ?_;first|refine Ya2 ?_|refine Ya6 ?_|refine Ybk ?_|refine Zai rfl rfl (fun _ => Znw rfl rfl rfl (by omega)) rfl rfl ?_|refine Ybn ?_|refine Yax ?_)|(refine Zad ?_;first|refine Yay ?_))
   refine Zae (i + 1) ⟨rfl,rfl,rfl,rfl,trivial⟩ ⟨by omega,?_,hS.drops⟩ (by omega)
   rw [htk];intro x hx
   rcases List.mem_append.1 hx with h | h
   ·exact hok x h
   ·rw [List.mem_singleton.1 h]; exact hno
  ·repeat (first|refine Yeb ?_|(refine X_id ?_;first|refine Ya1 ?_|refine Ybd ?_|refine Ybq ?_|refine Yao (fun _ hS _ => ?_)|refine Yar (fun _ _ hS _ => ?_))|refine Yef ?_|refine Yab ?_)
   refine Zao (.s 0 (.s 1 (.s 2 (.h 3 (.s 4 .nil) .no)))) mixed (by kernel_rfl) rfl ?_
   have hS := hS.drew
   repeat (first|refine Yeb ?_|(refine X_id ?_;first|(refine Zac 115 rfl rfl rfl rfl rfl hS (Zek lp p o s m j done rd D _ (hLo.rd hS) (hDo.rd hS) hj) ?_;rintro _ _ rfl hS)|refine Yag ?_)|refine Yet ?_|refine Yex ?_|(refine Zaf ?_;first|refine Ya2 ?_|refine Ya6 ?_|refine Ybk ?_|refine Zai rfl rfl (fun _ => Zjo rfl rfl rfl (by omega)) rfl rfl ?_|refine Ybn ?_|refine Yax ?_)|(refine Zad ?_;first|refine Yay ?_))
   refine ⟨?_,hS.drops⟩
   have : hasM n (l.map Wr.data) = false := by
    unfold hasM
    rw [List.all_eq_false];exact ⟨v.data,List.mem_map.2 ⟨v,List.mem_of_getElem? hx0,rfl⟩,by simp [Wr.data,hno]⟩
   rw [this]
 ·obtain rfl : i = l.length := by omega
  repeat (first|refine Yeb ?_|refine Yag ?_|refine Yaz ?_|refine Yek ?_|refine Yfd ?_)
  refine ⟨?_,hS⟩
  have : hasM n (l.map Wr.data) = true := by
   unfold hasM
   rw [List.all_eq_true];intro x hx
   obtain ⟨v,hv,rfl⟩ := List.mem_map.1 hx
   rw [List.take_length] at hok;exact decide_eq_true (hok v hv)
  rw [this]
end

/-! ### steps -/
def Zdl (x : Int × DiskM) (no : Int) (b : List UInt8) : Int × DiskM := if x.1 = 0 then x.2.write no b else x
def Zdc (x : Int × DiskM) : Int × DiskM := if x.1 = 0 then x.2.flush else x
abbrev Zix (sp p : Nat) (e : Int) : Res := pts sp (.cells #[.pointer (some ⟨p,0,none⟩),.int .i64 e] 232)
theorem Zj0 (sp p : Nat) (x : Int × DiskM) (no : Int) (a : Option Addr) (n c : Nat) (b : List UInt8) (W : World) (F : Nat → Prop) (hS : St W F [Zix sp p x.1,disk p x.2] W) (hb : Ro W F (bytes a b)) (hn : b.length = n) (hline : x.2.line.length < 1073741824) :
  Calls Tryz.prog 120 #[.pointer (some ⟨sp,0,none⟩),.int .i64 no,.slice a n c] W (Ret fun _ w => True ∧ St W F [Zix sp p (Zdl x no b).1,disk p (Zdl x no b).2] w) := by
 obtain ⟨e,D⟩ := x
 simp only at hS hline ⊢
 by_cases he : e = 0
 ·subst he
  refine Zab Tryz.func120 rfl Tryz.ntmps120 rfl ?_
  repeat (first|refine Yeb ?_|(refine X_id ?_;first|refine Yaf ?_|refine Yau ?_|refine Yan ?_|refine Ybg ?_|refine Yaq ?_)|refine Yem ?_|refine Yab ?_)
  obtain ⟨_,hc,hr,hw,hbk⟩ := hS.call [false,true]
  refine Zaa _ rfl rfl rfl rfl rfl (Z4b p D no a n c b _ _ hc (hw _ hb) hn hline) ?_
  rintro _ w ⟨rfl,hS⟩
  replace hS := hbk hS
  clear hc hr hw hbk;repeat (first|refine Yeb ?_|refine Yau ?_|refine Yan ?_|refine Yao (fun _ hS _ => ?_)|refine Ybu ?_)
  refine ⟨trivial,?_⟩
  simp only [Zdl,if_true]
  have hS := hS.pick [1,0]
  exact hS
 ·refine Zab Tryz.func120 rfl Tryz.ntmps120 rfl ?_
  repeat (first|refine Yeb ?_|(refine X_id ?_;first|refine Yaf ?_|refine Yau ?_|refine Yan ?_|refine Ybh ?_|refine Yaq ?_)|refine Yen ?_|refine Yab ?_|refine Ybu ?_)
  refine ⟨trivial,?_⟩
  simp only [Zdl,if_neg he]
  exact hS
theorem Zmt (sp p : Nat) (x : Int × DiskM) (W : World) (F : Nat → Prop) (hS : St W F [Zix sp p x.1,disk p x.2] W) (hline : x.2.line.length < 1073741824) :
  Calls Tryz.prog 122 #[.pointer (some ⟨sp,0,none⟩)] W (Ret fun _ w => True ∧ St W F [Zix sp p (Zdc x).1,disk p (Zdc x).2] w) := by
 obtain ⟨e,D⟩ := x
 simp only at hS hline ⊢
 by_cases he : e = 0
 ·subst he
  refine Zab Tryz.func122 rfl Tryz.ntmps122 rfl ?_
  repeat (first|refine Yeb ?_|(refine X_id ?_;first|refine Yaf ?_|refine Yau ?_|refine Yan ?_|refine Ybg ?_|refine Yaq ?_)|refine Yem ?_|refine Yab ?_)
  obtain ⟨_,hc,hr,hw,hbk⟩ := hS.call [false,true]
  refine Zaa _ rfl rfl rfl rfl rfl (Z6x p D _ _ hc hline) ?_
  rintro _ w ⟨rfl,hS⟩
  replace hS := hbk hS
  clear hc hr hw hbk;repeat (first|refine Yeb ?_|refine Yau ?_|refine Yan ?_|refine Yao (fun _ hS _ => ?_)|refine Ybu ?_)
  refine ⟨trivial,?_⟩
  simp only [Zdc,if_true]
  have hS := hS.pick [1,0]
  exact hS
 ·refine Zab Tryz.func122 rfl Tryz.ntmps122 rfl ?_
  repeat (first|refine Yeb ?_|(refine X_id ?_;first|refine Yaf ?_|refine Yau ?_|refine Yan ?_|refine Ybh ?_|refine Yaq ?_)|refine Yen ?_|refine Yab ?_|refine Ybu ?_)
  refine ⟨trivial,?_⟩
  simp only [Zdc,if_neg he]
  exact hS
theorem Ztj (D : DiskM) (no : Int) (b : List UInt8) : (D.write no b).2.line.length ≤ D.line.length + 1 ∧ (D.write no b).2.laid.length = D.laid.length := by
 unfold DiskM.write
 split
 ·simp
 ·split
  ·simp
  ·split <;> simp [DiskM.used]
theorem Zuf (D : DiskM) : D.flush.2.line.length ≤ D.line.length ∧ D.flush.2.laid.length = D.laid.length := by
 unfold DiskM.flush
 split
 ·simp
 ·split <;> simp [DiskM.used,DiskM.flushed,Zaw]
theorem Zdo (x : Int × DiskM) (no : Int) (b : List UInt8) : (Zdl x no b).2.line.length ≤ x.2.line.length + 1 ∧ (Zdl x no b).2.laid.length = x.2.laid.length := by
 unfold Zdl
 split
 ·exact Ztj x.2 no b
 ·simp
theorem Zlm (x : Int × DiskM) : (Zdc x).2.line.length ≤ x.2.line.length ∧ (Zdc x).2.laid.length = x.2.laid.length := by
 unfold Zdc
 split
 ·exact Zuf x.2
 ·simp
def Zf9 (k : Int) (x : Int × DiskM) (l : List (Int × List UInt8)) : Int × DiskM := l.foldl (fun x v => Zdl x (k + v.1) v.2) x
theorem Ztx (k : Int) (x : Int × DiskM) {l : List (Int × List UInt8)} {i : Nat} {v : Int × List UInt8} (h : l[i]? = some v) : Zf9 k x (l.take (i + 1)) = Zdl (Zf9 k x (l.take i)) (k + v.1) v.2 := by
 obtain ⟨hi,rfl⟩ := List.getElem?_eq_some_iff.1 h
 rw [List.take_succ_eq_append_getElem hi];unfold Zf9
 rw [List.foldl_append]
 rfl
theorem Zls (k : Int) : ∀ (l : List (Int × List UInt8)) (x : Int × DiskM),(Zf9 k x l).2.line.length ≤ x.2.line.length + l.length ∧ (Zf9 k x l).2.laid.length = x.2.laid.length
 | [],x => by simp [Zf9]
 | v :: l,x => by
  have h1 := Zdo x (k + v.1) v.2
  have h2 := Zls k l (Zdl x (k + v.1) v.2)
  simp only [Zf9,List.foldl_cons,List.length_cons] at h2 ⊢
  exact ⟨by omega,by rw [h2.2,h1.2]⟩
def layM (rd fs : List Int) (j : Nat) (x : Int × DiskM) (number : Int) (l : List (Int × List UInt8)) : Int × DiskM := Zdc (Zdl (Zdc (Zf9 (1 + j) x l)) 0 (Zeq rd fs number))
theorem Z4f (lp sp p : Nat) (o s m : Int) (j : Nat) (done : Int) (rdn : Bool) (x : Int × DiskM) (number : Int) (a : Option Addr) (c : Nat) (l : List Wr) (rd fs : List Int) (W : World) (F : Nat → Prop) (hG : Gl W F rd fs) (hW : Wrs W F a l)
  (hj : j ≤ 4096) (hl : l.length ≤ 1048576) (hno : ∀ v ∈ l,-4611686018427387904 ≤ v.no ∧ v.no ≤ 4611686018427387904) (hline : x.2.line.length + l.length + 1 < 1073741824) (hS : St W F [Zcd lp p o s m j done rdn,Zix sp p x.1,disk p x.2] W) :
  Calls Tryz.prog 113 #[.pointer (some ⟨lp,0,none⟩),.pointer (some ⟨sp,0,none⟩),.int .i64 number,.slice a l.length c] W (Ret fun v w => v = .int .i64 (layM rd fs j x number (l.map Wr.data)).1 ∧
   St W F [Zcd lp p o s m j (if (layM rd fs j x number (l.map Wr.data)).1 = 0 then number else done) rdn,Zix sp p (layM rd fs j x number (l.map Wr.data)).1,disk p (layM rd fs j x number (l.map Wr.data)).2] w) := by
 obtain ⟨d,hd⟩ : ∃ d,d = l.map Wr.data := ⟨_,rfl⟩
 have hdl : d.length = l.length := by rw [hd]; simp
 rw [← hd];refine Zab Tryz.func113 rfl Tryz.ntmps113 rfl ?_
 repeat (first|refine Yeb ?_|refine Ye4 ?_|refine Yee ?_|refine Yab ?_)
 refine Zaj (α := Nat) (fun i => [(0,.pointer (some ⟨lp,0,none⟩)),(1,.pointer (some ⟨sp,0,none⟩)),(2,.int .i64 number),(11,.slice a l.length c),(12,.int .i64 (l.length : Nat)),(13,.int .i64 (i : Nat))])
  (fun i w => i ≤ l.length ∧ St W F [Zcd lp p o s m j done rdn,Zix sp p (Zf9 (1 + j) x (d.take i)).1,disk p (Zf9 (1 + j) x (d.take i)).2] w) (fun i => l.length - i) 0 ⟨rfl,rfl,rfl,rfl,rfl,rfl,trivial⟩ ⟨Nat.zero_le _,hS⟩ ?_
 clear hS;rintro i w ⟨hi,hS⟩
 have hlt1 := Zls (1 + j) (d.take i) x
 rw [List.length_take] at hlt1;by_cases hlt : i < l.length
 ·have hx0 : l[i]? = some l[i] := List.getElem?_eq_getElem hlt
  generalize l[i] = v at hx0;have hvm := List.mem_of_getElem? hx0
  have hdi : d[i]? = some (v.no,v.x.s) := by rw [hd]; simp [hx0,Wr.data]
  have hsn := Ztx (1 + j) x hdi
  have hv := hno v hvm
  have hv1 := hv.1
  have hv2 := hv.2
  have hr := hW.row
  have hxs : ((l.flatMap Wr.cells).drop (i * 2)).take 2 = [.int .i64 v.no,.slice v.x.a v.x.s.length v.x.c] := Zn6 hx0
  obtain ⟨ab,ao,rfl⟩ := (hW.row.rd hS).base (by intro e; rw [e] at hxs; simp at hxs)
  obtain ⟨X,hX⟩ : ∃ X,X = Zf9 (1 + j) x (d.take i) := ⟨_,rfl⟩
  rw [← hX] at hS hlt1 hsn;repeat (first|refine Yeb ?_|(refine X_id ?_;first|refine Ya1 ?_|refine Ybd ?_|refine Ybq ?_|refine Yao (fun _ hS _ => ?_)|refine Yar (fun _ _ hS _ => ?_))|refine Yef ?_|refine Yab ?_)
  refine Zao (.s 0 (.s 1 (.s 2 (.s 3 (.s 4 (.s 5 (.s 6 (.s 7 (.s 8 (.s 9 (.s 10 (.h 11 .nil .no)))))))))))) mixed (by kernel_rfl) rfl ?_
  have hS := hS.drew
  repeat (first|(refine Zaf ?_;first|refine Ya6 ?_|refine Ybs ?_|refine Ybk ?_|refine Ycl ?_|refine Ybn ?_|refine Yax ?_))
  obtain ⟨_,hc,hr,hw,hbk⟩ := hS.call [false,false,true,true]
  refine Zaa _ rfl rfl rfl rfl rfl (Zj0 sp p X _ _ _ _ v.x.s _ _ hc (hw _ (hW.all v hvm)) rfl (by omega)) ?_
  rintro _ w ⟨_,hS⟩
  replace hS := hbk hS
  clear hc hr hw hbk;repeat (first|refine Yeb ?_|refine Yeg ?_|refine Yad ?_|refine Yej ?_|(refine Zaf ?_;first|refine Ya2 ?_)|(refine Zad ?_;first|refine Yay ?_))
  refine Zae (i + 1) ⟨rfl,rfl,rfl,rfl,rfl,rfl,trivial⟩ ⟨by omega,?_⟩ (by omega)
  rw [hsn];have hS := hS.pick [3,0,0]
  exact hS
 ·obtain rfl : i = l.length := by omega
  rw [List.take_of_length_le (by omega)] at hS hlt1;obtain ⟨X,hX⟩ : ∃ X,X = Zf9 (1 + j) x d := ⟨_,rfl⟩
  rw [← hX] at hS hlt1;have h2 := Zlm X
  repeat (first|refine Yeb ?_|refine Yaf ?_|refine Yaz ?_|refine Yeo ?_|refine Yeh ?_)
  obtain ⟨_,hc,hr,hw,hbk⟩ := hS.call [false,true,true]
  refine Zaa _ rfl rfl rfl rfl rfl (Zmt sp p X _ _ hc (by omega)) ?_
  rintro _ w ⟨_,hS⟩
  replace hS := hbk hS
  clear hc hr hw hbk;repeat (first|refine Yeb ?_|refine Yaf ?_|refine Yec ?_|refine Yab ?_)
  refine Zaa _ rfl rfl rfl rfl rfl (Z1h number rd fs _ (hG.mono fun r hr => (hr.rd hS).ro)) ?_
  rintro _ w ⟨r,k,rfl,hS'⟩
  replace hS := hS.plus hS';clear hS';repeat (first|refine Yaa ?_)
  have h3 := Zdo (Zdc X) 0 (Zeq rd fs number)
  obtain ⟨_,hc,hr,hw,hbk⟩ := hS.call [false,true,true,false]
  refine Zaa _ rfl rfl rfl rfl rfl (Zj0 sp p (Zdc X) 0 _ 64 k (Zeq rd fs number) _ _ hc (hr _ (List.mem_cons_self ..)) (Zhu ..) (by omega)) ?_
  rintro _ w ⟨_,hS⟩
  replace hS := hbk hS
  clear hc hr hw hbk;repeat (first|refine Yeb ?_|refine Yaf ?_|refine Yec ?_|refine Yab ?_)
  obtain ⟨_,hc,hr,hw,hbk⟩ := hS.call [true,true,false,false]
  refine Zaa _ rfl rfl rfl rfl rfl (Zmt sp p (Zdl (Zdc X) 0 (Zeq rd fs number)) _ _ hc (by omega)) ?_
  rintro _ w ⟨_,hS⟩
  replace hS := hbk hS
  clear hc hr hw hbk;have hlay : layM rd fs j x number d = Zdc (Zdl (Zdc X) 0 (Zeq rd fs number)) := by unfold layM; rw [← hX]
  obtain ⟨Y,hY⟩ : ∃ Y,Y = layM rd fs j x number d := ⟨_,rfl⟩
  rw [← hlay,← hY] at hS;rw [← hY];clear hlay;obtain ⟨e,D⟩ := Y
  simp only at hS ⊢
  by_cases he : e = 0
  ·subst he
   repeat (first|refine Yeb ?_|(refine X_id ?_;first|refine Yaf ?_|refine Yag ?_|refine Yau ?_|refine Yan ?_|refine Ybg ?_|refine Yaq ?_|refine Yao (fun _ hS _ => ?_))|refine Yet ?_|refine Yed ?_)
   refine ⟨rfl,?_⟩
   rw [if_pos rfl];have hS := hS.pick [3,0,0]
   exact hS
  ·repeat (first|refine Yeb ?_|(refine X_id ?_;first|refine Yaf ?_|refine Yag ?_|refine Yau ?_|refine Yan ?_|refine Ybh ?_|refine Yaq ?_)|refine Ye1 ?_|refine Yed ?_)
   refine ⟨rfl,?_⟩
   rw [if_neg he];have hS := hS.pick [3,0,0]
   exact hS
structure Ent where
 no : Int
 b : List UInt8
 count : Int
 d : List UInt8
 ok : Bool
def Ent.none : Ent := ⟨0,[],0,List.replicate 32 0,false⟩
def Zuk (a b : List UInt8) (number at_ top : Int) : Ent :=
 ⟨Zcp ((a.drop 16).take 4),b,Zcp ((a.drop 12).take 4),(a.drop 20).take 32,decide (a = Zhj number at_ (Zcp ((a.drop 12).take 4)) (Zcp ((a.drop 16).take 4)) ((a.drop 20).take 32)) && decide (Zcp ((a.drop 16).take 4) < top)⟩
def entM (D : DiskM) (j : Nat) (number at_ : Int) : Ent :=
 if at_ < 0 ∨ (j : Int) / 2 ≤ at_ then Ent.none else
 if ¬ (D.read (1 + 2 * at_)).1 = 0 ∨ ¬ (D.read (1 + 2 * at_ + 1)).1 = 0 then Ent.none else
 Zuk (D.read (1 + 2 * at_)).2 (D.read (1 + 2 * at_ + 1)).2 number at_ ((D.laid.length : Int) - 1 - j)
theorem Zih {D : DiskM} (hok : D.ok) {no : Int} (h : (D.read no).1 = 0) : (D.read no).2.length = 64 := by
 unfold DiskM.read at h ⊢
 by_cases h1 : D.off = true
 ·simp [h1] at h
 ·rw [if_neg h1] at h ⊢
  by_cases h2 : Zc9 D no = false
  ·simp [h2] at h
  ·rw [if_neg h2]
   have h2' : 0 ≤ no ∧ no < D.laid.length := by simpa [Zc9] using h2
   simp only [DiskM.find]
   split
   ·rename_i x hx
    exact (hok.line64 x (by simpa using List.mem_of_find?_eq_some hx)).1
   ·rw [List.getD_eq_getElem?_getD,List.getElem?_eq_getElem (show no.toNat < D.laid.length by omega)]
    exact hok.laid64 _ (List.getElem_mem _)
def Ent.val (e : Ent) (a : Option Addr) (c : Nat) : Value := .tuple #[.agg #[.int .i64 e.no,.slice a e.b.length c],.int .i64 e.count,.agg (bv e.d).toArray,.bool e.ok]
theorem Zj4 (ab ao l n c : Nat) (s : List UInt8) (w : World) (hs : Rd w (bytes (some ⟨ab,ao,none⟩) s)) (h : l + n ≤ s.length) (hn : n ≤ 1048576) (hc : s.length ≤ c) (h0 : 0 < n) :
  Calls Tryz.prog 162 #[.slice (some ⟨ab,ao + l,none⟩) n (c - l)] w (Ret fun v w' => v = .int .i64 (Zcp ((s.drop l).take n)) ∧ w = w') := by
 have h1 := hs.subBytes (l := l) (h := l + n) (c := c) (by omega) (by omega)
 rw [show sub (some ⟨ab,ao,none⟩) l 1 c = some ⟨ab,ao + l,none⟩ by unfold sub; rw [if_neg (by omega)]; simp [Zbn],show l + n - l = n by omega] at h1
 have hl : ((s.drop l).take n).length = n := by simp; omega
 have := Z04 (some ⟨ab,ao + l,none⟩) (c - l) ((s.drop l).take n) w h1 (by omega)
 rw [hl] at this;exact this
theorem Z1j (lp p : Nat) (o s m : Int) (j : Nat) (done : Int) (rdn : Bool) (D : DiskM) (number at_ : Int) (W : World) (hL : Rd W (Zcd lp p o s m j done rdn)) (hD : Rd W (disk p D)) (hj : j ≤ 4096) (hline : D.line.length < 1073741824) (hat : at_ ≤ 1099511627776) :
  Calls Tryz.prog 164 #[.pointer (some ⟨lp,0,none⟩),.int .i64 number,.int .i64 at_] W (Ret fun v w => ∃ a c,v = (entM D j number at_).val a c ∧ (entM D j number at_).b.length ≤ c ∧ St W noF [bytes a (entM D j number at_).b] w) := by
 have hS := St.start W
 have hc := hL.pts
 have hLo := hL.ro
 have hDo := hD.ro
 have hok := hD.disk.1
 have hl0 : LenO (bv (List.replicate 32 0)) 32 := inferInstance
 by_cases h1 : at_ < 0
 ·have e : entM D j number at_ = Ent.none := by unfold entM; rw [if_pos (.inl h1)]
  refine Zab Tryz.func164 rfl Tryz.ntmps164 rfl ?_
  repeat (first|refine Yev ?_|(refine X_id ?_;first|refine Yaf ?_|refine Yag ?_|refine Ya9 ?_|refine Ya1 ?_|refine Yar (fun _ _ hS _ => ?_))|refine Yem ?_|refine Yab ?_)
  rw [Zfs] at hS;refine Zao (.s 0 (.s 1 (.h 2 (.s 3 (.h 4 (.s 5 .nil) .no)) .no))) mixed (by kernel_rfl) rfl ?_
  have hS := hS.drew
  repeat (first|refine Yao (fun _ hS _ => ?_)|refine Yb9 (fun _ hS => ?_)|refine Yah ?_|refine Yab ?_|refine Yap ?_|refine Yco ?_|(refine Zaf ?_;first|refine Ya2 ?_|refine Ybl ?_|refine Yb0 ?_|refine Yax ?_)|(refine Zad ?_;first|refine Yay ?_))
  rw [e];exact ⟨none,0,rfl,Nat.le_refl _,hS.drops.row_none⟩
 by_cases h2 : (j : Int) / 2 ≤ at_
 ·have e : entM D j number at_ = Ent.none := by unfold entM; rw [if_pos (.inr h2)]
  refine Zab Tryz.func164 rfl Tryz.ntmps164 rfl ?_
  repeat (first|refine Yes ?_|(refine X_id ?_;first|refine Yaf ?_|refine Yag ?_|refine Yau ?_|refine Yan ?_|refine Yaz ?_|refine Yar (fun _ _ hS _ => ?_))|refine Yec ?_|refine Yab ?_)
  have hc := (hLo.rd hS).pts
  repeat (first|refine Yes ?_|refine Ya7 ?_|refine Yb2 ?_|refine Yc6 ?_|refine Yb5 ?_|refine Yae ?_|refine Yaj ?_|refine Yab ?_)
  rw [Zfs] at hS;refine Zao (.s 0 (.s 1 (.h 2 (.s 3 (.h 4 (.s 5 .nil) .no)) .no))) mixed (by kernel_rfl) rfl ?_
  have hS := hS.drew
  repeat (first|refine Yao (fun _ hS _ => ?_)|refine Yb9 (fun _ hS => ?_)|refine Yah ?_|refine Yab ?_|refine Yap ?_|refine Yco ?_|(refine Zaf ?_;first|refine Ya2 ?_|refine Ybl ?_|refine Yb0 ?_|refine Yax ?_)|(refine Zad ?_;first|refine Yay ?_))
  rw [e];exact ⟨none,0,rfl,Nat.le_refl _,hS.drops.row_none⟩
 have e : entM D j number at_ = if ¬ (D.read (1 + 2 * at_)).1 = 0 ∨ ¬ (D.read (1 + 2 * at_ + 1)).1 = 0 then Ent.none else
   Zuk (D.read (1 + 2 * at_)).2 (D.read (1 + 2 * at_ + 1)).2 number at_ ((D.laid.length : Int) - 1 - j) := by unfold entM; rw [if_neg (by omega)]
 have hra := fun (h : (D.read (1 + 2 * at_)).1 = 0) => Zih hok h
 have hrb := fun (h : (D.read (1 + 2 * at_ + 1)).1 = 0) => Zih hok h
 refine Zab Tryz.func164 rfl Tryz.ntmps164 rfl ?_
 repeat (first|refine Yes ?_|(refine X_id ?_;first|refine Yaf ?_|refine Yag ?_|refine Yau ?_|refine Yan ?_|refine Yaz ?_|refine Yar (fun _ _ hS _ => ?_))|refine Yec ?_|refine Yab ?_)
 have hc := (hLo.rd hS).pts
 repeat (first|refine Yes ?_|(refine X_id ?_;first|refine Yaf ?_|refine Yau ?_|refine Yan ?_|refine Ya7 ?_|refine Yb6 ?_|refine Yaw ?_|refine Yb1 ?_|refine Yc6 ?_|refine Yb5 ?_)|refine Yen ?_|refine Yab ?_)
 rename_i b6 _ _ _ b8 _ _;rw [Zfs] at hS;refine Zaa _ rfl rfl rfl rfl rfl (Zvz p D (1 + 2 * at_) _ (hDo.rd hS) hline) ?_
 rintro _ w ⟨a,ca,rfl,hca,hS'⟩
 replace hS := hS.plus hS';clear hS';have hc := (hLo.rd hS).pts
 repeat (first|refine Yeb ?_|(refine X_id ?_;first|refine Yaf ?_|refine Yag ?_|refine Yau ?_|refine Yan ?_|refine Ya0 ?_|refine Yaw ?_|refine Yb1 ?_|refine Yb5 ?_)|refine Yec ?_|refine Yab ?_)
 refine Zaa _ rfl rfl rfl rfl rfl (Zvz p D (1 + 2 * at_ + 1) _ (hDo.rd hS) hline) ?_
 rintro _ w ⟨b,cb,rfl,hcb,hS'⟩
 replace hS := hS.plus hS';clear hS';generalize D.read (1 + 2 * at_) = ra at hra hca hS e ⊢;generalize D.read (1 + 2 * at_ + 1) = rb at hrb hcb hS e ⊢;obtain ⟨ea,la⟩ := ra
 obtain ⟨eb,lb⟩ := rb
 simp only at hra hrb hca hcb hS e ⊢
 by_cases hea : ea = 0
 ·by_cases heb : eb = 0
  ·subst hea heb
   have hla := hra rfl
   have hlb := hrb rfl
   rw [if_neg (by simp)] at e;rw [e];clear hra hrb;obtain ⟨ab,ao,rfl⟩ := (hS.rd (List.mem_cons_of_mem _ (List.mem_cons_self ..))).base (by intro e; have := Zak la; rw [e] at this; simp at this; omega)
   repeat (first|refine Yes ?_|(refine X_id ?_;first|refine Yaf ?_|refine Yag ?_|refine Ya0 ?_|refine Ya7 ?_|refine Ybc ?_)|refine Yen ?_|refine Yab ?_)
   refine Zao (.s 0 (.s 1 (.s 3 (.s 4 (.s 6 (.h 2 (.h 5 (.s 7 (.s 8 (.h 9 .nil .no))) .no) .no)))))) mixed (by kernel_rfl) rfl ?_
   have hS := hS.drew
   repeat (first|(refine Zaf ?_;first|refine Ya6 ?_))
   refine Zai rfl rfl (fun _ => Zaq (l := 12) (h := 16) rfl rfl rfl rfl (.inr ⟨_,_,rfl,by omega,by omega,by omega⟩) (.inr ⟨_,_,rfl,by omega,by omega,by omega⟩)) rfl rfl ?_
   rw [show sub (some ⟨ab,ao,none⟩) 12 1 ca = some ⟨ab,ao + 12,none⟩ by unfold sub; rw [if_neg (by omega)]; simp [Zbn]]
   repeat (first|(refine Zaf ?_;first|refine Ya6 ?_))
   refine Zai rfl rfl (fun _ => Zaq (l := 16) (h := 20) rfl rfl rfl rfl (.inr ⟨_,_,rfl,by omega,by omega,by omega⟩) (.inr ⟨_,_,rfl,by omega,by omega,by omega⟩)) rfl rfl ?_
   rw [show sub (some ⟨ab,ao,none⟩) 16 1 ca = some ⟨ab,ao + 16,none⟩ by unfold sub; rw [if_neg (by omega)]; simp [Zbn]]
   repeat (first|(refine Zaf ?_;first|refine Ya6 ?_|refine Yax ?_))
   refine Zaa _ rfl rfl rfl rfl rfl (Zj4 ab ao 12 4 ca la _ (hS.rd (List.mem_cons_of_mem _ (List.mem_cons_self ..))) (by omega) (by omega) (by omega) (by omega)) ?_
   rintro _ _ ⟨rfl,rfl⟩
   repeat (first|(refine Zaf ?_;first|refine Yax ?_)|(refine Zad ?_;first|refine Yay ?_))
   refine Zaa _ rfl rfl rfl rfl rfl (Zj4 ab ao 16 4 ca la _ (hS.rd (List.mem_cons_of_mem _ (List.mem_cons_self ..))) (by omega) (by omega) (by omega) (by omega)) ?_
   rintro _ _ ⟨rfl,rfl⟩
   repeat (first|refine Yao (fun _ hS _ => ?_)|refine Yae ?_|refine Yab ?_|(refine Zaf ?_;first|refine Ya2 ?_|refine Ybl ?_|refine Ycd ?_|refine Yax ?_)|(refine Zad ?_;first|refine Yay ?_))
   refine Zao (.s 0 (.s 1 (.s 2 (.h 3 .nil .no)))) mixed (by kernel_rfl) rfl ?_
   have hS := hS.drew
   repeat (first|(refine Zaf ?_;first|refine Ya6 ?_|refine Yc7 ?_))
   refine Zai rfl rfl (fun _ => Zaq (l := 20) (h := la.length) rfl rfl rfl rfl (.inl ⟨rfl,rfl⟩) (.inr ⟨_,_,rfl,by omega,by omega,by omega⟩)) rfl rfl ?_
   rw [show sub (some ⟨ab,ao,none⟩) 20 1 ca = some ⟨ab,ao + 20,none⟩ by unfold sub; rw [if_neg (by omega)]; simp [Zbn]]
   repeat (first|(refine Zaf ?_;first|refine Yax ?_))
   have hla2 : Rd _ (bytes (some ⟨ab,ao,none⟩) la) := hS.rd (List.mem_cons_of_mem _ (List.mem_cons_self ..))
   have hla3 := hla2.subBytes (l := 20) (h := la.length) (c := ca) (by omega) (by omega)
   rw [show sub (some ⟨ab,ao,none⟩) 20 1 ca = some ⟨ab,ao + 20,none⟩ by unfold sub; rw [if_neg (by omega)]; simp [Zbn]] at hla3
   refine Zpz rfl rfl rfl rfl rfl hS hla3 (by simp) Zdb (by simp) (fun w hS => ?_)
   clear hla2 hla3;obtain ⟨d,hde⟩ : ∃ d,d = (la.drop 20).take 32 := ⟨_,rfl⟩
   have hd32 : d.length = 32 := by rw [hde]; simp; omega
   rw [show Zal (bv (List.replicate 32 0)) 0 ((bv ((la.drop 20).take (la.length - 20))).take 32) = bv d by
    rw [← Zky,List.take_take,show min 32 (la.length - 20) = 32 by omega,← hde]
    exact Zlo (by simp [hd32])] at hS
   have hl32 : LenO (bv d) 32 := ⟨by simp [hd32]⟩
   repeat (first|refine Yae ?_|refine Yab ?_|(refine Zaf ?_;first|refine Ya2 ?_)|(refine Zad ?_;first|refine Yay ?_))
   obtain ⟨no,hno⟩ : ∃ no,no = Zcp ((la.drop 16).take 4) := ⟨_,rfl⟩
   obtain ⟨cnt,hcnt⟩ : ∃ cnt,cnt = Zcp ((la.drop 12).take 4) := ⟨_,rfl⟩
   unfold Zuk
   rw [← hno,← hcnt,← hde];rw [← hno] at hS;refine Zao (.s 0 (.s 1 (.s 2 (.s 3 (.s 4 (.s 5 (.s 6 (.s 7 (.s 8 (.s 9 (.h 10 (.h 11 (.s 12 (.s 13 (.s 14 (.s 15 (.h 16 (.s 17 (.s 18 (.h 19 (.s 20 (.h 21 (.s 22 .nil) .no)) .no))) .no))))) .no) .no))))))))))) mixed (by kernel_rfl) rfl ?_
   have hS := hS.drew
   repeat (first|(refine Zaf ?_;first|refine Ya6 ?_|refine Ybk ?_|refine Ybn ?_|refine Yb0 ?_|refine Yax ?_))
   refine Zaa _ rfl rfl rfl rfl rfl (Z6c number at_ cnt no d hd32 _) ?_
   rintro _ w ⟨q,k,rfl,hS'⟩
   replace hS := hS.plus hS';clear hS';repeat (first|(refine Zaf ?_;first|refine Yax ?_)|(refine Zad ?_;first|refine Yay ?_))
   refine Zaa _ rfl rfl rfl rfl rfl (Zsv _ _ _ _ _ _ la (Zhj number at_ cnt no d) _ (hS.rd (List.mem_cons_of_mem _ (List.mem_cons_of_mem _ (List.mem_cons_self ..)))) (hS.rd (List.mem_cons_self ..)) rfl (Zfm ..)) ?_
   rintro _ _ ⟨rfl,rfl⟩
   by_cases hq : la = Zhj number at_ cnt no d
   ·rw [decide_eq_true hq]
    repeat (first|(refine X_id ?_;first|(refine Zac 115 rfl rfl rfl rfl rfl hS (Zek lp p o s m j done rdn D _ (hLo.rd hS) (hDo.rd hS) hj) ?_;rintro _ _ rfl hS)|refine Yao (fun _ hS _ => ?_)|refine Yb9 (fun _ hS => ?_))|refine Yah ?_|refine Yab ?_|refine Yco ?_|(refine Zaf ?_;first|refine Ya2 ?_|refine Ya6 ?_|refine Ybl ?_|refine Ycn ?_|refine Yax ?_|refine Yci ?_|refine Ycz ?_|refine Zco rfl rfl rfl rfl (fun _ => Zps rfl rfl rfl) rfl rfl ?_|refine Zfa rfl rfl rfl rfl ?_|refine Yc3 ?_)|(refine Zad ?_;first|refine Yay ?_))
    exact ⟨b,cb,rfl,hcb,hS.pick [1]⟩
   ·rw [decide_eq_false hq]
    repeat (first|refine Yao (fun _ hS _ => ?_)|refine Yb9 (fun _ hS => ?_)|refine Yah ?_|refine Yab ?_|refine Yco ?_|(refine Zaf ?_;first|refine Ya2 ?_|refine Ya6 ?_|refine Ybl ?_|refine Ych ?_|refine Yax ?_|refine Ydd ?_|refine Ycm ?_)|(refine Zad ?_;first|refine Yay ?_))
    exact ⟨b,cb,rfl,hcb,hS.pick [1]⟩
  ·rw [if_pos (.inr heb)] at e
   repeat (first|refine Yes ?_|(refine X_id ?_;first|refine Yaf ?_|refine Yag ?_|refine Ya0 ?_|refine Ya7 ?_|refine Ybj ?_|refine Ybc ?_)|refine Yem ?_|refine Yab ?_)
   refine Zao (.s 0 (.s 1 (.h 2 (.s 3 (.h 4 (.s 5 .nil) .no)) .no))) mixed (by kernel_rfl) rfl ?_
   have hS := hS.drew
   repeat (first|refine Yao (fun _ hS _ => ?_)|refine Yb9 (fun _ hS => ?_)|refine Yah ?_|refine Yab ?_|refine Yap ?_|refine Yco ?_|(refine Zaf ?_;first|refine Ya2 ?_|refine Ybl ?_|refine Yb0 ?_|refine Yax ?_)|(refine Zad ?_;first|refine Yay ?_))
   rw [e];exact ⟨none,0,rfl,Nat.le_refl _,hS.drops.row_none⟩
 ·rw [if_pos (.inl hea)] at e
  repeat (first|refine Yev ?_|(refine X_id ?_;first|refine Yaf ?_|refine Yag ?_|refine Ya0 ?_|refine Ya9 ?_|refine Ybj ?_)|refine Yem ?_|refine Yab ?_)
  refine Zao (.s 0 (.s 1 (.h 2 (.s 3 (.h 4 (.s 5 .nil) .no)) .no))) mixed (by kernel_rfl) rfl ?_
  have hS := hS.drew
  repeat (first|refine Yao (fun _ hS _ => ?_)|refine Yb9 (fun _ hS => ?_)|refine Yah ?_|refine Yab ?_|refine Yap ?_|refine Yco ?_|(refine Zaf ?_;first|refine Ya2 ?_|refine Ybl ?_|refine Yb0 ?_|refine Yax ?_)|(refine Zad ?_;first|refine Yay ?_))
  rw [e];exact ⟨none,0,rfl,Nat.le_refl _,hS.drops.row_none⟩
/-! ### clear -/
def Zh7 : List UInt8 := List.replicate 64 0
def Zpd (D : DiskM) (number : Int) : Int × DiskM :=
 if ¬ (D.read 1).1 = 0 then ((D.read 1).1,D) else if ¬ Zcp ((D.read 1).2.take 8) = number then (0,D) else Zdc (Zdl (0,D) 1 Zh7)
theorem Z65 (lp p : Nat) (o s m : Int) (j : Nat) (done : Int) (rdn : Bool) (D : DiskM) (number : Int) (W : World) (F : Nat → Prop) (hline : D.line.length < 1073741820) (hS : St W F [Zcd lp p o s m j done rdn,disk p D] W) :
  Calls Tryz.prog 114 #[.pointer (some ⟨lp,0,none⟩),.int .i64 number] W (Ret fun v w => v = .int .i64 (Zpd D number).1 ∧ St W F [Zcd lp p o s m j done rdn,disk p (Zpd D number).2] w) := by
 have hok := (hS.rd (List.mem_cons_of_mem _ (List.mem_cons_self ..)) : Rd W (disk p D)).disk.1
 have h64 := fun (h : (D.read 1).1 = 0) => Zih hok h
 have e : Zpd D number = if ¬ (D.read 1).1 = 0 then ((D.read 1).1,D) else if ¬ Zcp ((D.read 1).2.take 8) = number then (0,D) else Zdc (Zdl (0,D) 1 Zh7) := rfl
 refine Zab Tryz.func114 rfl Tryz.ntmps114 rfl ?_
 repeat (first|refine Yeb ?_|(refine X_id ?_;first|refine Yaf ?_|refine Yag ?_|refine Yau ?_|refine Yan ?_|refine Yaq ?_)|refine Yec ?_|refine Yab ?_)
 refine Zaa _ rfl rfl rfl rfl rfl (Zvz p D 1 _ (hS.rd (List.mem_cons_of_mem _ (List.mem_cons_self ..))) (by omega)) ?_
 rintro _ w ⟨a,ca,rfl,hca,hS'⟩
 replace hS := hS.plus hS';clear hS';generalize D.read 1 = ra at h64 hca hS e ⊢;obtain ⟨ea,la⟩ := ra
 simp only at h64 hca hS e ⊢
 by_cases hea : ea = 0
 ·subst hea
  have hla := h64 rfl
  rw [if_neg (by simp)] at e;obtain ⟨ab,ao,rfl⟩ := (hS.rd (List.mem_cons_self ..)).base (by intro e; have := Zak la; rw [e] at this; simp at this; omega)
  have hsm : ∀ w',Rd w' (bytes (some ⟨ab,ao,none⟩) la) → Calls Tryz.prog 162 #[.slice (some ⟨ab,ao,none⟩) 8 ca] w' (Ret fun v w'' => v = .int .i64 (Zcp (la.take 8)) ∧ w' = w'') := fun w' h => by
   have := Zj4 ab ao 0 8 ca la w' h (by omega) (by omega) (by omega) (by omega)
   simpa using this
  repeat (first|refine Yes ?_|refine Ye9 ?_|refine Yec ?_|refine Yab ?_)
  refine X_yl (Zaq (l := 0) (h := 8) rfl rfl rfl rfl (.inr ⟨_,_,rfl,by omega,by omega,by omega⟩) (.inl ⟨rfl,rfl⟩)) rfl rfl ?_
  rw [sub_zero,Nat.sub_zero,Nat.sub_zero];generalize Zcp (la.take 8) = n at hsm e;by_cases hn : n = number
  ·subst hn
   rw [if_neg (by simp)] at e;repeat (first|refine Yes ?_|(refine X_id ?_;first|(refine Zaa 162 rfl rfl rfl rfl rfl (hsm _ (hS.rd (List.mem_cons_self ..))) ?_;rintro _ _ ⟨rfl,rfl⟩)|refine Yaf ?_|refine Yag ?_|refine Yau ?_|refine Yan ?_|refine Ya7 ?_|refine Ybc ?_|refine Ybm ?_|refine Yaq ?_|refine Yba (fun _ _ hS _ => ?_))|refine Yen ?_|refine Yab ?_)
   rename_i sp _ _;refine Zny (c := 64) rfl rfl rfl (by omega) (by omega) rfl rfl hS (fun zb _ hS => ?_)
   repeat (first|refine Yaa ?_)
   obtain ⟨_,hc,hr,hw,hbk⟩ := hS.call [false,true,false,false,true]
   refine Zaa _ rfl rfl rfl rfl rfl (Zj0 sp p (0,D) 1 _ 64 64 Zh7 _ _ hc ((hr _ (List.mem_cons_self ..)).mono fun h hh => ⟨h,Zgp h hh,fun _ _ e => e⟩) rfl (by simp only; omega)) ?_
   rintro _ w ⟨_,hS⟩
   replace hS := hbk hS
   clear hc hr hw hbk;have hl := Zdo (0,D) 1 Zh7
   simp only at hl
   repeat (first|refine Yeb ?_|refine Yaf ?_|refine Yec ?_|refine Yab ?_)
   obtain ⟨_,hc,hr,hw,hbk⟩ := hS.call [true,true,false,false,false]
   refine Zaa _ rfl rfl rfl rfl rfl (Zmt sp p (Zdl (0,D) 1 Zh7) _ _ hc (by omega)) ?_
   rintro _ w ⟨_,hS⟩
   replace hS := hbk hS
   clear hc hr hw hbk;rw [e];generalize Zdc (Zdl (0,D) 1 Zh7) = Y at hS ⊢;repeat (first|refine Yeb ?_|(refine X_id ?_;first|refine Yaf ?_|refine Yag ?_|refine Yau ?_|refine Yan ?_|refine Yaq ?_)|refine Yep ?_|refine Yed ?_)
   refine ⟨rfl,?_⟩
   have hS := hS.pick [4,1]
   exact hS
  ·rw [if_pos hn] at e
   repeat (first|refine Yes ?_|(refine X_id ?_;first|(refine Zaa 162 rfl rfl rfl rfl rfl (hsm _ (hS.rd (List.mem_cons_self ..))) ?_;rintro _ _ ⟨rfl,rfl⟩)|refine Yaf ?_|refine Yag ?_|refine Ya7 ?_|refine Ybj ?_)|refine Yet ?_|refine Yeu ?_)
   rw [e];exact ⟨rfl,hS.pick [1,1]⟩
 ·rw [if_pos hea] at e
  repeat (first|refine Yev ?_|(refine X_id ?_;first|refine Yaf ?_|refine Yag ?_|refine Ya0 ?_|refine Ya9 ?_|refine Ybj ?_)|refine Yet ?_|refine Yeu ?_)
  rw [e];exact ⟨rfl,hS.pick [1,1]⟩
end Cr
namespace Cr
open Go
set_option maxRecDepth 10000
set_option maxHeartbeats 64000000
section
variable {P : Program} {w : World} {t e : TypeId}
theorem Zfk (d n : Nat) [h : Und P t (.array n e)] [he : Und P e (.int .u8)] [hs : Siz P e 1] [h1 : One P e] (a b : List UInt8) (ha : a.length = n) (hb : b.length = n) :
  (Op.equalIn (d + 2) t (.agg (bv a).toArray) (.agg (bv b).toArray)).run P w = .ok (decide (a = b)) w := by
 unfold Op.equalIn
 simp only [Sem.run_bind,run_underlying h.und,Result.andThen_ok,Zbh (n := 1),Nat.mul_one]
 simp only [Std.Legacy.Range.forIn_eq_forIn_range']
 have hp : ∀ (l : List UInt8) (i : Nat) (hi : i < l.length),(part e (bv l).toArray i).run P w = .ok (.int .u8 (l[i].toNat : Int)) w := fun l i hi => by
  have := Zxq hi
  simp [part,h1.one,List.getElem?_toArray,this]
 have key : ∀ m s,s + m = n → (forIn (List.range' s m) (none,()) (fun i (__s : Option Bool × Unit) => do
   let __do_lift ← part e (bv a).toArray i
   let __do_lift_1 ← part e (bv b).toArray i
   let __do_lift ← Op.equalIn (d + 1) e __do_lift __do_lift_1
   if (!__do_lift) = true then pure (ForInStep.done (some false,())) else pure (ForInStep.yield (none,()))) : Sem (Option Bool × Unit)).run P w = .ok (if a.drop s = b.drop s then none else some false,()) w := by
  intro m
  induction m with
  | zero =>
   intro s hs
   rw [List.drop_of_length_le (by omega),List.drop_of_length_le (by omega)];simp
  | succ m ih =>
   intro s hs
   have hsa : s < a.length := by omega
   have hsb : s < b.length := by omega
   rw [List.range'_succ,List.forIn_cons];simp only [Sem.run_bind,hp a s hsa,hp b s hsb,Result.andThen_ok,run_equalIn_int w d e .u8 .u8 _ _ he.und]
   rw [List.drop_eq_getElem_cons hsa,List.drop_eq_getElem_cons hsb];by_cases hc : a[s] = b[s]
   ·have e1 : ((a[s].toNat : Int) == (b[s].toNat : Int)) = true := by rw [hc]; simp
    rw [e1];simp only [Bool.not_true,Bool.false_eq_true,if_false,Sem.run_pure,Result.andThen_ok]
    rw [ih (s + 1) (by omega),hc];simp only [List.cons.injEq,true_and]
   ·have e1 : ((a[s].toNat : Int) == (b[s].toNat : Int)) = false := by
     simp only [beq_eq_false_iff_ne,ne_eq]
     intro h
     exact hc (UInt8.toNat_inj.1 (by omega))
    rw [e1];simp only [Bool.not_false,if_true,Sem.run_pure,Result.andThen_ok]
    rw [if_neg (fun h => hc (List.cons.inj h).1)]
 have hz : [:n].size = n := by simp [Std.Legacy.Range.size]
 rw [hz,key n 0 (by omega)];by_cases hab : a = b <;> simp [hab]
end
section
variable {P : Program} {o : Oper} {σ : Env} {w : World} {x y : Operand} {t ty e : TypeId}
class NoGuard (P : Program) (t : TypeId) : Prop where
 no : P.eqGuardType P.depth t = false
theorem Zk7 {n : Nat} {a b : List UInt8} (ho : o.op = .binOp .neq t x y ty) (hx : ev σ x = some (.agg (bv a).toArray)) (hy : ev σ y = some (.agg (bv b).toArray)) [h : Und P t (.array n e)] [he : Und P e (.int .u8)] [hs : Siz P e 1] [h1 : One P e] [hg : NoGuard P t] (ha : a.length = n) (hb : b.length = n) :
  Yl P o σ w (.bool (decide (¬ a = b))) := ⟨fun N ds f hf => by
 have h2 := run_eqGuard_agg (P := P) (w := w) .neq t x y (bv a).toArray (bv b).toArray hg.no
 have h3 := run_neq_struct (P := P) (w := w) t (bv a).toArray (bv b).toArray
 have h4 := Zfk (P := P) (w := w) (t := t) (e := e) 9998 n a b ha hb
 have e1 : (!(decide (a = b))) = decide (¬ a = b) := by by_cases q : a = b <;> simp [q]
 simp only [execOp,ho,hf.eval hx,hf.eval hy,Sem.run_bind,h2,h3,h4,Result.andThen_ok,e1]
 rfl⟩
theorem Zx4 {n : Nat} {a b : List UInt8} (ho : o.op = .binOp .eql t x y ty) (hx : ev σ x = some (.agg (bv a).toArray)) (hy : ev σ y = some (.agg (bv b).toArray)) [h : Und P t (.array n e)] [he : Und P e (.int .u8)] [hs : Siz P e 1] [h1 : One P e] [hg : NoGuard P t] (ha : a.length = n) (hb : b.length = n) :
  Yl P o σ w (.bool (decide (a = b))) := ⟨fun N ds f hf => by
 have h2 := run_eqGuard_agg (P := P) (w := w) .eql t x y (bv a).toArray (bv b).toArray hg.no
 have h3 := run_eql_struct (P := P) (w := w) t (bv a).toArray (bv b).toArray
 have h4 := Zfk (P := P) (w := w) (t := t) (e := e) 9998 n a b ha hb
 simp only [execOp,ho,hf.eval hx,hf.eval hy,Sem.run_bind,h2,h3,h4,Result.andThen_ok]
 rfl⟩
end
end Cr
