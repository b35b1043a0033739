/-
  bytes.Join (without a separator) and bytes.Equal.
  Layer 4 (wal): big,small,full,front,note.
  Layer 1 (block): Read.
  Layer 4 (wal): full,front,note.
  The document's digest of bytes: what Sum computes.
  The document's digest of bytes is the program's.
  A bag of rows: read only,and they may lie one in another. Over any program.
  The document's answers of layer 2: Frame.
  Layer 2 (digest): Of.
  A conversion of bytes to the same type (the model marks the block): the row can be read on. Over any program.
  Arrays of bytes compared. Over any program.
  Layer 11 (chain): Start.
  Layer 11 (chain): Mark.
  The document's answers of layer 4: Big,at any number.
  The document's answers of layer 11: Start,Mark.
  Numbers as bytes,there and back. No program is in sight.
  A segment of a row that can be read. Over any program.
  Layer 4 (wal): number,sum.
  Layer 4 (wal): sum.
-/
import Derived.Test.YtfoigjehifalpaaGreatDoorCqa3
import Derived.Test.YtfoigjehifalpaaGreatDoorCqa5
import Derived.Lib.MakeNoZero
import Derived.Laws.Externs
import Derived.Test.YtfoigjehifalpaaGreatDoorCqa4
import Derived.Test.YtfoigjehifalpaaGreatDoorCqa2
import Derived.Laws.StructEq
import Derived.KernelRfl
namespace Cr
open Go Go.Proofs
set_option maxRecDepth 100000
set_option maxHeartbeats 64000000
attribute [local irreducible] Calls

theorem Zub (a b : Option Addr) (n m c c' : Nat) (s t : List UInt8) (W : World) (ha : Rd W (bytes a s)) (hb : Rd W (bytes b t)) (hn : s.length = n) (hm : t.length = m) :
  Calls Tryz.prog 58 #[.slice a n c,.slice b m c'] W (Ret fun v w => v = .bool (decide (s = t)) ∧ W = w) := by
 refine Zab Tryz.func58 rfl Tryz.ntmps58 rfl ?_
 repeat (first|refine Yeg ?_|refine Yev ?_|refine Yeh ?_|refine Yab ?_)
 refine X_yl (Zct rfl rfl ha hn) rfl rfl ?_
 repeat (first|refine Yaa ?_|refine Yaf ?_)
 refine X_yl (Zct rfl rfl hb hm) rfl rfl ?_
 repeat (first|refine Yaa ?_)
 refine X_yl (Zfm rfl rfl rfl) rfl rfl ?_
 repeat (first|refine Yeg ?_|refine Yag ?_|refine Yah ?_|refine Yei ?_)
 exact ⟨rfl,rfl⟩

theorem Z1a (n : Nat) (w : World) (hn : n ≤ 281474976710656) : ∃ cs : Array Value,(callFunc 221 #[.int .i64 n]).run Tryz.prog w = .ok (.value (.slice (some ⟨w.heap.size,0,none⟩) n cs.size)) (w.drew.drew.alloc (.cells cs 5)) ∧ n ≤ cs.size := by
 obtain ⟨cs,hrun,hle,_⟩ := Lib.run_makeNoZero (P := Tryz.prog) (w := w) #[3] 35 5 (Und.und (P := Tryz.prog) (t := 35) (d := .slice 5)) n hn
 refine ⟨cs,?_,hle⟩
 rw [run_callFunc_extern Tryz.func221 (by kernel_rfl) (by kernel_rfl) (by kernel_rfl) (e := Extern.BytealgMakeNoZero.makeNoZero #[3] #[35]) (by kernel_rfl),hrun]
 rfl
theorem St.alloc2 {W : World} {F : Nat → Prop} {rs : List Res} {w : World} (hS : St W F rs w) (o : Obj) : St W F (pts w.heap.size o :: rs) (w.drew.drew.alloc o) := hS.drew.drew.alloc o

theorem Qa9 (ab ao c : Nat) (l : List Bs) (W : World) (hB : Bss W noF (some ⟨ab,ao,none⟩) l) (h2 : 2 ≤ l.length) (hc : l.length ≤ c) (hl : l.length ≤ 1099511627776) (hn : (Zal l).length ≤ 1099511627776) :
  Calls Tryz.prog 229 #[.slice (some ⟨ab,ao,none⟩) l.length c,.slice none 0 0] W (Ret fun v w => ∃ p,v = .slice (some ⟨p,0,none⟩) (Zal l).length (Zal l).length ∧ St W noF [bytes (some ⟨p,0,none⟩) (Zal l)] w) := by
 have hS := St.start W
 refine Zab Tryz.func229 rfl Tryz.ntmps229 rfl ?_
 repeat (first|refine Yeg ?_|(refine X_id ?_;first|refine Yaf ?_|refine Yag ?_|refine Yau ?_|refine Ybi ?_|refine Ybs ?_)|refine Ye9 ?_|refine Yab ?_)
 refine Zaj (α := Nat) (fun i => [(0,.slice (some ⟨ab,ao,none⟩) l.length c),(1,.slice none 0 0),(5,.int .i64 ((Zal (l.take i)).length : Nat)),(42,.slice (some ⟨ab,ao,none⟩) l.length c),(43,.int .i64 (l.length : Nat)),(44,.int .i64 (i : Nat))])
  (fun i w => i ≤ l.length ∧ St W noF [] w) (fun i => l.length - i) 0 ⟨rfl,rfl,rfl,rfl,rfl,rfl,trivial⟩ ⟨Nat.zero_le _,hS⟩ ?_
 clear hS
 rintro i w ⟨hi,hS⟩
 have hr := hB.row
 by_cases hlt : i < l.length
 ·have hx0 : l[i]? = some l[i] := List.getElem?_eq_getElem hlt
  generalize l[i] = x at hx0
  have hx : (l.map Bs.val)[i]? = some (.slice x.a x.s.length x.c) := by simp [hx0,Bs.val]
  have hj := Zda hx0
  have hle := Zbp l (i + 1)
  have hjl : (Zal (l.take (i + 1))).length = (Zal (l.take i)).length + x.s.length := by rw [hj]; simp
  rw [hjl] at hle
  clear hj
  repeat (first|refine Yeg ?_|(refine X_id ?_;first|refine Yaf ?_|refine Yag ?_|refine Yau ?_|refine Ya1 ?_|refine Ybs ?_|refine Yba ?_|refine Yay ?_|refine Ybw ?_|refine Yb1 ?_)|refine Yen ?_|refine Yeo ?_)
  refine Zaf (i + 1) ⟨rfl,rfl,by rw [hjl]; rfl,rfl,rfl,rfl,trivial⟩ ⟨by omega,hS⟩ (by omega)
 ·obtain rfl : i = l.length := by omega
  rw [List.take_length]
  repeat (first|refine Yeg ?_|refine Yaf ?_|refine Yaz ?_|refine Yet ?_|refine Yem ?_)
  obtain ⟨cs,hrun,hcs⟩ := Z1a (Zal l).length w (by omega)
  refine Zo2 rfl rfl rfl hrun rfl rfl ?_
  replace hS := hS.alloc2 (.cells cs 5)
  generalize w.drew.drew.alloc (.cells cs 5) = w2 at hS ⊢
  generalize w.heap.size = p at hS ⊢
  clear hrun
  obtain ⟨T,hT⟩ : ∃ T,T = (Zal l).length := ⟨_,rfl⟩
  have hjt := Zbp l
  rw [← hT] at hcs hn hjt ⊢
  repeat (first|refine Yaa ?_|refine Yaf ?_)
  refine X_yl (Zl1 (l := 0) (h := T) (k := T) rfl rfl rfl rfl rfl ⟨_,_,rfl,by omega,by omega,hcs⟩ ⟨_,_,rfl,by omega,by omega,Nat.le_refl _⟩ (.inl ⟨rfl,rfl⟩)) rfl rfl ?_
  rw [sub_zero,Nat.sub_zero]
  obtain ⟨x,hx0⟩ : ∃ x,l[0]? = some x := ⟨_,List.getElem?_eq_getElem (by omega)⟩
  have hx : (l.map Bs.val)[0]? = some (.slice x.a x.s.length x.c) := by simp [hx0,Bs.val]
  have hbx := hB.all x (List.mem_of_getElem? hx0)
  have hj0 := Zda hx0
  simp only [List.take_zero,Nat.zero_add] at hj0
  replace hj0 : Zal (l.take 1) = x.s := by rw [hj0]; rfl
  have hx1 := hjt 1
  rw [hj0] at hx1
  obtain ⟨c0,rfl⟩ : ∃ c0 : List Value,cs = c0.toArray := ⟨cs.toList,by simp⟩
  have hc0 : T ≤ c0.length := by simpa using hcs
  repeat (first|refine Yeg ?_|refine Yaf ?_|refine Yag ?_|refine Yba ?_|refine Yb1 ?_|refine Yeh ?_|refine Yab ?_)
  refine Zrh rfl rfl rfl rfl rfl hS (hbx.rd hS) (by simp) Zc6 (by omega) (fun w hS => ?_)
  rw [List.take_of_length_le (by simp; omega)] at hS
  replace hS : St W noF [pts p (.cells (bv (Zal (l.take 1)) ++ c0.drop x.s.length).toArray 5)] w := by
   rw [hj0]; simpa [Zai] using hS
  have hmin : min x.s.length T = (Zal (l.take 1)).length := by rw [hj0]; omega
  rw [hmin]
  have hjx : (Zal (l.take 1)).length = x.s.length := by rw [hj0]
  clear hmin hx hx0 hbx hj0
  repeat (first|refine Yeg ?_|refine Yev ?_|refine Yeh ?_|refine Yab ?_)
  refine X_yl (Zas (l := 1) (h := l.length) rfl rfl rfl rfl (.inl ⟨rfl,rfl⟩) (.inr ⟨_,_,rfl,by omega,by omega,by omega⟩)) rfl rfl ?_
  rw [show sub (some ⟨ab,ao,none⟩) 1 1 c = some ⟨ab,ao + 1,none⟩ by unfold sub; rw [if_neg (by omega)]; simp [Zbs]]
  have hr' : Ro W noF (row (some ⟨ab,ao + 1,none⟩) ((l.map Bs.val).drop 1)) := hr.mono fun h hh => by
   have := row.part (a := some ⟨ab,ao,none⟩) (cs' := (l.map Bs.val).drop 1) (i := 1) (fun j v hv => by simpa [Nat.add_comm] using hv) h hh
   simpa [adr] using this
  clear hr
  repeat (first|refine Yeg ?_|refine Yaf ?_|refine Yau ?_|refine Yaj ?_|refine Yab ?_)
  refine Zaj (α := Nat) (fun i => [(1,.slice none 0 0),(8,.slice (some ⟨p,0,none⟩) T T),(9,.int .i64 ((Zal (l.take (i + 1))).length : Nat)),(70,.slice (some ⟨ab,ao + 1,none⟩) (l.length - 1) (c - 1)),(71,.int .i64 ((l.length - 1 : Nat) : Int)),(72,.int .i64 (i : Nat))])
   (fun i w => i ≤ l.length - 1 ∧ ∃ r,r.length + (Zal (l.take (i + 1))).length = c0.length ∧ St W noF [pts p (.cells (bv (Zal (l.take (i + 1))) ++ r).toArray 5)] w) (fun i => l.length - 1 - i) 0 ⟨rfl,rfl,rfl,rfl,rfl,rfl,trivial⟩ ⟨Nat.zero_le _,_,by simp; omega,hS⟩ ?_
  clear hS
  rintro i w ⟨hi,r,hrl,hS⟩
  have hjt1 := hjt (i + 1)
  obtain ⟨J,hJ⟩ : ∃ J,J = Zal (l.take (i + 1)) := ⟨_,rfl⟩
  rw [← hJ] at hS hrl hjt1 ⊢
  by_cases hlt : i < l.length - 1
  ·obtain ⟨x,hx0⟩ : ∃ x,l[i + 1]? = some x := ⟨_,List.getElem?_eq_getElem (by omega)⟩
   have hbx := hB.all x (List.mem_of_getElem? hx0)
   have hj0 := Zda hx0
   have hx : ((l.map Bs.val).drop 1)[i]? = some (.slice x.a x.s.length x.c) := by simp [hx0,Bs.val]
   have hx1 := hjt (i + 1 + 1)
   rw [hj0,← hJ,List.length_append] at hx1
   have hr := hr'
   repeat (first|refine Yeg ?_|refine Yff ?_|refine Yek ?_|refine Yab ?_)
   refine X_yl (Zas (l := J.length) (h := T) rfl rfl rfl rfl (.inl ⟨rfl,rfl⟩) (.inr ⟨_,_,rfl,by omega,by omega,by omega⟩)) rfl rfl ?_
   obtain ⟨off,hoff,hof⟩ : ∃ off,sub (some ⟨p,0,none⟩) J.length 1 T = some ⟨p,off,none⟩ ∧ (off = J.length ∨ (T = J.length ∧ off = 0)) := by
    unfold sub
    by_cases e : T = J.length
    ·exact ⟨0,by rw [if_pos e],.inr ⟨e,rfl⟩⟩
    ·exact ⟨J.length,by rw [if_neg e]; simp [Zbs],.inl rfl⟩
   rw [hoff]
   repeat (first|refine Yaa ?_|refine Yaf ?_)
   refine Zrh (news := []) rfl rfl rfl rfl rfl hS (Zno _ _) rfl (fun _ h => by cases h) (by simp; omega) (fun w hS => ?_)
   rw [show Zai (bv J ++ r) off (([] : List Value).take (T - J.length)) = bv J ++ r by simp [Zai]] at hS
   rw [show ((min 0 (T - J.length) : Nat) : Int) = 0 by omega]
   repeat (first|refine Yeg ?_|refine Yew ?_|refine Yad ?_|refine Yab ?_)
   rw [show (J.length : Int) + 0 = (J.length : Nat) by omega]
   refine X_yl (Zas (l := J.length) (h := T) rfl rfl rfl rfl (.inl ⟨rfl,rfl⟩) (.inr ⟨_,_,rfl,by omega,by omega,by omega⟩)) rfl rfl ?_
   rw [hoff]
   repeat (first|refine Yaa ?_|refine Yaf ?_)
   refine Zrh rfl rfl rfl rfl rfl hS (hbx.rd hS) (by simp) Zc6 (by simp; omega) (fun w hS => ?_)
   repeat (first|refine Yeg ?_|refine Yew ?_|refine Yad ?_|refine Yeo ?_)
   refine Zaf (i + 1) ⟨rfl,rfl,?_,rfl,rfl,rfl,trivial⟩ ⟨by omega,r.drop x.s.length,by rw [hj0,← hJ]; simp; omega,?_⟩ (by omega)
   ·show some _ = some _
    rw [hj0,← hJ]
    congr 2
    simp
    omega
   ·rw [hj0,← hJ,Zcc]
    rcases hof with rfl | ⟨e,rfl⟩
    ·rw [List.take_of_length_le (by simp; omega)] at hS
     have : Zai (bv J ++ r) J.length (bv x.s) = bv J ++ bv x.s ++ r.drop x.s.length := by
      have := Zu7 (l := bv J) (m := r) (vs := bv x.s) (k := J.length) (n := 0) (by simp)
      rw [Nat.add_zero] at this
      rw [this]; simp [Zai]
     rw [this] at hS
     exact hS
    ·have h0 : x.s = [] := List.length_eq_zero_iff.1 (by omega)
     rw [h0] at hS ⊢
     simpa [Zai,bv] using hS
  ·obtain rfl : i = l.length - 1 := by omega
   have hJj : J = Zal l := by rw [hJ,show l.length - 1 + 1 = l.length by omega,List.take_length]
   repeat (first|refine Yeg ?_|refine Yfb ?_|refine Yep ?_|refine Yfc ?_)
   refine ⟨p,rfl,hS.head fun h hh => Zgs (n := J.length) ?_ h hh⟩
   rw [← hJj]; simp
/-! ### big -/
def Z15 (n : Int) (c i : Nat) : UInt8 := b8 (ishr .u64 (IntKind.u64.wrap n) (8 * (c - 1 - i)))
def Zly (n : Int) (c : Nat) : Nat → List UInt8
 | 0 => List.replicate c 0
 | i + 1 => (Zly n c i).set i (Z15 n c i)
theorem Zez (n : Int) (c : Nat) : ∀ i,(Zly n c i).length = c
 | 0 => by simp [Zly]
 | i + 1 => by simp [Zly,Zez n c i]
def bigB (n : Int) (c : Nat) : List UInt8 := Zly n c c
theorem Zah (n : Int) (c : Nat) : (bigB n c).length = c := Zez n c c
attribute [irreducible] bigB
theorem big_ (n : Int) (c : Nat) (W : World) (hc : c ≤ 1048576) :
  Calls Tryz.prog 193 #[.int .i64 n,.int .i64 (c : Nat)] W (Ret fun v w => ∃ p,v = .slice (some ⟨p,0,none⟩) c c ∧ St W noF [pts p (.cells (bv (bigB n c)).toArray 5)] w) := by
 have hS := St.start W
 refine Zab Tryz.func193 rfl Tryz.ntmps193 rfl ?_
 repeat (first|refine Yeg ?_|refine Yfh ?_|refine Yd3 (fun _ _ hS => ?_)|refine Yej ?_|refine Yab ?_)
 rename_i p w0
 refine Zaj (α := Nat) (fun i => [(0,.int .i64 n),(1,.int .i64 (c : Nat)),(5,.slice (some ⟨p,0,none⟩) c c),(10,.int .i64 (c : Nat)),(11,.int .i64 (i : Nat))])
  (fun i w => i ≤ c ∧ St W noF [pts p (.cells (bv (Zly n c i)).toArray 5)] w) (fun i => c - i) 0 ⟨rfl,rfl,rfl,rfl,rfl,trivial⟩ ⟨Nat.zero_le _,hS⟩ ?_
 clear hS
 rintro i w ⟨hi,hS⟩
 obtain ⟨L,hLe⟩ : ∃ L,L = Zly n c i := ⟨_,rfl⟩
 have hL : L.length = c := by rw [hLe]; exact Zez n c i
 rw [← hLe] at hS
 by_cases hlt : i < c
 ·repeat (first|refine Yeg ?_|(refine X_id ?_;first|refine Yaf ?_|refine Yag ?_|refine Ya1 ?_|refine Yba ?_|refine Yay ?_|refine Ybw ?_|refine Yb8 ?_|refine Ycp ?_|refine Ydc ?_|refine Ycj ?_|refine Zl2 rfl rfl rfl rfl hS (by omega) (fun _ hS => ?_))|refine Yek ?_|refine Yeo ?_)
  refine Zaf (i + 1) ⟨rfl,rfl,rfl,rfl,rfl,trivial⟩ ⟨by omega,?_⟩ (by omega)
  simp only [Zly,Z15]
  rw [← hLe]
  rw [show 0 + (i : Int).toNat * 1 = i by omega,show (8 * ((c : Int) - 1 - (i : Int))).toNat = 8 * (c - 1 - i) by omega] at hS
  exact hS
 ·obtain rfl : i = c := by omega
  repeat (first|refine Yeg ?_|refine Yfb ?_|refine Yep ?_|refine Yfc ?_)
  refine ⟨p,rfl,?_⟩
  unfold bigB
  rw [← hLe]
  exact hS

/-! ### small -/
def Zn2 (s : List UInt8) : Nat → Int
 | 0 => 0
 | i + 1 => ior .i64 (ishl .i64 (Zn2 s i) 8) ((s.getD i 0).toNat : Int)
def Zc4 (s : List UInt8) : Int := Zn2 s s.length
theorem Z2i (a : Option Addr) (c : Nat) (s : List UInt8) (W : World) (hs : Rd W (bytes a s)) (hl : s.length ≤ 1048576) :
  Calls Tryz.prog 190 #[.slice a s.length c] W (Ret fun v w => v = .int .i64 (Zc4 s) ∧ W = w) := by
 have hS := St.start W
 have hso := hs.ro
 refine Zab Tryz.func190 rfl Tryz.ntmps190 rfl ?_
 repeat (first|refine Yeg ?_|refine Yfh ?_|refine Yej ?_|refine Yab ?_)
 refine Zaj (α := Nat) (fun i => [(3,.int .i64 (Zn2 s i)),(6,.slice a s.length c),(7,.int .i64 (s.length : Nat)),(8,.int .i64 (i : Nat))])
  (fun i w => i ≤ s.length ∧ w = W) (fun i => s.length - i) 0 ⟨rfl,rfl,rfl,rfl,trivial⟩ ⟨Nat.zero_le _,rfl⟩ ?_
 rintro i w ⟨hi,rfl⟩
 by_cases hlt : i < s.length
 ·obtain ⟨xb,xo,rfl⟩ := hs.base (by intro e; have := Zag s; rw [e] at this; simp at this; omega)
  have hb : Ro w noF (bytes (some ⟨xb,xo,none⟩) s) := hso
  have h256 := UInt8.toNat_lt (s.getD ((i : Int).toNat * 1) 0)
  repeat (first|refine Yeg ?_|(refine X_id ?_;first|refine Yaf ?_|refine Yag ?_|refine Ya1 ?_|refine Yba ?_|refine Yay ?_|refine X_yl (Zfn rfl rfl (w64 (by omega) (by omega))) rfl rfl ?_|refine X_yl (Z5q rfl rfl rfl) rfl rfl ?_|refine X_yl (Zza rfl rfl rfl (by omega)) rfl rfl ?_|refine X_yl (Zav rfl rfl ((hb.rd hS).cellB' (by omega))) rfl rfl ?_)|refine Yek ?_|refine Yeo ?_)
  refine Zaf (i + 1) ⟨?_,rfl,rfl,rfl,trivial⟩ ⟨by omega,rfl⟩ (by omega)
  show some _ = some _
  simp only [Zn2]
  rw [show (i : Int).toNat * 1 = i by omega]
  rfl
 ·obtain rfl : i = s.length := by omega
  repeat (first|refine Yeg ?_|refine Yfb ?_|refine Yep ?_|refine Yfc ?_)
  exact ⟨rfl,rfl⟩
end Cr
namespace Cr
open Go Go.Proofs
set_option maxRecDepth 100000
set_option maxHeartbeats 64000000

theorem Zgl {F : Fence} {n : Nat} {P : Program} {f : FuncId} {args : Array Value} {w : World} {R R' : Value → World → Prop} (h : CallsIn F n P f args w (Ret R)) (hm : ∀ v w,R v w → R' v w) : CallsIn F n P f args w (Ret R') := by
 obtain ⟨h1,h2⟩ := h
 refine ⟨h1,fun cs hr => ?_⟩
 obtain ⟨e,w3,fr,⟨v,he,hR⟩,hrest⟩ := h2 cs hr
 exact ⟨e,w3,fr,⟨v,he,hm _ _ hR⟩,hrest⟩
theorem Fr.round2 {σ : Env} {N : Nat} {tm : Array Value} (hsz : tm.size = N) (h : ∀ n v,look σ n = some v → tm[n]? = some v) (l : Nat) {a b : Nat} (x y : Value) (ha : a < N) (hb : b < N) :
  Fr ((b,y) :: (a,x) :: σ) N ⟨[],some l⟩ { tmps := (#[a,b].zip #[x,y]).foldl (fun tmps (t,v) => tmps.setIfInBounds t v) tm,defers := [] } := by
 have := ((Fr.round hsz h l).put ha x).put hb y
 simpa [Act.put] using this
theorem Zgv {T : TypeId} {e c : Nat} {a : Option Addr} {cs : List Value} : ∀ h,own T e a c cs h → row a cs h := fun h hh => by
 obtain ⟨h1,_,⟨rfl,h0⟩ | ⟨b,cells,rfl,rfl,hc,ht⟩⟩ := hh
 ·exact .inl ⟨by rw [Nat.zero_mul] at h1; exact List.length_eq_zero_iff.1 (by omega),h0⟩
 ·refine .inr ⟨b,0,cells,T,(0,0),rfl,rfl,fun i v hv => ?_⟩
  rw [← ht,List.getElem?_take] at hv
  split at hv
  ·simpa using hv
  ·cases hv
theorem Zqo {α : Type} {l : List α} {k : Nat} {x : α} (hk : k ≠ 0) (hx : l[k - 1]? = some x) : l.drop (k - 1) = x :: l.drop k := by
 obtain ⟨h,rfl⟩ := List.getElem?_eq_some_iff.1 hx
 have := List.drop_eq_getElem_cons h
 rwa [show k - 1 + 1 = k by omega] at this
theorem Zyo {α : Type} {l : List α} {k : Nat} {x : α} {f : α → Bool} (hk : k ≠ 0) (hx : l[k - 1]? = some x) (hf : (l.drop k).reverse.find? f = none) (h : f x = false) : (l.drop (k - 1)).reverse.find? f = none := by
 rw [Zqo hk hx,List.reverse_cons,List.find?_append,hf]
 simp [h]
theorem Zyp {α : Type} {l : List α} {k : Nat} {x : α} {f : α → Bool} (hk : k ≠ 0) (hx : l[k - 1]? = some x) (hf : (l.drop k).reverse.find? f = none) (h : f x = true) : l.reverse.find? f = some x := by
 have e : l = l.take (k - 1) ++ (x :: l.drop k) := by rw [← Zqo hk hx]; simp
 rw [e,List.reverse_append,List.reverse_cons,List.find?_append,List.find?_append,hf]
 simp [h]
theorem Rd.slide {w : World} {b o : Nat} {cs : List Value} (H : Rd w (row (some ⟨b,o,none⟩) cs)) (k n : Nat) : Rd w (row (some ⟨b,o + k,none⟩) ((cs.drop k).take n)) :=
 H.mono fun h hr => by
  rcases hr with ⟨rfl,h0⟩ | ⟨b',off,cells,T,fz,hb,rfl,hc⟩
  ·exact ⟨h,.inl ⟨by simp,h0⟩,fun _ _ e => e⟩
  ·obtain ⟨rfl,rfl⟩ : b = b' ∧ o = off := by simpa using hb
   refine ⟨_,.inr ⟨b,o + k,cells,T,fz,rfl,rfl,fun i v hv => ?_⟩,fun _ _ e => e⟩
   rw [List.getElem?_take] at hv
   split at hv
   ·rw [List.getElem?_drop] at hv
    have := hc _ _ hv
    rwa [Nat.add_assoc]
   ·cases hv
theorem Zxi (p : Nat) (D : DiskM) (no : Int) (W : World) (hd : Rd W (disk p D)) (hline : D.line.length < 1073741824) :
  Calls Tryz.prog 127 #[.pointer (some ⟨p,0,none⟩),.int .i64 no] W (Ret fun v w => ∃ a c,v = .tuple #[.slice a (D.read no).2.length c,.int .i64 (D.read no).1] ∧ (D.read no).2.length ≤ c ∧ St W noF [bytes a (D.read no).2] w) := by
 have hS := St.start W
 obtain ⟨hok,al,cl,ai,ci,c1,c2,hcd,hrl,hri⟩ := hd.disk
 have hdo := hd.ro
 cases hoff : D.off
 ·cases hin : Zdt D no
  ·refine Zab Tryz.func127 rfl Tryz.ntmps127 rfl ?_
   repeat (first|refine Yeg ?_|(refine X_id ?_;first|(refine Zaa 76 rfl rfl rfl rfl rfl (on_b p D _ hoff _ (hdo.rd hS)) ?_;rintro _ _ ⟨rfl,rfl⟩)|(refine Zaa 187 rfl rfl rfl rfl rfl (Z8m p D no _ hin _ (hdo.rd hS)) ?_;rintro _ _ ⟨rfl,rfl⟩)|refine Yaf ?_|refine Yag ?_|refine Ybc ?_|refine Ybq ?_|refine Yap ?_|refine Yao (fun _ hS _ => ?_)|refine Ya7 (fun _ _ hS _ => ?_)|refine Yar (fun _ _ hS _ => ?_))|refine Ye1 ?_|refine Yab ?_|refine Yaq ?_|refine Ya8 ?_|refine Yby ?_)
   rw [show D.read no = (1,[]) by simp [DiskM.read,hoff,hin]]
   exact ⟨none,0,rfl,Nat.le_refl _,hS.drops.row_none⟩
  ·refine Zab Tryz.func127 rfl Tryz.ntmps127 rfl ?_
   repeat (first|refine Yeg ?_|(refine X_id ?_;first|(refine Zaa 76 rfl rfl rfl rfl rfl (on_b p D _ hoff _ (hdo.rd hS)) ?_;rintro _ _ ⟨rfl,rfl⟩)|(refine Zaa 187 rfl rfl rfl rfl rfl (Z8m p D no _ hin _ (hdo.rd hS)) ?_;rintro _ _ ⟨rfl,rfl⟩)|refine Yaf ?_|refine Yag ?_|refine Yav ?_|refine Yan ?_|refine Ybc ?_|refine Yap ?_|refine Ya7 (fun _ _ hS _ => ?_)|refine Yar (fun _ _ hS _ => ?_))|refine Ye9 ?_|refine Yeo ?_)
   have hcd1 := hS.kept hcd
   repeat (first|refine Yaa ?_|refine Yb3 ?_)
   obtain ⟨_,hc,hr,hw,hbk⟩ := hS.call []
   refine Zaa _ rfl rfl rfl rfl rfl (Zsn _ _ _ _) ?_
   rintro _ w ⟨bx,rfl,hS⟩
   replace hS := hbk hS.more
   clear hc hr hw hbk
   repeat (first|refine Yac ?_|refine Yaj ?_|refine Yab ?_)
   rename_i b3 _ _ _ b4 _ _ _ b5 _ _ _ _
   refine Zht (first := []) (captured := [.pointer (some ⟨bx,0,none⟩)])
    (fun l r j w => (j = none ∧ D.line.reverse.find? (fun x => x.1 == no) = none ∧ ∃ lo,St W noF [pts l lo,pts r (.deferred (some [])),pts bx (.cells #[.slice ai D.line.length ci] 160),pts b5 (.cells #[.int .i64 0] 31),pts b4 (.cells #[.slice none 0 0] 35),pts b3 (.cells #[.int .i64 no] 3)] w) ∨
     (j = some .ret ∧ ∃ x tb,D.line.reverse.find? (fun x => x.1 == no) = some x ∧ ∃ lo,St W noF [pts l lo,pts r (.deferred (some [])),pts tb (.cells (.int .i64 x.1 :: bv x.2).toArray 326),pts b5 (.cells #[.int .i64 0] 31),pts b4 (.cells #[.slice (some ⟨tb,1,none⟩) 64 64] 35)] w))
    rfl rfl hS ?_ ?_ ?_
   ·intro A B hA hB fn tm l r w1 htm hlook hS
    have hln : ∀ x ∈ D.line,(Value.int .i64 x.1 :: bv x.2).length = 65 := fun x hx => by simp [(hok.line64 x hx).1]
    have hll := Zdv fun x hx => (hok.line64 x hx).1
    have hW := fun (w : World) rs (h : St W noF rs w) => hri.ro.rd h
    refine Zgl (Zj4 l bx D.line.length ci ai (Zba D.line) w1 160 (by omega) hll
     (fun k w => k ≤ D.line.length ∧ (D.line.drop k).reverse.find? (fun x => x.1 == no) = none ∧ St W noF [pts l (.loop (recd fn tm #[22,23] A B r .ready none)),pts r (.deferred (some [])),pts bx (.cells #[.slice ai D.line.length ci] 160),pts b5 (.cells #[.int .i64 0] 31),pts b4 (.cells #[.slice none 0 0] 35),pts b3 (.cells #[.int .i64 no] 3)] w)
     (fun w => ∃ x tb,D.line.reverse.find? (fun x => x.1 == no) = some x ∧ St W noF [pts l (.loop (recd fn tm #[22,23] A B r .done (some .ret))),pts r (.deferred (some [])),pts tb (.cells (.int .i64 x.1 :: bv x.2).toArray 326),pts b5 (.cells #[.int .i64 0] 31),pts b4 (.cells #[.slice (some ⟨tb,1,none⟩) 64 64] 35)] w)
     (fun k w h => h.2.2.has) (fun k w h => hW _ _ h.2.2) ?_ ⟨Nat.le_refl _,by rw [List.drop_length]; rfl,hS⟩) ?_
    ·rintro k w ⟨hkl,hf,hS⟩
     refine ⟨_,rfl,hS.has,fun hk => ?_⟩
     obtain ⟨x,hx⟩ : ∃ x,D.line[k - 1]? = some x := by
      have : k - 1 < D.line.length := by omega
      exact ⟨_,List.getElem?_eq_getElem this⟩
     have hxm := List.mem_of_getElem? hx
     have hlen : LenIs (bv x.2) 64 := ⟨by simp [(hok.line64 x hxm).1]⟩
     have hagg : ((Zba D.line).drop ((k - 1) * 65)).take 65 = .int .i64 x.1 :: bv x.2 := Zcr hln hx
     rw [hagg]
     show RoundIn Fence.wide 0 Tryz.prog l fn ((#[22,23].zip _).foldl _ tm) A B w _
     refine Zry (Fr.round2 htm hlook l (.int .i64 ((k - 1 : Nat) : Int)) (.agg (.int .i64 x.1 :: bv x.2).toArray) (by decide) (by decide)) ?_
     refine C_eq hA ?_
     by_cases hno : x.1 = no
     ·repeat (first|refine Yeg ?_|refine Yao (fun _ hS _ => ?_)|refine Yar (fun _ _ hS _ => ?_)|refine Yad ?_)
      refine Zo9 hS.has (fun w hset => ?_)
      replace hS := hS.upd hset
      refine C_eq hB ?_
      repeat (first|refine Yeg ?_|(refine X_id ?_;first|refine Yan ?_|refine Ybh ?_|refine Ydh ?_|refine Yap ?_|refine Yao (fun _ hS _ => ?_))|refine Ye4 ?_|refine Yab ?_|refine Ya8 ?_)
      refine Zsx hS.has (fun w hset => ⟨_,rfl,.inr ⟨rfl,x,_,?_,(hS.upd hset).pick [1,1,0,1,1]⟩⟩)
      exact Zyp hk hx hf (by simpa using hno)
     ·repeat (first|refine Yeg ?_|refine Yao (fun _ hS _ => ?_)|refine Yar (fun _ _ hS _ => ?_)|refine Yad ?_)
      refine Zo9 hS.has (fun w hset => ?_)
      replace hS := hS.upd hset
      refine C_eq hB ?_
      repeat (first|refine Yeg ?_|refine Yan ?_|refine Ybi ?_|refine Yap ?_|refine Ye9 ?_|refine Yeo ?_)
      refine Zl5 hS.has (fun w hset => ⟨_,rfl,.inl ⟨rfl,by omega,?_,(hS.upd hset).pick [1,1,1,1,1,1]⟩⟩)
      exact Zyo hk hx hf (by simpa using hno)
    ·rintro _ w3 (⟨_,hf,hS⟩ | ⟨x,tb,hf,hS⟩)
     ·exact ⟨_,_,by simp,hS.has,fun w4 hset => .inl ⟨rfl,by simpa using hf,_,hS.upd hset⟩⟩
     ·exact ⟨_,_,by simp,hS.has,fun w4 hset => .inr ⟨rfl,x,tb,hf,_,hS.upd hset⟩⟩
   ·intro l r w4 hJ
    rcases hJ with ⟨_,hf,lo,hS⟩ | ⟨h,_⟩
    ·repeat (first|refine Yae ?_|refine Zo8 rfl ?_|refine Yat ?_)
     have hin2 : 0 ≤ no ∧ no < D.laid.length := by simpa [Zdt] using hin
     have hin0 := hin2.1
     have hin1 := hin2.2
     obtain ⟨lb,lo,rfl⟩ := hrl.base (by intro e; have h := Zdw hok.laid64; rw [e] at h; simp at h; omega)
     refine Zan (.s 0 (.s 1 (.s 2 (.s 3 (.s 4 (.s 5 (.s 6 (.h 7 (.h 8 (.h 9 .nil .no) .no) .no)))))))) mixed (by kernel_rfl) rfl ?_
     have hS := hS.drew
     have hcd3 := hS.kept hcd
     repeat (first|(refine Zae ?_;first|refine Ya0 ?_|refine Ybo ?_|refine Ybg ?_|refine Yc5 ?_|refine Yb9 ?_|refine Ybm ?_|refine Yc7 ?_|refine Yas ?_))
     have hseg : ((Zbe D.laid).drop (no.toNat * 64)).take 64 = bv (D.laid.getD no.toNat []) := by
      obtain ⟨s,hs⟩ : ∃ s,D.laid[no.toNat]? = some s := ⟨_,List.getElem?_eq_getElem (by omega)⟩
      rw [List.getD_eq_getElem?_getD,hs]
      exact Zcr (fun x hx => by simp [hok.laid64 x hx]) hs
     have hrs := (hrl.ro.rd hS).slide (no.toNat * 64) 64
     rw [hseg] at hrs
     have h64 : (D.laid.getD no.toNat []).length = 64 := by rw [← Zag,← hseg,List.length_take,List.length_drop,Zdw hok.laid64]; omega
     obtain ⟨_,hc,hr,hw,hbk⟩ := hS.call []
     refine Zaa _ rfl rfl rfl rfl rfl (Z86 _ 64 _ (D.laid.getD no.toNat []) _ hrs h64 (by omega)) ?_
     rintro _ w ⟨a',c',rfl,_,hcc,hS⟩
     replace hS := hbk hS.more
     clear hc hr hw hbk
     have hcd4 := hS.kept hcd
     refine And.intro (by repeat (first|exact trivial|refine And.intro (.inl (by decide +kernel)) ?_|refine And.intro (.inr (by first|exact hS.cell|exact Zbb hcd4)) ?_)) ?_
     repeat (first|refine Yao (fun _ hS _ => ?_)|refine Yah ?_|refine Yab ?_|(refine Zae ?_;first|refine Yaw ?_|refine Yas ?_)|(refine Zac ?_;first|refine Yax ?_))
     refine Zu0 (.inl rfl) hS.has (fun w hset => ?_)
     replace hS := hS.upd hset
     repeat (first|refine Yby ?_)
     rw [show D.read no = (0,D.laid.getD no.toNat []) by simp only [DiskM.read,hoff,hin,DiskM.find,hf]; rfl]
     refine ⟨a',c',by rw [h64],by rw [h64]; exact hcc,(hS.pick [0]).head fun h hh => ?_⟩
     exact Zgv h hh
    ·cases h
   ·intro l r c w4 hJ
    rcases hJ with ⟨h,_⟩ | ⟨h,x,tb,hf,lo,hS⟩
    ·cases h
    ·cases h
     repeat (first|refine Yah ?_|refine Yaq ?_|refine Ya8 ?_)
     refine Zu0 (.inl rfl) hS.has (fun w hset => ?_)
     replace hS := hS.upd hset
     repeat (first|refine Yby ?_)
     have hx64 : x.2.length = 64 := (hok.line64 x (by simpa using List.mem_of_find?_eq_some hf)).1
     rw [show D.read no = (0,x.2) by simp only [DiskM.read,hoff,hin,DiskM.find,hf]; rfl]
     refine ⟨some ⟨tb,1,none⟩,64,by rw [hx64],by rw [hx64]; exact Nat.le_refl _,(hS.pick [2]).head (Zrx (n := 64) ?_)⟩
     simp [← hx64,← Zag]
 ·refine Zab Tryz.func127 rfl Tryz.ntmps127 rfl ?_
  repeat (first|refine Yeg ?_|(refine X_id ?_;first|(refine Zaa 76 rfl rfl rfl rfl rfl (on_b p D _ hoff _ (hdo.rd hS)) ?_;rintro _ _ ⟨rfl,rfl⟩)|refine Yaf ?_|refine Yag ?_|refine Ybq ?_|refine Yao (fun _ hS _ => ?_)|refine Ya7 (fun _ _ hS _ => ?_)|refine Yar (fun _ _ hS _ => ?_))|refine Ye4 ?_|refine Yab ?_|refine Yaq ?_|refine Ya8 ?_|refine Yby ?_)
  rw [show D.read no = (9,[]) by simp [DiskM.read,hoff]]
  exact ⟨none,0,rfl,Nat.le_refl _,hS.drops.row_none⟩
end Cr
namespace Cr
open Go Go.Proofs
set_option maxRecDepth 100000
set_option maxHeartbeats 64000000
attribute [local irreducible] Calls

def Zdb (l : List UInt8) : List UInt8 := (l ++ List.replicate 64 0).take 64
theorem Zbx (l : List UInt8) : (Zdb l).length = 64 := by simp [Zdb]
theorem Z06 {T e c : Nat} {a : Option Addr} {cs cs' : List Value} (n : Nat) (h : cs.take n = cs') : ∀ g,own T e a c cs g → row a cs' g := fun g hg => by
 have := Zgv g hg
 subst h
 rcases this with ⟨rfl,h0⟩ | ⟨b,off,cells,T',fz,hb,hp,hc⟩
 ·exact .inl ⟨by simp,h0⟩
 ·refine .inr ⟨b,off,cells,T',fz,hb,hp,fun i v hv => ?_⟩
  rw [List.getElem?_take] at hv
  split at hv
  ·exact hc i v hv
  ·cases hv
theorem Z8q (ab ao c : Nat) (l : List Bs) (W : World) (hB : Bss W noF (some ⟨ab,ao,none⟩) l) (h2 : 2 ≤ l.length) (hc : l.length ≤ c) (hl : l.length ≤ 1099511627776) (hn : (Zal l).length ≤ 1099511627776) :
  Calls Tryz.prog 195 #[.slice (some ⟨ab,ao,none⟩) l.length c] W (Ret fun v w => ∃ p k,v = .slice (some ⟨p,0,none⟩) 64 k ∧ St W noF [bytes (some ⟨p,0,none⟩) (Zdb (Zal l))] w) := by
 have hS := St.start W
 refine Zab Tryz.func195 rfl Tryz.ntmps195 rfl ?_
 repeat (first|refine Yeg ?_|refine Yev ?_|refine Yeh ?_|refine Yab ?_)
 refine Zaa _ rfl rfl rfl rfl rfl (Qa9 ab ao c l _ hB h2 hc hl hn) ?_
 rintro _ w ⟨p,rfl,hS'⟩
 replace hS := hS.plus hS'
 clear hS'
 repeat (first|refine Yaa ?_)
 refine Zmd (m := 64) rfl rfl rfl rfl rfl rfl hS (hS.rd (List.mem_cons_self ..)) (by simp) (by omega) (by omega) (by omega) (by simp only [maxLen]; omega) (fun b k w hS hk => ?_)
 repeat (first|refine Yaa ?_)
 refine X_yl (Zas (l := 0) (h := 64) rfl rfl rfl rfl (.inr ⟨_,_,rfl,by omega,by omega,by omega⟩) (.inl ⟨rfl,rfl⟩)) rfl rfl ?_
 rw [sub_zero]
 repeat (first|refine Yeg ?_|refine Yag ?_|refine Yah ?_|refine Yei ?_)
 refine ⟨b,k,rfl,(hS.pick [0]).head fun h hh => Z06 64 ?_ h hh⟩
 unfold Zdb
 rw [Zf2,← Zcc,← Zlt]
theorem Bss.ofRd {w : World} {a : Option Addr} {l : List Bs} (hr : Rd w (Cr.row a (l.map Bs.val))) (hall : ∀ x ∈ l,Rd w (bytes x.a x.s)) : Bss w noF a l := ⟨hr.ro,fun x hx => (hall x hx).ro⟩
theorem Rd.ptsB {w : World} {b : Nat} {s : List UInt8} {T : TypeId} (h : Rd w (Cr.pts b (.cells (bv s).toArray T))) : Rd w (bytes (some ⟨b,0,none⟩) s) := h.mono fun g hg => ⟨g,Zk4 g hg,fun _ _ e => e⟩

/-! ### front -/
def Zff (rd fs : List Int) (n : Int) : List UInt8 := Zdb (bigB n 8 ++ digest rd fs [bigB n 8])
theorem Zii (rd fs : List Int) (n : Int) : (Zff rd fs n).length = 64 := Zbx _
theorem Z2w (n : Int) (rd fs : List Int) (W : World) (hG : Gl W noF rd fs) :
  Calls Tryz.prog 191 #[.int .i64 n] W (Ret fun v w => ∃ p k,v = .slice (some ⟨p,0,none⟩) 64 k ∧ St W noF [bytes (some ⟨p,0,none⟩) (Zff rd fs n)] w) := by
 have hS := St.start W
 refine Zab Tryz.func191 rfl Tryz.ntmps191 rfl ?_
 repeat (first|refine Yeg ?_|refine Yev ?_|refine Yeh ?_|refine Yab ?_)
 refine Zaa _ rfl rfl rfl rfl rfl (big_ n 8 _ (by omega)) ?_
 rintro _ w ⟨p,rfl,hS'⟩
 replace hS := hS.plus hS'
 clear hS'
 repeat (first|refine Yeg ?_|refine Yev ?_|refine Ybd (fun _ _ hS _ => ?_)|refine Yeh ?_|refine Yab ?_)
 rename_i q wq _
 have hB := Bss.ofRd (w := wq) (a := some ⟨q,0,none⟩) (l := [⟨some ⟨p,0,none⟩,8,bigB n 8⟩]) (by simpa [Bs.val,Zah] using (hS.rd (List.mem_cons_self ..)).own_row) (fun x hx => by
  simp only [List.mem_singleton] at hx
  subst hx
  exact (hS.rd (List.mem_cons_of_mem _ (List.mem_cons_self ..))).ptsB)
 have hfl : (Za1 (Zam [⟨some ⟨p,0,none⟩,8,bigB n 8⟩])).length < 1152921504606846976 := by simp [Za1,Zam,Za4,Zah]
 have hl32 : LenO (bv (digest rd fs (Zam [⟨some ⟨p,0,none⟩,8,bigB n 8⟩]))) 32 := ⟨by rw [Zag]; exact Zao _ _ _⟩
 refine Zad _ rfl rfl rfl rfl rfl hS (Zom _ 1 _ rd fs _ hfl (by simp) (hG.mono fun r hr => (hr.rd hS).ro) hB) ?_
 rintro _ w rfl hS
 clear hB hfl
 repeat (first|refine Yeg ?_|(refine X_id ?_;first|refine Yaf ?_|refine Ydh ?_|refine Yao (fun _ hS _ => ?_)|refine Yar (fun _ _ hS _ => ?_)|refine Ybd (fun _ _ hS _ => ?_))|refine Yeh ?_|refine Yab ?_)
 rename_i b4 _ _ _ _ _ _ b6 w6 _
 have hB := Bss.ofRd (w := w6) (a := some ⟨b6,0,none⟩) (l := [⟨some ⟨p,0,none⟩,8,bigB n 8⟩,⟨some ⟨b4,0,none⟩,32,digest rd fs [bigB n 8]⟩]) (by simpa [Bs.val,Zah,Zao] using (hS.rd (List.mem_cons_self ..)).own_row) (fun x hx => by
  simp only [List.mem_cons,List.not_mem_nil,or_false] at hx
  rcases hx with rfl | rfl
  ·exact (hS.rd (by simp)).ptsB (T := 5)
  ·exact (hS.rd (List.mem_cons_of_mem _ (List.mem_cons_self ..))).ptsB)
 refine Zaa _ rfl rfl rfl rfl rfl (Z8q b6 0 2 _ _ hB (by simp) (by simp) (by simp) (by simp [Zal,Zah,Zao])) ?_
 rintro _ w ⟨r,k,rfl,hS'⟩
 replace hS := hS.plus hS'
 clear hS' hB
 repeat (first|refine Yeg ?_|refine Yag ?_|refine Yah ?_|refine Yei ?_)
 refine ⟨r,k,rfl,?_⟩
 have := hS.pick [0]
 unfold Zff
 simpa [Zal] using this

/-! ### note -/
def Zia (number at_ count no : Int) (d : List UInt8) : List UInt8 := Zdb (bigB number 8 ++ (bigB at_ 4 ++ (bigB count 4 ++ (bigB no 4 ++ d))))
theorem Zgc (number at_ count no : Int) (d : List UInt8) : (Zia number at_ count no d).length = 64 := Zbx _
theorem Z75 (number at_ count no : Int) (d : List UInt8) (hd : d.length = 32) (W : World) :
  Calls Tryz.prog 138 #[.int .i64 number,.int .i64 at_,.int .i64 count,.int .i64 no,.agg (bv d).toArray] W (Ret fun v w => ∃ p k,v = .slice (some ⟨p,0,none⟩) 64 k ∧ St W noF [bytes (some ⟨p,0,none⟩) (Zia number at_ count no d)] w) := by
 have hS := St.start W
 have hl32 : LenO (bv d) 32 := ⟨by rw [Zag]; exact hd⟩
 refine Zab Tryz.func138 rfl Tryz.ntmps138 rfl ?_
 repeat (first|refine Yeg ?_|refine Yag ?_|refine Ya7 (fun _ _ hS _ => ?_)|refine Yeh ?_|refine Yab ?_)
 rename_i bd _ _
 refine Zan (.s 0 (.s 2 (.s 4 (.s 6 (.s 8 (.h 1 (.h 3 (.h 5 (.h 7 (.h 9 (.h 10 (.s 11 .nil) .no) .no) .no) .no) .no) .no)))))) mixed (by kernel_rfl) rfl ?_
 have hS := hS.drew
 repeat (first|(refine Zae ?_;first|refine Ya0 ?_|refine Yc5 ?_|refine Yas ?_))
 refine Zaa _ rfl rfl rfl rfl rfl (big_ number 8 _ (by omega)) ?_
 rintro _ w ⟨p1,rfl,hS'⟩
 replace hS := hS.plus hS'
 clear hS'
 repeat (first|(refine Zae ?_;first|refine Yas ?_)|(refine Zac ?_;first|refine Yax ?_))
 refine Zaa _ rfl rfl rfl rfl rfl (big_ at_ 4 _ (by omega)) ?_
 rintro _ w ⟨p2,rfl,hS'⟩
 replace hS := hS.plus hS'
 clear hS'
 repeat (first|(refine Zae ?_;first|refine Yas ?_)|(refine Zac ?_;first|refine Yax ?_))
 refine Zaa _ rfl rfl rfl rfl rfl (big_ count 4 _ (by omega)) ?_
 rintro _ w ⟨p3,rfl,hS'⟩
 replace hS := hS.plus hS'
 clear hS'
 repeat (first|(refine Zae ?_;first|refine Yas ?_)|(refine Zac ?_;first|refine Yax ?_))
 refine Zaa _ rfl rfl rfl rfl rfl (big_ no 4 _ (by omega)) ?_
 rintro _ w ⟨p4,rfl,hS'⟩
 replace hS := hS.plus hS'
 clear hS'
 repeat (first|refine Ybd (fun _ _ hS _ => ?_)|(refine Zae ?_;first|refine Yas ?_)|(refine Zac ?_;first|refine Yax ?_))
 rename_i b6 w6 _
 have hB := Bss.ofRd (w := w6) (a := some ⟨b6,0,none⟩) (l := [⟨some ⟨p1,0,none⟩,8,bigB number 8⟩,⟨some ⟨p2,0,none⟩,4,bigB at_ 4⟩,⟨some ⟨p3,0,none⟩,4,bigB count 4⟩,⟨some ⟨p4,0,none⟩,4,bigB no 4⟩,⟨some ⟨bd,0,none⟩,32,d⟩])
  (by simpa [Bs.val,Zah,hd] using (hS.rd (List.mem_cons_self ..)).own_row) (fun x hx => by
   simp only [List.mem_cons,List.not_mem_nil,or_false] at hx
   rcases hx with rfl | rfl | rfl | rfl | rfl
   ·exact (hS.rd (by simp)).ptsB (T := 5)
   ·exact (hS.rd (by simp)).ptsB (T := 5)
   ·exact (hS.rd (by simp)).ptsB (T := 5)
   ·exact (hS.rd (by simp)).ptsB (T := 5)
   ·exact (hS.rd (by simp)).ptsB (T := 56))
 refine Zaa _ rfl rfl rfl rfl rfl (Z8q b6 0 5 _ _ hB (by simp) (by simp) (by simp) (by simp [Zal,Zah,hd])) ?_
 rintro _ w ⟨r,k,rfl,hS'⟩
 replace hS := hS.plus hS'
 clear hS' hB
 repeat (first|refine Yah ?_|refine Yei ?_|(refine Zae ?_;first|refine Yfg ?_)|(refine Zac ?_;first|refine Yax ?_))
 refine ⟨r,k,rfl,?_⟩
 have := hS.pick [0]
 unfold Zia
 simpa [Zal] using this
abbrev tabV : Value := .agg (ints .i64 (Zc7 310)).toArray
theorem Z1f {n : Nat} (hn : n ≤ 1099511627776) (j : Nat) (hj : j < 8) : Zx0 n j = b8 (ishr .i64 (8 * (n : Int)) (8 * (7 - j))) := by
 unfold Zx0
 have e1 : IntKind.u64.wrap (n : Int) = (n : Int) := by simp only [IntKind.wrap,IntKind.bits,IntKind.signed]; simp; omega
 have e2 : IntKind.u64.wrap ((n : Int) * 8) = ((8 * n : Nat) : Int) := by simp only [IntKind.wrap,IntKind.bits,IntKind.signed]; simp; omega
 rw [e1,e2,show 8 * (n : Int) = ((8 * n : Nat) : Int) by omega,Zm9 (k := .u64) _ _ (by show _ ≤ 64; omega),Zm9 (k := .i64) _ _ (by show _ ≤ 64; omega)]
theorem Ziw (h : List Nat) : (upL h).length = h.length := by simp [upL]
theorem Z07 (H : List Int) (i k : Nat) (hk : k < 4) : Z4c H (4 * i + k) = b8 (ishr .i64 (H.getD i 0) (24 - 8 * k)) := by
 unfold Z4c
 rw [show (4 * i + k) / 4 = i by omega,show 24 - (4 * i + k) % 4 * 8 = 24 - 8 * k by omega]
 unfold ishr
 rw [show min (24 - 8 * k) IntKind.u32.bits = 24 - 8 * k from Nat.min_eq_left (by show _ ≤ 32; omega),show min (24 - 8 * k) IntKind.i64.bits = 24 - 8 * k from Nat.min_eq_left (by show _ ≤ 64; omega)]
def pre (s : List UInt8) (k : Nat) : List UInt8 := s ++ 128 :: List.replicate k 0
theorem Zgu (s : List UInt8) (k : Nat) : (pre s k).length = s.length + 1 + k := by simp [pre]; omega
theorem Z03 (s : List UInt8) (k : Nat) : pre s (k + 1) = pre s k ++ [0] := by
 unfold pre
 rw [List.replicate_succ',List.append_assoc]; rfl
theorem Zfv (n : Nat) : ∀ j,(lenB n j).length = j
 | 0 => rfl
 | j + 1 => by simp [lenB,Zfv n j]
theorem Zvc (s : List UInt8) : pre s (gap s.length) ++ lenB s.length 8 = Za3 s := by simp [pre,Za3,padB]
theorem Zik : firstL.length = 8 := by decide +kernel
theorem Zxd : roundL.length = 64 := by decide +kernel
theorem Zxa : Seg (ints .i64 (firstL ++ roundL)) 0 8 (ints .i64 firstL) := ⟨by
 refine ⟨?_,by rw [ints_length,Zik]⟩
 unfold ints
 rw [List.map_append,List.drop_zero,List.take_append_of_le_length (by simp [Zik]),List.take_of_length_le (by simp [Zik])]⟩
theorem Z6k (a : Option Addr) (c : Nat) (s : List UInt8) (W : World) (hs : Rd W (bytes a s)) (hl : s.length ≤ 1099511627776) (m : Nat) (hm : (Za3 s).length = 64 * m) :
  Calls Tryz.prog 61 #[tabV,.slice a s.length c] W (Ret fun v w => v = .agg (bv (outB (upL (hAt (Za3 s) m)))).toArray ∧ St W noF [] w) := by
 have hS := St.start W
 have hgl : gap s.length < 64 := by unfold gap; omega
 refine Zab Tryz.func61 rfl Tryz.ntmps61 rfl ?_
 repeat (first|refine Yeg ?_|refine Yaf ?_|refine Ya7 (fun _ _ hS _ => ?_)|refine Yar (fun _ _ hS _ => ?_)|refine Ybd (fun _ _ hS _ => ?_)|refine Yeh ?_|refine Yab ?_)
 rename_i b2 _ _ _ b4 _ _ _ _ _ _
 refine Zap rfl rfl rfl rfl rfl hS rfl (Nat.le_refl _) (hs.ro.rd hS) (by simp) Zc6 (by omega) (by simp only [maxLen]; omega) (fun p1 c1 w hS hc1 _ => ?_)
 rw [List.nil_append] at hS
 rw [Nat.zero_add] at hc1 ⊢
 repeat (first|refine Yeg ?_|refine Yev ?_|refine Ybd (fun _ _ hS _ => ?_)|refine Yeh ?_|refine Yab ?_)
 refine Zap rfl rfl rfl rfl rfl hS (by simp) hc1 hS.ownRd rfl (fun u hu => by
  simp only [List.mem_cons,List.not_mem_nil,or_false] at hu
  subst hu; rfl) (by omega) (by simp only [maxLen]; omega) (fun p2 c2 w hS hc2 _ => ?_)
 have hS : St W noF [own 5 1 p2 c2 (bv s ++ [.int .u8 128]),pts b4 (.cells (List.replicate 32 (.int .u8 0)).toArray 56),pts b2 (.cells (ints .i64 (Zc7 310)).toArray 61)] w := hS.took
 rw [show bv s ++ [Value.int .u8 128] = bv (pre s 0) by simp [pre,bv]] at hS
 repeat (first|refine Yeg ?_|refine Yag ?_|refine Yae ?_|refine Yaj ?_|refine Yab ?_)
 refine Zbk (α := Option Addr × Nat) (fun z => [(1,.slice a s.length c),(2,.pointer (some ⟨b2,0,none⟩)),(4,.pointer (some ⟨b4,0,none⟩)),(5,.slice z.1 (pre s (gap s.length)).length z.2)])
  (fun z w => (pre s (gap s.length)).length ≤ z.2 ∧ St W noF [own 5 1 z.1 z.2 (bv (pre s (gap s.length))),pts b4 (.cells (List.replicate 32 (.int .u8 0)).toArray 56),pts b2 (.cells (ints .i64 (Zc7 310)).toArray 61)] w) ?_ ?_
 ·refine Zaj (α := Nat × Option Addr × Nat) (fun z => [(1,.slice a s.length c),(2,.pointer (some ⟨b2,0,none⟩)),(4,.pointer (some ⟨b4,0,none⟩)),(5,.slice z.2.1 (s.length + 1 + z.1) z.2.2)])
   (fun z w => z.1 ≤ gap s.length ∧ s.length + 1 + z.1 ≤ z.2.2 ∧ St W noF [own 5 1 z.2.1 z.2.2 (bv (pre s z.1)),pts b4 (.cells (List.replicate 32 (.int .u8 0)).toArray 56),pts b2 (.cells (ints .i64 (Zc7 310)).toArray 61)] w) (fun z => gap s.length - z.1) (0,p2,c2)
   ⟨rfl,rfl,rfl,rfl,trivial⟩ ⟨Nat.zero_le _,hc2,hS⟩ ?_
  clear hS
  rintro ⟨k,pk,ck⟩ w ⟨hk,hck,hS⟩
  simp only at hk hck hS ⊢
  by_cases h1 : k < gap s.length
  ·have hgb := Zvx h1
   repeat (first|refine Yeg ?_|(refine X_id ?_;first|refine Yaf ?_|refine Yau ?_|refine Ybl ?_|refine Yay ?_|refine Ycb ?_|refine Ybd (fun _ _ hS _ => ?_))|refine Yek ?_|refine Yab ?_)
   refine Zap rfl rfl rfl rfl rfl hS (by rw [Zag,Zgu,Nat.mul_one]) hck (hS.rd (List.mem_cons_self ..)).own_row rfl (fun u hu => by
    simp only [List.mem_cons,List.not_mem_nil,or_false] at hu
    subst hu; rfl) (by omega) (by simp only [maxLen]; omega) (fun p' c' w hS hc' _ => ?_)
   rw [show bv (pre s k) ++ [Value.int .u8 0] = bv (pre s (k + 1)) by rw [Z03,Zcc]; rfl] at hS
   repeat (first|refine Yeg ?_|refine Yag ?_|refine Yat ?_)
   exact Zaf (z := (k,pk,ck)) (k + 1,p',c') ⟨rfl,rfl,rfl,rfl,trivial⟩ ⟨by simp only; omega,hc',hS.took⟩ (by simp only; omega)
  ·obtain rfl : k = gap s.length := by omega
   have hgm := Zyg s.length
   repeat (first|refine Yeg ?_|(refine X_id ?_;first|refine Yaf ?_|refine Yau ?_|refine Ybb ?_|refine Yay ?_|refine Ycb ?_)|refine Yet ?_|refine Yem ?_)
   refine Zbj (pk,ck) ⟨rfl,rfl,rfl,?_,trivial⟩ ⟨by rw [Zgu]; exact hck,hS⟩
   simp only [Zgu]; rfl
 clear hS
 rintro ⟨pz,cz⟩ w ⟨hcz,hS⟩
 simp only at hcz hS ⊢
 obtain ⟨P,hP⟩ : ∃ P,P = pre s (gap s.length) := ⟨_,rfl⟩
 have hPl : P.length ≤ s.length + 65 := by rw [hP,Zgu]; omega
 rw [← hP] at hcz hS ⊢
 repeat (first|refine Yeg ?_|refine Yag ?_|refine Yej ?_|refine Yab ?_)
 refine Zbk (α := Option Addr × Nat) (fun z => [(2,.pointer (some ⟨b2,0,none⟩)),(4,.pointer (some ⟨b4,0,none⟩)),(5,.slice z.1 (P ++ lenB s.length 8).length z.2)])
  (fun z w => (P ++ lenB s.length 8).length ≤ z.2 ∧ St W noF [own 5 1 z.1 z.2 (bv (P ++ lenB s.length 8)),pts b4 (.cells (List.replicate 32 (.int .u8 0)).toArray 56),pts b2 (.cells (ints .i64 (Zc7 310)).toArray 61)] w) ?_ ?_
 ·refine Zaj (α := Nat × Option Addr × Nat) (fun z => [(1,.slice a s.length c),(2,.pointer (some ⟨b2,0,none⟩)),(4,.pointer (some ⟨b4,0,none⟩)),(5,.slice z.2.1 (P.length + z.1) z.2.2),(6,.int .i64 (7 - (z.1 : Nat)))])
   (fun z w => z.1 ≤ 8 ∧ P.length + z.1 ≤ z.2.2 ∧ St W noF [own 5 1 z.2.1 z.2.2 (bv (P ++ lenB s.length z.1)),pts b4 (.cells (List.replicate 32 (.int .u8 0)).toArray 56),pts b2 (.cells (ints .i64 (Zc7 310)).toArray 61)] w) (fun z => 8 - z.1) (0,pz,cz)
   ⟨rfl,rfl,rfl,rfl,rfl,trivial⟩ ⟨Nat.zero_le _,hcz,by simpa [lenB] using hS⟩ ?_
  clear hS
  rintro ⟨k,pk,ck⟩ w ⟨hk,hck,hS⟩
  simp only at hk hck hS ⊢
  by_cases h1 : k < 8
  ·repeat (first|refine Yeg ?_|(refine X_id ?_;first|refine Yaf ?_|refine Yau ?_|refine Yb2 ?_|refine Yb8 ?_|refine Ycp ?_|refine Ycj ?_|refine Ybd (fun _ _ hS _ => ?_))|refine Yek ?_|refine Yab ?_)
   refine Zap rfl rfl rfl rfl rfl hS (by rw [Zag,List.length_append,Zfv,Nat.mul_one]) hck (hS.rd (List.mem_cons_self ..)).own_row rfl (fun u hu => by
    simp only [List.mem_cons,List.not_mem_nil,or_false] at hu
    subst hu; rfl) (by omega) (by simp only [maxLen]; omega) (fun p' c' w hS hc' _ => ?_)
   rw [show (8 * (7 - (k : Int))).toNat = 8 * (7 - k) by omega,← Z1f hl k h1,show bv (P ++ lenB s.length k) ++ [Value.int .u8 (Zx0 s.length k).toNat] = bv (P ++ lenB s.length (k + 1)) by rw [lenB,← List.append_assoc,Zcc _ [Zx0 s.length k]]; rfl] at hS
   repeat (first|refine Yeg ?_|refine Yaf ?_|refine Yag ?_|refine Ybw ?_|refine Yad ?_|refine Yeo ?_)
   exact Zaf (z := (k,pk,ck)) (k + 1,p',c') ⟨rfl,rfl,rfl,rfl,(by show some _ = some _; congr 2; push_cast; omega),trivial⟩ ⟨by simp only; omega,hc',hS.took⟩ (by simp only; omega)
  ·obtain rfl : k = 8 := by omega
   repeat (first|refine Yeg ?_|refine Yaf ?_|refine Yb4 ?_|refine Yet ?_|refine Yem ?_)
   refine Zbj (pk,ck) ⟨rfl,rfl,?_,trivial⟩ ⟨by rw [List.length_append,Zfv]; exact hck,hS⟩
   simp only [List.length_append,Zfv]; rfl
 clear hS hcz
 rintro ⟨py,cy⟩ w ⟨hcz,hS⟩
 simp only at hcz hS ⊢
 subst hP
 rw [Zvc] at hcz hS ⊢
 clear hPl
 have hln : (Za3 s).length ≤ 1099511627776 + 100 := by rw [Ze5]; omega
 rw [hm] at hln hcz ⊢
 obtain ⟨T,hT⟩ : ∃ T,T = Zc7 310 := ⟨_,rfl⟩
 have hTs : T = firstL ++ roundL := hT.trans Z0h
 have hT72 : T.length = 72 := by rw [hTs,List.length_append,Zik,Zxd]
 have hl72 : LenO (ints .i64 T) 72 := ⟨by rw [ints_length,hT72]⟩
 have hsg : Seg (ints .i64 T) 0 8 (ints .i64 (upL (hAt (Za3 s) 0))) := by
  show Seg _ 0 8 (ints .i64 (upL fsN))
  rw [← Z8r,hTs]; exact Zxa
 have hl8 : ∀ k,LenO (ints .i64 (upL (hAt (Za3 s) k))) 8 := fun k => ⟨by rw [ints_length,Ziw,(Zx9 _ k).len]⟩
 rw [← hT] at hS
 clear hT
 repeat (first|refine Yeg ?_|(refine X_id ?_;first|refine Yag ?_|refine Yan ?_|refine Ybf ?_|refine Yb6 (fun _ hS => ?_)|refine Yar (fun _ _ hS _ => ?_))|refine Yej ?_|refine Yab ?_)
 rename_i b7 _ _ _ _
 refine Zbk (α := Unit) (fun _ => [(4,.pointer (some ⟨b4,0,none⟩)),(7,.pointer (some ⟨b7,0,none⟩))])
  (fun _ w => St W noF [pts b7 (.cells (ints .i64 (upL (hAt (Za3 s) m))).toArray 58),pts b4 (.cells (List.replicate 32 (.int .u8 0)).toArray 56)] w) ?_ ?_
 ·refine Zaj (α := Nat) (fun k => [(2,.pointer (some ⟨b2,0,none⟩)),(4,.pointer (some ⟨b4,0,none⟩)),(5,.slice py (64 * m) cy),(7,.pointer (some ⟨b7,0,none⟩)),(8,.int .i64 ((64 * k : Nat) : Int))])
   (fun k w => k ≤ m ∧ St W noF [pts b7 (.cells (ints .i64 (upL (hAt (Za3 s) k))).toArray 58),own 5 1 py cy (bv (Za3 s)),pts b4 (.cells (List.replicate 32 (.int .u8 0)).toArray 56),pts b2 (.cells (ints .i64 T).toArray 61)] w) (fun k => m - k) 0
   ⟨rfl,rfl,rfl,rfl,rfl,trivial⟩ ⟨Nat.zero_le _,hS⟩ ?_
  clear hS
  rintro k w ⟨hk,hS⟩
  have hlk := hl8 k
  have hlk1 := hl8 (k + 1)
  by_cases h1 : k < m
  ·have hbl : (blk (Za3 s) k).length = 64 := by unfold blk; simp; omega
   have htn : ∀ w,Rd w (bytes (sub py (64 * k) 1 cy) (blk (Za3 s) k)) → Calls Tryz.prog 111 #[.agg (ints .i64 T).toArray,.agg (ints .i64 (upL (hAt (Za3 s) k))).toArray,.slice (sub py (64 * k) 1 cy) 64 (cy - 64 * k)] w (Ret fun v w' => v = .agg (ints .i64 (upL (hAt (Za3 s) (k + 1)))).toArray ∧ St w noF [] w') := fun w hr => by
    have h := Z91 T (upL (hAt (Za3 s) k)) hT72 (by rw [Ziw,(Zx9 _ k).len]) _ (cy - 64 * k) _ w hr hbl
    rw [hTs,Z3j (Zx9 _ _)] at h
    rw [hTs]
    exact h
   have hrd : ∀ {w : World} {rs : List Res},St W noF rs w → own 5 1 py cy (bv (Za3 s)) ∈ rs → Rd w (bytes (sub py (64 * k) 1 cy) (blk (Za3 s) k)) := fun {w rs} h hm => by
    have := Rd.subBytes (w := w) (a := py) (s := Za3 s) (l := 64 * k) (h := 64 * k + 64) (c := cy) ((h.rd hm).own_row) (by omega) (by omega)
    rw [show 64 * k + 64 - 64 * k = 64 by omega] at this
    exact this
   repeat (first|refine Yeg ?_|refine Yaf ?_|refine Yau ?_|refine Ya1 ?_|refine Yek ?_|refine Yab ?_)
   refine Zan (.s 0 (.s 1 (.s 2 (.s 3 (.s 4 (.s 5 (.s 6 (.h 7 (.h 8 .nil .no) .no)))))))) mixed (by kernel_rfl) rfl ?_
   have hS := hS.drew
   repeat (first|(refine Zae ?_;first|refine Ya0 ?_|refine Ycw ?_|refine Ybx ?_))
   refine Zak rfl rfl (fun _ => Zas (l := 64 * k) (h := 64 * k + 64) rfl rfl rfl rfl (.inr ⟨_,_,rfl,by omega,by omega,by omega⟩) (.inr ⟨_,_,rfl,by omega,by omega,by omega⟩)) rfl rfl ?_
   rw [show 64 * k + 64 - 64 * k = 64 by omega]
   repeat (first|refine Yeg ?_|(refine X_id ?_;first|(refine Zad 111 rfl rfl rfl rfl rfl hS (htn _ (hrd hS (by simp))) ?_;rintro _ _ rfl hS)|refine Yew ?_|refine Yb6 (fun _ hS => ?_))|refine Yad ?_|refine Yeo ?_|(refine Zae ?_;first|refine Yaw ?_|refine Yas ?_)|(refine Zac ?_;first|refine Yax ?_))
   exact Zaf (k + 1) ⟨rfl,rfl,rfl,rfl,(by show some _ = some _; congr 2; try (push_cast; omega)),trivial⟩ ⟨h1,hS.took⟩ (by omega)
  ·obtain rfl : k = m := by omega
   repeat (first|refine Yeg ?_|refine Yaf ?_|refine Yau ?_|refine Yaz ?_|refine Yet ?_|refine Yem ?_)
   exact Zbj () ⟨rfl,rfl,trivial⟩ hS.took
 clear hS
 rintro _ w hS
 obtain ⟨H,hH⟩ : ∃ H,H = upL (hAt (Za3 s) m) := ⟨_,rfl⟩
 have hH8 : H.length = 8 := by rw [hH,Ziw,(Zx9 _ m).len]
 rw [← hH] at hS ⊢
 repeat (first|refine Yeg ?_|refine Yag ?_|refine Yar (fun _ _ hS _ => ?_)|refine Yej ?_|refine Yab ?_)
 rename_i b9 _ _
 rw [Zf2] at hS
 refine Zaj (α := Nat) (fun i => [(4,.pointer (some ⟨b4,0,none⟩)),(7,.pointer (some ⟨b7,0,none⟩)),(9,.pointer (some ⟨b9,0,none⟩)),(10,.int .i64 (i : Nat))])
  (fun i w => i ≤ 8 ∧ St W noF [pts b9 (.cells (bv (Zk6 H (4 * i))).toArray 56),pts b7 (.cells (ints .i64 H).toArray 58),pts b4 (.cells (bv (List.replicate 32 0)).toArray 56)] w) (fun i => 8 - i) 0
  ⟨rfl,rfl,rfl,rfl,trivial⟩ ⟨Nat.zero_le _,hS⟩ ?_
 clear hS
 rintro i w ⟨hi,hS⟩
 by_cases h1 : i < 8
 ·repeat (first|refine Yeg ?_|refine Yaf ?_|refine Yag ?_|refine Ya1 ?_|refine Yek ?_|refine Yab ?_)
  refine Zaj (α := Nat) (fun k => [(4,.pointer (some ⟨b4,0,none⟩)),(7,.pointer (some ⟨b7,0,none⟩)),(9,.pointer (some ⟨b9,0,none⟩)),(10,.int .i64 (i : Nat)),(11,.int .i64 (k : Nat))])
   (fun k w => k ≤ 4 ∧ St W noF [pts b9 (.cells (bv (Zk6 H (4 * i + k))).toArray 56),pts b7 (.cells (ints .i64 H).toArray 58),pts b4 (.cells (bv (List.replicate 32 0)).toArray 56)] w) (fun k => 4 - k) 0
   ⟨rfl,rfl,rfl,rfl,rfl,trivial⟩ ⟨Nat.zero_le _,by rw [Nat.add_zero]; exact hS⟩ ?_
  clear hS
  rintro k w ⟨hk,hS⟩
  obtain ⟨L,hLe⟩ : ∃ L,L = Zk6 H (4 * i + k) := ⟨_,rfl⟩
  have hL : L.length = 32 := by rw [hLe]; exact Zdq H _
  rw [← hLe] at hS
  by_cases h2 : k < 4
  ·repeat (first|refine Yeg ?_|(refine X_id ?_;first|refine Yaf ?_|refine Yag ?_|refine Ya1 ?_|refine Ycn ?_|refine Yay ?_|refine Ybw ?_|refine Yb8 ?_|refine Ycp ?_|refine Ycj ?_|refine X_yl (Zav rfl rfl (hS.cellI (by omega))) rfl rfl ?_|refine Zkl rfl rfl rfl rfl hS (by omega) (fun _ hS => ?_))|refine Yek ?_|refine Yeo ?_)
   refine Zaf (k + 1) ⟨rfl,rfl,rfl,rfl,rfl,trivial⟩ ⟨h2,?_⟩ (by omega)
   rw [show 0 + (4 * (i : Int) + k).toNat * 1 = 4 * i + k by omega,show 0 + (i : Int).toNat * 1 = i by omega,show (24 - 8 * (k : Int)).toNat = 24 - 8 * k by omega,hLe,← Z07 H i k h2] at hS
   exact hS
  ·obtain rfl : k = 4 := by omega
   repeat (first|refine Yeg ?_|refine Yaf ?_|refine Yag ?_|refine Yaz ?_|refine Yay ?_|refine Yet ?_|refine Yfa ?_)
   exact Zaf (i + 1) ⟨rfl,rfl,rfl,rfl,trivial⟩ ⟨h1,by rw [show 4 * (i + 1) = 4 * i + 4 by omega,← hLe]; exact hS⟩ (by omega)
 ·obtain rfl : i = 8 := by omega
  rw [show 4 * 8 = 32 from rfl] at hS
  obtain ⟨L,hLe⟩ : ∃ L,L = Zk6 H 32 := ⟨_,rfl⟩
  rw [← hLe] at hS
  have hlen : LenO (bv L) 32 := ⟨by rw [Zag,hLe,Zdq]⟩
  repeat (first|refine Yeg ?_|refine Yaf ?_|refine Yaz ?_|refine Ybf ?_|refine Yb6 (fun _ hS => ?_)|refine Yep ?_|refine Yeq ?_)
  exact ⟨by rw [hLe]; rfl,hS.drops⟩
end Cr
namespace Cr
open Go Go.Proofs
set_option maxHeartbeats 64000000
def sha (s : List UInt8) : List UInt8 := (StrM.init.more roundL firstL s).sum roundL firstL
theorem Zmr (s : List UInt8) : (sha s).length = 32 := by unfold sha StrM.sum; exact Zc8 _
theorem Z6d (s : List UInt8) (m : Nat) (hm : (Za3 s).length = 64 * m) : sha s = outB (upL (hAt (Za3 s) m)) := Zvb s m hm
attribute [irreducible] sha
theorem Z6j (a : Option Addr) (c : Nat) (s : List UInt8) (W : World) (hs : Rd W (bytes a s)) (hl : s.length ≤ 1099511627776) :
  Calls Tryz.prog 61 #[tabV,.slice a s.length c] W (Ret fun v w => v = .agg (bv (sha s)).toArray ∧ St W noF [] w) := by
 obtain ⟨m,hm⟩ : ∃ m,(Za3 s).length = 64 * m := ⟨(Za3 s).length / 64,by
  have := Zyg s.length
  rw [Ze5]; omega⟩
 rw [Z6d s m hm]
 exact Z6k a c s W hs hl m hm
theorem Zv8 (l : List (List UInt8)) : digest roundL firstL l = sha (Za1 l) := by
 unfold digest sha; rfl
end Cr
namespace Cr
open Go
set_option maxHeartbeats 64000000
theorem Sep.merge {r s t : Res} {rs : List Res} {h : Frag} (H : Sep (r :: s :: rs) h) (hm : ∀ h1 h3,r h1 → s h3 → (∀ k,h1 k = none ∨ h3 k = none) → t (fun k => (h1 k).or (h3 k))) : Sep (t :: rs) h := by
 obtain ⟨h1,h2,a,⟨h3,h4,b,c,d',u'⟩,d,u⟩ := H
 refine ⟨fun k => (h1 k).or (h3 k),h4,hm h1 h3 a b fun k => ?_,c,fun k => ?_,fun k => ?_⟩
 ·rcases d k with e | e
  ·exact .inl e
  ·rw [u'] at e; simp at e; exact .inr e.1
 ·rcases d k with e | e
  ·rcases d' k with e' | e'
   ·left; simp [e,e']
   ·exact .inr e'
  ·rw [u'] at e; simp at e; exact .inr e.2
 ·rw [u,u']; cases e1 : h1 k <;> simp [e1]
theorem St.merge {W : World} {F : Nat → Prop} {r s t : Res} {rs : List Res} {w : World} (hS : St W F (r :: s :: rs) w) (hm : ∀ h1 h3,r h1 → s h3 → (∀ k,h1 k = none ∨ h3 k = none) → t (fun k => (h1 k).or (h3 k))) : St W F (t :: rs) w :=
 hS.imp fun _ h => h.merge hm
abbrev RowD := Option Addr × List Value
def bag (X : List RowD) : Res := fun h => ∀ x ∈ X,∃ h',row x.1 x.2 h' ∧ ∀ b o,h' b = some o → h b = some o
theorem Ro.bag {W : World} {F : Nat → Prop} {X : List RowD} (H : Ro W F (Cr.bag X)) {x : RowD} (hx : x ∈ X) : Ro W F (row x.1 x.2) := H.mono fun _ hh => hh x hx
theorem Rd.bag {w : World} {X : List RowD} (H : Rd w (Cr.bag X)) {x : RowD} (hx : x ∈ X) : Rd w (row x.1 x.2) := H.mono fun _ hh => hh x hx
theorem Z5k (h : Frag) : bag [] h := fun x hx => by cases hx
section
variable {W : World} {F : Nat → Prop} {rs : List Res} {w : World}
theorem St.bagSub {X Y : List RowD} (hS : St W F (bag X :: rs) w) (h : ∀ x ∈ Y,x ∈ X) : St W F (bag Y :: rs) w := hS.head fun _ hg x hx => hg x (h x hx)
theorem St.bagNil (hS : St W F rs w) : St W F (bag [] :: rs) w := by
 obtain ⟨h,hs,s⟩ := hS
 exact ⟨h,⟨fun _ => none,h,Z5k _,hs,fun _ => .inl rfl,fun _ => by simp⟩,s⟩
theorem Zxo {h1 h3 : Frag} {b : Nat} {o : Obj} (e : h1 b = some o) : (h1 b).or (h3 b) = some o := by rw [e]; rfl
theorem Zti {h1 h3 : Frag} (d : ∀ k,h1 k = none ∨ h3 k = none) {b : Nat} {o : Obj} (e : h3 b = some o) : (h1 b).or (h3 b) = some o := by
 rcases d b with e' | e'
 ·rw [e',e]; rfl
 ·rw [e'] at e; cases e
theorem St.bagJoin {X Y : List RowD} (hS : St W F (bag X :: bag Y :: rs) w) : St W F (bag (X ++ Y) :: rs) w :=
 hS.merge fun h1 h3 a b d x hx => by
  rcases List.mem_append.1 hx with hx | hx
  ·obtain ⟨h',hr,hs⟩ := a x hx
   exact ⟨h',hr,fun b o e => Zxo (hs b o e)⟩
  ·obtain ⟨h',hr,hs⟩ := b x hx
   exact ⟨h',hr,fun b o e => Zti d (hs b o e)⟩
theorem St.toBag {r : Res} {a : Option Addr} {cs : List Value} (hS : St W F (r :: rs) w) (hr : ∀ h,r h → row a cs h) : St W F (bag [(a,cs)] :: rs) w :=
 hS.head fun h hg x hx => by
  rw [List.mem_singleton] at hx; subst hx
  exact ⟨h,hr h hg,fun _ _ e => e⟩
theorem St.bagAdd {r : Res} {a : Option Addr} {cs : List Value} {X : List RowD} (hS : St W F (r :: bag X :: rs) w) (hr : ∀ h,r h → row a cs h) : St W F (bag ((a,cs) :: X) :: rs) w :=
 (hS.toBag hr).bagJoin
theorem St.bagPart {X : List RowD} {a a' : Option Addr} {cs cs' : List Value} (hS : St W F (bag X :: rs) w) (hx : (a,cs) ∈ X) (hp : ∀ h,row a cs h → ∃ h',row a' cs' h' ∧ ∀ b o,h' b = some o → h b = some o) : St W F (bag ((a',cs') :: X) :: rs) w :=
 hS.head fun h hg x hx' => by
  rcases List.mem_cons.1 hx' with rfl | hx'
  ·obtain ⟨h1,hr,hs⟩ := hg _ hx
   obtain ⟨h2,hr2,hs2⟩ := hp h1 hr
   exact ⟨h2,hr2,fun b o e => hs b o (hs2 b o e)⟩
  ·exact hg x hx'
theorem own.shrink {T : TypeId} {e : Nat} {a : Option Addr} {c : Nat} {cs : List Value} (k : Nat) : ∀ h,own T e a c cs h → own T e a c (cs.take k) h := fun h H => by
 obtain ⟨hl,hm,H⟩ := H
 refine ⟨by rw [List.length_take]; omega,hm,H.imp id fun ⟨b,cells,ha,hh,hs,ht⟩ => ⟨b,cells,ha,hh,hs,?_⟩⟩
 rw [List.length_take,← List.take_take,ht]
end
end Cr
namespace Cr
open Go Go.Proofs
set_option maxRecDepth 100000
set_option maxHeartbeats 64000000
attribute [local irreducible] Calls

theorem Zyj (n : Nat) : Zli n = [b8 (ishr .i64 n 24),b8 (ishr .i64 n 16),b8 (ishr .i64 n 8),b8 n] := by
 have e : ishr .i64 (n : Int) 0 = n := by unfold ishr; simp
 show [Zhl n 0,Zhl n 1,Zhl n 2,Zhl n 3] = _
 unfold Zhl
 rw [show 8 * (3 - 3) = 0 from rfl,e]
theorem Z42 (a : Option Addr) (c : Nat) (l : List Bs) (W : World) (hB : Bss W noF a l) (hn : (Za1 (Zam l)).length ≤ 1099511627776) :
  Calls Tryz.prog 67 #[.slice a l.length c] W (Ret fun v w => ∃ p k,v = .slice p (Za1 (Zam l)).length k ∧ St W noF [bytes p (Za1 (Zam l))] w) := by
 have hS := St.start W
 have hll : l.length * 4 ≤ (Za1 (Zam l)).length := by
  clear hn hS hB
  induction l with
  | nil => simp
  | cons x l ih => simp only [Zam,Za1,List.map_cons,List.flatMap_cons,List.length_append,Za4,List.length_cons] at ih ⊢; omega
 refine Zab Tryz.func67 rfl Tryz.ntmps67 rfl ?_
 repeat (first|refine Yeg ?_|refine Yag ?_|refine Yej ?_|refine Yab ?_)
 refine Zaj (α := Nat × Option Addr × Nat) (fun z => [(0,.slice a l.length c),(3,.slice z.2.1 (Za1 ((Zam l).take z.1)).length z.2.2),(4,.int .i64 (z.1 : Nat))])
  (fun z w => z.1 ≤ l.length ∧ (Za1 ((Zam l).take z.1)).length ≤ z.2.2 ∧ St W noF [own 5 1 z.2.1 z.2.2 (bv (Za1 ((Zam l).take z.1)))] w) (fun z => l.length - z.1) (0,none,0) ⟨rfl,rfl,rfl,trivial⟩ ⟨Nat.zero_le _,Nat.le_refl _,hS.own_none _ _ _⟩ ?_
 clear hS
 rintro ⟨i,pa,pc⟩ w ⟨hi,hc,hS⟩
 simp only at hi hc hS ⊢
 have hle := Zdo (Zam l) i
 by_cases h1 : i < l.length
 ·have hx0 : l[i]? = some l[i] := List.getElem?_eq_getElem h1
  generalize l[i] = x at hx0
  have hxb := hB.all x (List.mem_of_getElem? hx0)
  have hj := Zhk (l := Zam l) (i := i) (x := x.s) (by simp [Zam,hx0])
  have hle1 := Zdo (Zam l) (i + 1)
  rw [hj,List.length_append,List.length_append,Za4] at hle1
  obtain ⟨F,hF⟩ : ∃ F,F = Za1 ((Zam l).take i) := ⟨_,rfl⟩
  rw [← hF] at hS hc hle hle1 hj ⊢
  have hr := hB.row
  have hx : (l.map Bs.val)[i]? = some (.slice x.a x.s.length x.c) := by simp [hx0,Bs.val]
  obtain ⟨ab,ao,rfl⟩ := (hr.rd hS).base (by intro e; rw [e] at hx; simp at hx)
  repeat (first|refine Yeg ?_|(refine X_id ?_;first|refine Yaf ?_|refine Yag ?_|refine Yau ?_|refine Ya1 ?_|refine Yba ?_|refine Ycp ?_|refine Ycj ?_|refine Yb1 ?_|refine Ybd (fun _ _ hS _ => ?_))|refine Yek ?_|refine Yab ?_)
  have hfb : [Value.int .u8 ((b8 (ishr .i64 (x.s.length : Int) 24)).toNat : Int),.int .u8 ((b8 (ishr .i64 (x.s.length : Int) 16)).toNat : Int),.int .u8 ((b8 (ishr .i64 (x.s.length : Int) 8)).toNat : Int),.int .u8 ((b8 (x.s.length : Int)).toNat : Int)] = bv (Zli x.s.length) := by rw [Zyj]; rfl
  refine Zap rfl rfl rfl rfl rfl hS (by simp) hc (hS.rd (List.mem_cons_self ..)).own_row rfl (fun u hu => by
   simp only [List.mem_cons,List.not_mem_nil,or_false] at hu
   rcases hu with rfl | rfl | rfl | rfl <;> rfl) (by omega) (by simp only [maxLen]; omega) (fun a1 c1 w hS hc1 _ => ?_)
  repeat (first|refine Yeg ?_|refine Yaf ?_|refine Yag ?_|refine Yba ?_|refine Yb1 ?_|refine Yad ?_|refine Yab ?_)
  refine Zap rfl rfl rfl rfl rfl hS (by simp) hc1 (hxb.rd hS) (by simp) Zc6 (by omega) (by simp only [maxLen]; omega) (fun a2 c2 w hS hc2 _ => ?_)
  repeat (first|refine Yeg ?_|refine Yew ?_|refine Yad ?_|refine Yeo ?_)
  refine Zaf (z := (i,pa,pc)) (i + 1,a2,c2) ⟨rfl,?_,rfl,trivial⟩ ⟨h1,?_,?_⟩ (by simp only; omega)
  ·show some _ = some _
   rw [hj,List.length_append,List.length_append,Za4,Nat.add_assoc]
  ·simp only; rw [hj,List.length_append,List.length_append,Za4]; omega
  ·simp only
   rw [hj,Zcc,Zcc,← hfb,← List.append_assoc]
   exact hS.pick [0]
 ·obtain rfl : i = l.length := by omega
  repeat (first|refine Yeg ?_|refine Yaf ?_|refine Yag ?_|refine Yau ?_|refine Yaz ?_|refine Yep ?_|refine Yfc ?_)
  have e : (Zam l).take l.length = Zam l := by rw [show l.length = (Zam l).length by simp [Zam],List.take_length]
  rw [e] at hS ⊢
  exact ⟨pa,pc,rfl,hS.head fun _ h => h.row⟩
def Zb0 (rd fs : List Int) (l : List UInt8) : List UInt8 := (StrM.init.more rd fs l).sum rd fs
theorem Zbq (rd fs : List Int) (l : List UInt8) : (Zb0 rd fs l).length = 32 := by unfold Zb0 StrM.sum; exact Zc8 _
attribute [irreducible] Zb0
theorem dof_ (a : Option Addr) (c : Nat) (l : List Bs) (rd fs : List Int) (W : World) (hn : (Zal l).length < 1152921504606846976) (hl : l.length < 2305843009213693951) (hG : Gl W noF rd fs) (hB : Bss W noF a l) :
  Calls Tryz.prog 64 #[.slice a l.length c] W (Ret fun v w => v = .agg (bv (Zb0 rd fs (Zal l))).toArray ∧ St W noF [] w) := by
 have hS := St.start W
 have hf := hG.first8
 refine Zab Tryz.func64 rfl Tryz.ntmps64 rfl ?_
 repeat (first|refine Yeg ?_|refine Yaf ?_|refine Ybn ?_|refine Ya7 (fun _ _ hS _ => ?_)|refine Yar (fun _ _ hS _ => ?_)|refine Yeh ?_|refine Yab ?_)
 rename_i b2 _ _ _ p wp _
 rw [Zf2] at hS
 replace hS : St W noF [pts p (.cells StrM.init.cells.toArray 236),pts b2 (.cells (bv (List.replicate 32 0)).toArray 56)] wp := hS
 obtain ⟨_,hc,hr,hw,hbk⟩ := hS.call [true,false]
 have hBs : Bss wp _ a l := ⟨hw _ hB.row,fun y hy => hw _ (hB.all y hy)⟩
 refine Zaa _ rfl rfl rfl rfl rfl (Zyv p StrM.init _ _ _ rd fs _ _ _ StrM.init_ok (by simp [StrM.init]; omega) hl (hG.mono hw) hBs hc) ?_
 rintro _ w ⟨rfl,hS⟩
 replace hS := hbk hS
 clear hc hr hw hbk hBs
 have hlen32 : LenO (bv ((StrM.init.more rd fs (Zal l)).sum rd fs)) 32 := ⟨by rw [Zag]; exact Zc8 _⟩
 have hok' : (StrM.init.more rd fs (Zal l)).ok := StrM.more_ok hf StrM.init_ok
 have hn' : (StrM.init.more rd fs (Zal l)).n < 1152921504606846976 := by rw [StrM.more_n]; simp [StrM.init]; omega
 repeat (first|refine Yeg ?_|(refine X_id ?_;first|(refine Zad 113 rfl rfl rfl rfl rfl hS (sum_ p (StrM.init.more rd fs (Zal l)) rd fs 236 _ hok' hn' (hG.mono fun r hr => (hr.rd hS).ro) (hS.rd (List.mem_cons_self ..))) ?_;rintro _ _ rfl hS)|refine Yb6 (fun _ hS => ?_))|refine Yah ?_|refine Yab ?_|refine Ybv ?_)
 refine ⟨?_,hS.drops⟩
 unfold Zb0
 rfl
end Cr
namespace Cr
open Go
set_option maxHeartbeats 64000000
section
variable {P : Program} {o : Oper} {σ : Env} {w : World} {N : Nat} {ds : Md} {K : Env → World → Prop}
variable {x : Operand} {t e : TypeId}
theorem Zcw {b n c c' d : Nat} {T : TypeId} {cs : List Value} {W : World} {F : Nat → Prop} {rs rest : List Res} (ho : o.op = .convert t t x) (hx : ev σ x = some (.slice (some ⟨b,0,none⟩) n c)) [hu : Und P t (.slice e)] [he : Und P e (.int .u8)]
  (hd : o.dst = some d) (hN : Nat.blt d N = true) (hS : St W F rs w) [hh : HasOwn rs (some ⟨b,0,none⟩) T 1 c' cs rest] (hpos : 0 < cs.length)
  (hk : ∀ w',St W F (row (some ⟨b,0,none⟩) cs :: rest) w' → K ((d,.slice (some ⟨b,0,none⟩) n c) :: σ) w') : X P o N ds σ w K := ⟨fun f ha K' Q' hK => by
 obtain ⟨g,⟨g1,g2,hown,hrest,hdj,hun⟩,s⟩ := hS.perm hh.has
 obtain ⟨hle,hcm,⟨rfl,_⟩ | ⟨b',cells,hbe,rfl,hcz,ht⟩⟩ := hown
 ·rw [Nat.zero_mul] at hle; omega
 ·obtain rfl : b = b' := by simpa using hbe
  have hb : w.heap[b]? = some (.cells cells T (0,0)) := s.agrees b _ (by rw [hun,Zar]; rfl)
  have hS2 : St W F (pts b (.cells cells T (0,0)) :: rest) w := ⟨g,⟨_,g2,rfl,hrest,hdj,hun⟩,s⟩
  have hlt := Zb9 hb
  have hgb : w.heap[b] = .cells cells T (0,0) := (Array.getElem?_eq_some_iff.1 hb).2
  have u : SetBlock w (w.freeze ⟨b,cells.size,none⟩ 1) b (.cells cells T (cells.size,cells.size + 1)) := by
   unfold World.freeze
   rw [if_neg (by omega)]
   refine ⟨by simp,?_,fun k hk => ?_,rfl,rfl,rfl⟩
   ·rw [Array.getElem?_modify,if_pos rfl,hb]; rfl
   ·rw [Array.getElem?_modify,if_neg (Ne.symm hk)]
  have hexec : (execOp f.eval o).run P w = .ok (.value (.slice (some ⟨b,0,none⟩) n c)) (w.freeze ⟨b,cells.size,none⟩ 1) := by
   have hsh : (shape b).run P w = .ok (some (T,cells.size)) w := by simp [shape,Sem.run,World.shape?,hb]
   have hms : (markStringish ⟨b,0,none⟩).run P w = .ok () (w.freeze ⟨b,cells.size,none⟩ 1) := by
    unfold markStringish
    rw [Sem.run_bind,hsh]
    rfl
   simp [execOp,ho,ha.eval hx,convert,run_underlying hu.und,run_underlying he.und,hms,Result.andThen]
  unfold Oper.wp
  rw [hexec]
  have := hK _ _ _ (ha.put (Zaq hN) (.slice (some ⟨b,0,none⟩) n c)) (hk _ ((hS2.set u).head fun h hh => .inr ⟨b,0,cells,T,_,rfl,hh,fun i v hv => by
   rw [← ht,List.getElem?_take] at hv
   split at hv
   ·simpa using hv
   ·cases hv⟩))
  rw [← hd] at this
  exact this⟩
end
end Cr
namespace Cr
open Go
set_option maxRecDepth 10000
set_option maxHeartbeats 64000000
section
variable {P : Program} {w : World} {t e : TypeId}
theorem Zga (d n : Nat) [h : Und P t (.array n e)] [he : Und P e (.int .u8)] [hs : Siz P e 1] [h1 : One P e] (a b : List UInt8) (ha : a.length = n) (hb : b.length = n) :
  (Op.equalIn (d + 2) t (.agg (bv a).toArray) (.agg (bv b).toArray)).run P w = .ok (decide (a = b)) w := by
 unfold Op.equalIn
 simp only [Sem.run_bind,run_underlying h.und,Result.andThen_ok,Zbn (n := 1),Nat.mul_one]
 simp only [Std.Legacy.Range.forIn_eq_forIn_range']
 have hp : ∀ (l : List UInt8) (i : Nat) (hi : i < l.length),(part e (bv l).toArray i).run P w = .ok (.int .u8 (l[i].toNat : Int)) w := fun l i hi => by
  have := Zy3 hi
  simp [part,h1.one,List.getElem?_toArray,this]
 have key : ∀ m s,s + m = n → (forIn (List.range' s m) (none,()) (fun i (__s : Option Bool × Unit) => do
   let __do_lift ← part e (bv a).toArray i
   let __do_lift_1 ← part e (bv b).toArray i
   let __do_lift ← Op.equalIn (d + 1) e __do_lift __do_lift_1
   if (!__do_lift) = true then pure (ForInStep.done (some false,())) else pure (ForInStep.yield (none,()))) : Sem (Option Bool × Unit)).run P w = .ok (if a.drop s = b.drop s then none else some false,()) w := by
  intro m
  induction m with
  | zero =>
   intro s hs
   rw [List.drop_of_length_le (by omega),List.drop_of_length_le (by omega)]
   simp
  | succ m ih =>
   intro s hs
   have hsa : s < a.length := by omega
   have hsb : s < b.length := by omega
   rw [List.range'_succ,List.forIn_cons]
   simp only [Sem.run_bind,hp a s hsa,hp b s hsb,Result.andThen_ok,run_equalIn_int w d e .u8 .u8 _ _ he.und]
   rw [List.drop_eq_getElem_cons hsa,List.drop_eq_getElem_cons hsb]
   by_cases hc : a[s] = b[s]
   ·have e1 : ((a[s].toNat : Int) == (b[s].toNat : Int)) = true := by rw [hc]; simp
    rw [e1]
    simp only [Bool.not_true,Bool.false_eq_true,if_false,Sem.run_pure,Result.andThen_ok]
    rw [ih (s + 1) (by omega),hc]
    simp only [List.cons.injEq,true_and]
   ·have e1 : ((a[s].toNat : Int) == (b[s].toNat : Int)) = false := by
     simp only [beq_eq_false_iff_ne,ne_eq]
     intro h
     exact hc (UInt8.toNat_inj.1 (by omega))
    rw [e1]
    simp only [Bool.not_false,if_true,Sem.run_pure,Result.andThen_ok]
    rw [if_neg (fun h => hc (List.cons.inj h).1)]
 have hz : [:n].size = n := by simp [Std.Legacy.Range.size]
 rw [hz,key n 0 (by omega)]
 by_cases hab : a = b <;> simp [hab]
end
section
variable {P : Program} {o : Oper} {σ : Env} {w : World} {x y : Operand} {t ty e : TypeId}
class NoGuard (P : Program) (t : TypeId) : Prop where
 no : P.eqGuardType P.depth t = false
theorem Zfl {n : Nat} {a b : List UInt8} (ho : o.op = .binOp .neq t x y ty) (hx : ev σ x = some (.agg (bv a).toArray)) (hy : ev σ y = some (.agg (bv b).toArray)) [h : Und P t (.array n e)] [he : Und P e (.int .u8)] [hs : Siz P e 1] [h1 : One P e] [hg : NoGuard P t] (ha : a.length = n) (hb : b.length = n) :
  Yl P o σ w (.bool (decide (¬ a = b))) := ⟨fun N ds f hf => by
 have h2 := run_eqGuard_agg (P := P) (w := w) .neq t x y (bv a).toArray (bv b).toArray hg.no
 have h3 := run_neq_struct (P := P) (w := w) t (bv a).toArray (bv b).toArray
 have h4 := Zga (P := P) (w := w) (t := t) (e := e) 9998 n a b ha hb
 have e1 : (!(decide (a = b))) = decide (¬ a = b) := by by_cases q : a = b <;> simp [q]
 simp only [execOp,ho,hf.eval hx,hf.eval hy,Sem.run_bind,h2,h3,h4,Result.andThen_ok,e1]
 rfl⟩
theorem Zzh {n : Nat} {a b : List UInt8} (ho : o.op = .binOp .eql t x y ty) (hx : ev σ x = some (.agg (bv a).toArray)) (hy : ev σ y = some (.agg (bv b).toArray)) [h : Und P t (.array n e)] [he : Und P e (.int .u8)] [hs : Siz P e 1] [h1 : One P e] [hg : NoGuard P t] (ha : a.length = n) (hb : b.length = n) :
  Yl P o σ w (.bool (decide (a = b))) := ⟨fun N ds f hf => by
 have h2 := run_eqGuard_agg (P := P) (w := w) .eql t x y (bv a).toArray (bv b).toArray hg.no
 have h3 := run_eql_struct (P := P) (w := w) t (bv a).toArray (bv b).toArray
 have h4 := Zga (P := P) (w := w) (t := t) (e := e) 9998 n a b ha hb
 simp only [execOp,ho,hf.eval hx,hf.eval hy,Sem.run_bind,h2,h3,h4,Result.andThen_ok]
 rfl⟩
end
end Cr
namespace Cr
open Go Go.Proofs
set_option maxRecDepth 100000
set_option maxHeartbeats 64000000
attribute [local irreducible] Calls

def Zcb : List UInt8 := [99,104,97,105,110]
theorem Z2g (rd fs : List Int) (W : World) (hG : Gl W noF rd fs) : Calls Tryz.prog 21 #[] W (Ret fun v w => v = .agg (bv (Zb0 rd fs Zcb)).toArray ∧ St W noF [] w) := by
 have hS := St.start W
 have hcl : bv Zcb = [.int .u8 99,.int .u8 104,.int .u8 97,.int .u8 105,.int .u8 110] := rfl
 refine Zab Tryz.func21 rfl Tryz.ntmps21 rfl ?_
 repeat (first|refine Yeg ?_|refine Yar (fun _ _ hS _ => ?_)|refine Ybd (fun _ _ hS _ => ?_)|refine Yeh ?_|refine Yab ?_)
 rename_i b0 _ _
 refine Zcw rfl rfl rfl rfl hS (by simp) (fun w hS => ?_)
 repeat (first|refine Yaa ?_|refine Ybd (fun _ _ hS _ => ?_))
 rename_i b1 w1 _
 have hB : Bss w1 noF (some ⟨b1,0,none⟩) [⟨some ⟨b0,0,none⟩,5,Zcb⟩] := ⟨(show Rd w1 (row (some ⟨b1,0,none⟩) _) by simpa [Bs.val,Zcb] using hS.ownRd (a := some ⟨b1,0,none⟩)).ro,fun x hx => by
  rw [List.mem_singleton] at hx
  subst hx
  exact (hS.rd (r := bytes (some ⟨b0,0,none⟩) Zcb) (by simp [bytes,← hcl])).ro⟩
 have hl32 : LenO (bv (Zb0 rd fs (Zal [⟨some ⟨b0,0,none⟩,5,Zcb⟩]))) 32 := ⟨by rw [Zag]; exact Zbq _ _ _⟩
 refine Zad _ rfl rfl rfl rfl rfl hS (dof_ _ 1 _ rd fs _ (by simp [Zal,Zcb]) (by simp) (hG.mono fun r hr => (hr.rd hS).ro) hB) ?_
 rintro _ w rfl hS
 clear hB
 repeat (first|refine Yeg ?_|refine Yao (fun _ hS _ => ?_)|refine Yah ?_|refine Yab ?_|refine Ybv ?_)
 exact ⟨by rw [show Zal [⟨some ⟨b0,0,none⟩,5,Zcb⟩] = Zcb by simp [Zal]],hS.drops⟩
theorem Zfu {w : World} {b : Nat} {t : TypeId} {s : List UInt8} (h : Rd w (pts b (.cells (bv s).toArray t (0,0)))) : Rd w (bytes (some ⟨b,0,none⟩) s) :=
 let ⟨g,hg,ha⟩ := h
 ⟨g,.inr ⟨b,0,(bv s).toArray,t,_,rfl,hg,fun i v hv => by simpa using hv⟩,ha⟩
def mkAt (no : Int) (i : Nat) : UInt8 := b8 (ishr .u64 (IntKind.u64.wrap no) (8 * i))
def mkTo (no : Int) : Nat → List UInt8
 | 0 => List.replicate 8 0
 | i + 1 => (mkTo no i).set (7 - i) (mkAt no i)
theorem Zhg (no : Int) : ∀ i,(mkTo no i).length = 8
 | 0 => by simp [mkTo]
 | i + 1 => by simp [mkTo,Zhg no i]
def be8 (no : Int) : List UInt8 := mkTo no 8
theorem Zwi (no : Int) : (be8 no).length = 8 := Zhg no 8
attribute [irreducible] be8
theorem Zvs (ah : List UInt8) (no : Int) (a : Option Addr) (c : Nat) (b : List UInt8) (rd fs : List Int) (W : World) (hah : ah.length = 32) (hG : Gl W noF rd fs) (hb : Ro W noF (bytes a b)) (hbl : b.length < 1000000000) :
  Calls Tryz.prog 26 #[.agg (bv ah).toArray,.int .i64 no,.slice a b.length c] W (Ret fun v w => v = .agg (bv (digest rd fs [ah,be8 no,b])).toArray ∧ St W noF [] w) := by
 have hS := St.start W
 have ha32 : LenO (bv ah) 32 := ⟨by rw [Zag]; exact hah⟩
 refine Zab Tryz.func26 rfl Tryz.ntmps26 rfl ?_
 repeat (first|refine Yeg ?_|refine Ya7 (fun _ _ hS _ => ?_)|refine Yar (fun _ _ hS _ => ?_)|refine Yeh ?_|refine Yab ?_)
 rename_i b3 _ _ _ b6 _ _
 refine Zo3 (c := 8) rfl rfl rfl (by omega) (by omega) rfl rfl hS (fun p w hS => ?_)
 repeat (first|refine Yeg ?_|refine Yfh ?_|refine Yej ?_|refine Yab ?_)
 refine Zaj (α := Nat) (fun i => [(1,.int .i64 no),(2,.slice a b.length c),(3,.pointer (some ⟨b3,0,none⟩)),(6,.pointer (some ⟨b6,0,none⟩)),(7,.slice (some ⟨p,0,none⟩) 8 8),(11,.int .i64 8),(12,.int .i64 (i : Nat))])
  (fun i w => i ≤ 8 ∧ St W noF [pts p (.cells (bv (mkTo no i)).toArray 5),pts b6 (.cells (List.replicate 32 (Value.int .u8 0)).toArray 56),pts b3 (.cells (bv ah).toArray 56)] w) (fun i => 8 - i) 0 ⟨rfl,rfl,rfl,rfl,rfl,rfl,rfl,trivial⟩ ⟨Nat.zero_le _,hS⟩ ?_
 clear hS
 rintro i w ⟨hi,hS⟩
 obtain ⟨L,hLe⟩ : ∃ L,L = mkTo no i := ⟨_,rfl⟩
 have hL : L.length = 8 := by rw [hLe]; exact Zhg no i
 rw [← hLe] at hS
 by_cases hlt : i < 8
 ·repeat (first|refine Yeg ?_|(refine X_id ?_;first|refine Yaf ?_|refine Yag ?_|refine Ya1 ?_|refine Yba ?_|refine Yay ?_|refine Ybw ?_|refine Yb8 ?_|refine Ycp ?_|refine Ydc ?_|refine Ycj ?_|refine Zl2 rfl rfl rfl rfl hS (by omega) (fun _ hS => ?_))|refine Yek ?_|refine Yeo ?_)
  refine Zaf (i + 1) ⟨rfl,rfl,rfl,rfl,rfl,rfl,rfl,trivial⟩ ⟨by omega,?_⟩ (by omega)
  simp only [mkTo,mkAt]
  rw [← hLe]
  rw [show 0 + (7 - (i : Int)).toNat * 1 = 7 - i by omega,show (8 * (i : Int)).toNat = 8 * i by omega] at hS
  exact hS
 ·obtain rfl : i = 8 := by omega
  repeat (first|refine Yeg ?_|refine Yaf ?_|refine Yaz ?_|refine Ydh ?_|refine Ybd (fun _ _ hS _ => ?_)|refine Yet ?_|refine Yem ?_)
  rename_i s3 w1 _
  have e32 : ((ah.length : Nat) : Int) = 32 := by omega
  have hB : Bss w1 noF (some ⟨s3,0,none⟩) [⟨some ⟨b3,0,none⟩,32,ah⟩,⟨some ⟨p,0,none⟩,8,L⟩,⟨a,c,b⟩] := ⟨(show Rd w1 (row (some ⟨s3,0,none⟩) _) by simpa [Bs.val,hah,hL] using hS.ownRd (a := some ⟨s3,0,none⟩)).ro,fun x hx => by
   simp only [List.mem_cons,List.not_mem_nil,or_false] at hx
   rcases hx with rfl | rfl | rfl
   ·exact (Zfu (hS.rd (r := pts b3 (.cells (bv ah).toArray 56)) (by simp))).ro
   ·exact (Zfu (hS.rd (r := pts p (.cells (bv L).toArray 5)) (by simp))).ro
   ·exact (hb.rd hS).ro⟩
  have hn : (Za1 (Zam [⟨some ⟨b3,0,none⟩,32,ah⟩,⟨some ⟨p,0,none⟩,8,L⟩,⟨a,c,b⟩])).length < 1152921504606846976 := by
   simp [Zam,Za1,Za4,hah,hL]; omega
  have hl32 : LenO (bv (digest rd fs (Zam [⟨some ⟨b3,0,none⟩,32,ah⟩,⟨some ⟨p,0,none⟩,8,L⟩,⟨a,c,b⟩]))) 32 := ⟨by rw [Zag]; exact Zao _ _ _⟩
  refine Zad _ rfl rfl rfl rfl rfl hS (Zom _ 3 _ rd fs _ hn (by simp) (hG.mono fun r hr => (hr.rd hS).ro) hB) ?_
  rintro _ w rfl hS
  clear hB
  repeat (first|refine Yeg ?_|refine Yao (fun _ hS _ => ?_)|refine Yah ?_|refine Yab ?_|refine Ybv ?_)
  refine ⟨?_,hS.drops⟩
  unfold be8
  rw [← hLe]
  rfl
theorem Qbc (x : Int) : ishr .i64 x 8 = x / 256 := by
 unfold ishr
 rw [show min 8 IntKind.i64.bits = 8 from rfl,Int.fdiv_eq_ediv_of_nonneg _ (by decide)]
 rfl
theorem Qbb (x : Int) (k : Nat) (hk : k ≤ 64) : ishr .u64 x k = x / 2 ^ k := by
 unfold ishr
 rw [show IntKind.u64.bits = 64 from rfl,Nat.min_eq_left hk,Int.fdiv_eq_ediv_of_nonneg _ (Int.le_of_lt (Int.pow_pos (by omega)))]
theorem Z4y (x : Int) : iand .i64 x 255 = x % 256 := by
 unfold iand
 have e : (BitVec.ofInt 64 x &&& BitVec.ofInt 64 255).toNat = (x % 256).toNat := by
  rw [BitVec.toNat_and,show (BitVec.ofInt 64 255).toNat = 2 ^ 8 - 1 from rfl,Nat.and_two_pow_sub_one_eq_mod,BitVec.toNat_ofInt]
  omega
 rw [show IntKind.i64.bits = 64 from rfl,e,IntKind.wrap_i64]
 omega
theorem Zy7 (x : Int) : b8 (x % 256) = b8 x := by unfold b8; rw [Int.emod_emod_of_dvd _ (by decide)]
def Zoa (no : Int) : Nat → Int
 | 0 => no
 | j + 1 => Zoa no j / 256
def rbT (no : Int) (c : Nat) : Nat → List UInt8
 | 0 => List.replicate c 0
 | j + 1 => (rbT no c j).set (c - 1 - j) (b8 (Zoa no j))
theorem Zmu (no : Int) (c : Nat) : ∀ j,(rbT no c j).length = c
 | 0 => by simp [rbT]
 | j + 1 => by simp [rbT,Zmu no c j]
theorem Z0x (no : Int) {j : Nat} (hj : j < 8) : b8 (Zoa no j) = mkAt no j := by
 have h : mkAt no j = b8 ((no % 18446744073709551616) / 2 ^ (8 * j)) := by
  unfold mkAt
  rw [Qbb _ _ (by omega)]
  rfl
 rw [h,← Zy7 (Zoa no j),← Zy7 (_ / _)]
 congr 1
 rcases j with _ | _ | _ | _ | _ | _ | _ | _ | j
 all_goals first | omega | (simp only [Zoa,Nat.reduceMul,Nat.reduceAdd,Int.reducePow]; omega)
theorem Z2o (no : Int) : ∀ j,j ≤ 8 → rbT no 8 j = mkTo no j
 | 0,_ => rfl
 | j + 1,h => by rw [rbT,mkTo,Z2o no j (by omega),Z0x no (by omega)]
theorem Z5i (no : Int) : rbT no 8 8 = be8 no := by unfold be8; exact Z2o no 8 (Nat.le_refl _)
theorem Z6s (no : Int) (c : Nat) (W : World) (hc : c ≤ 8) :
  Calls Tryz.prog 68 #[.int .i64 no,.int .i64 (c : Nat)] W (Ret fun v w => ∃ p,v = .slice (some ⟨p,0,none⟩) c c ∧ St W noF [pts p (.cells (bv (rbT no c c)).toArray 5)] w) := by
 have hS := St.start W
 refine Zab Tryz.func68 rfl Tryz.ntmps68 rfl ?_
 repeat (first|refine Yeg ?_|refine Yaf ?_|refine Yag ?_|refine Ybw ?_|refine Yd3 (fun _ _ hS => ?_)|refine Yej ?_|refine Yab ?_)
 rename_i p _
 refine Zaj (α := Nat) (fun j => [(0,.int .i64 (Zoa no j)),(5,.slice (some ⟨p,0,none⟩) c c),(6,.int .i64 ((c : Int) - 1 - (j : Int)))])
  (fun j w => j ≤ c ∧ St W noF [pts p (.cells (bv (rbT no c j)).toArray 5)] w) (fun j => c - j) 0 ⟨rfl,rfl,by show some _ = some _; simp,trivial⟩ ⟨Nat.zero_le _,hS⟩ ?_
 clear hS
 rintro j w ⟨hj,hS⟩
 obtain ⟨m,hm⟩ : ∃ m,m = Zoa no j := ⟨_,rfl⟩
 have hlen := Zmu no c j
 obtain ⟨L,hL⟩ : ∃ L,L = rbT no c j := ⟨_,rfl⟩
 rw [← hL] at hS hlen
 rw [← hm]
 by_cases h1 : j < c
 ·repeat (first|refine Yeg ?_|(refine X_id ?_;first|refine Yaf ?_|refine Yag ?_|refine Yb2 ?_|refine Yba ?_|refine Ybw ?_|refine Ycp ?_|refine X_yl (Zrd rfl rfl rfl) rfl rfl ?_|refine Ycj ?_|refine Zl2 rfl rfl rfl rfl hS (by omega) (fun _ hS => ?_))|refine Yek ?_|refine Yeo ?_)
  rw [Z4y,Zy7,show 0 + ((c : Int) - 1 - (j : Int)).toNat * 1 = c - 1 - j by omega] at hS
  refine Zaf (j + 1) ⟨?_,rfl,?_,trivial⟩ ⟨by omega,?_⟩ (by omega)
  ·show some _ = some _
   rw [show Zoa no (j + 1) = m / 256 by rw [Zoa,hm],← Qbc]; rfl
  ·show some _ = some _
   congr 2; omega
  ·rw [rbT,← hL,← hm]; exact hS
 ·obtain rfl : j = c := by omega
  repeat (first|refine Yeg ?_|refine Yaf ?_|refine Yag ?_|refine Yb4 ?_|refine Yep ?_|refine Yfc ?_)
  exact ⟨p,rfl,by rw [← hL]; exact hS⟩
theorem Z32 (W : World) : Calls Tryz.prog 19 #[tabV] W (Ret fun v w => v = .agg (bv (Zb0 roundL firstL Zcb)).toArray ∧ St W noF [] w) := by
 have hS := St.start W
 have hl72 : LenO (ints .i64 (Zc7 310)) 72 := ⟨by rw [ints_length]; exact Zbw 310⟩
 have hcl : bv Zcb = [.int .u8 99,.int .u8 104,.int .u8 97,.int .u8 105,.int .u8 110] := rfl
 have hl32 : LenO (bv (sha Zcb)) 32 := ⟨by rw [Zag]; exact Zmr _⟩
 have hd : Zb0 roundL firstL Zcb = sha Zcb := by unfold Zb0 sha; rfl
 rw [hd]
 refine Zab Tryz.func19 rfl Tryz.ntmps19 rfl ?_
 repeat (first|refine Yeg ?_|refine Ybf ?_|refine Ya7 (fun _ _ hS _ => ?_)|refine Yar (fun _ _ hS _ => ?_)|refine Ybd (fun _ _ hS _ => ?_)|refine Yeh ?_|refine Yab ?_)
 refine Zcw rfl rfl rfl rfl hS (by simp) (fun w hS => ?_)
 rw [← hcl] at hS
 repeat (first|refine Yaa ?_)
 refine Zaa _ rfl rfl rfl rfl rfl (Z6j _ 5 Zcb _ (hS.rd (List.mem_cons_self ..)) (by decide)) ?_
 rintro _ w ⟨rfl,hS'⟩
 replace hS := hS.plus hS'
 clear hS'
 repeat (first|refine Yeg ?_|refine Yao (fun _ hS _ => ?_)|refine Yah ?_|refine Yab ?_|refine Ybv ?_)
 exact ⟨rfl,hS.drops⟩
theorem Z2m (ah : List UInt8) (no : Int) (a : Option Addr) (c : Nat) (b : List UInt8) (W : World) (hah : ah.length = 32) (hb : Ro W noF (bytes a b)) (hbl : b.length < 1000000000) :
  Calls Tryz.prog 24 #[tabV,.agg (bv ah).toArray,.int .i64 no,.slice a b.length c] W (Ret fun v w => v = .agg (bv (digest roundL firstL [ah,be8 no,b])).toArray ∧ St W noF [] w) := by
 have hS := St.start W
 have ha32 : LenO (bv ah) 32 := ⟨by rw [Zag]; exact hah⟩
 have hl72 : LenO (ints .i64 (Zc7 310)) 72 := ⟨by rw [ints_length]; exact Zbw 310⟩
 have hl32 : LenO (bv (sha (Za1 [ah,be8 no,b]))) 32 := ⟨by rw [Zag]; exact Zmr _⟩
 rw [Zv8]
 refine Zab Tryz.func24 rfl Tryz.ntmps24 rfl ?_
 repeat (first|refine Yeg ?_|refine Ya7 (fun _ _ hS _ => ?_)|refine Yar (fun _ _ hS _ => ?_)|refine Yeh ?_|refine Yab ?_)
 rename_i b4 _ _ _ b5 _ _ _ b8 _ _
 refine Zan (.s 0 (.s 1 (.s 2 (.s 4 (.h 3 (.h 5 (.h 6 (.h 7 (.h 8 .nil .no) .no) .no) .no) .no))))) mixed (by kernel_rfl) rfl ?_
 have hS := hS.drew
 repeat (first|(refine Zae ?_;first|refine Ya0 ?_|refine Yc5 ?_|refine Ybx ?_|refine Yas ?_))
 refine Zaa _ rfl rfl rfl rfl rfl (Z6s no 8 _ (by omega)) ?_
 rintro _ w ⟨p,rfl,hS'⟩
 replace hS := hS.plus hS'
 clear hS'
 rw [Z5i] at hS
 repeat (first|refine Ybd (fun _ _ hS _ => ?_)|(refine Zae ?_;first|refine Yas ?_)|(refine Zac ?_;first|refine Yax ?_))
 rename_i q _ _
 have h8 := Zwi no
 have hB : Bss _ noF (some ⟨q,0,none⟩) [⟨some ⟨b5,0,none⟩,32,ah⟩,⟨some ⟨p,0,none⟩,8,be8 no⟩,⟨a,c,b⟩] := ⟨(show Rd _ (row (some ⟨q,0,none⟩) _) by simpa [Bs.val,hah,h8] using hS.ownRd (a := some ⟨q,0,none⟩)).ro,fun x hx => by
  simp only [List.mem_cons,List.not_mem_nil,or_false] at hx
  rcases hx with rfl | rfl | rfl
  ·exact (Zfu (hS.rd (r := pts b5 (.cells (bv ah).toArray 56)) (by simp))).ro
  ·exact (Zfu (hS.rd (r := pts p (.cells (bv (be8 no)).toArray 5)) (by simp))).ro
  ·exact (hb.rd hS).ro⟩
 have hfl : (Za1 [ah,be8 no,b]).length ≤ 1099511627776 := by simp [Za1,Za4,hah,h8]; omega
 refine Zaa _ rfl rfl rfl rfl rfl (Z42 (some ⟨q,0,none⟩) 3 [⟨some ⟨b5,0,none⟩,32,ah⟩,⟨some ⟨p,0,none⟩,8,be8 no⟩,⟨a,c,b⟩] _ hB hfl) ?_
 rintro _ w ⟨g,k,rfl,hS'⟩
 replace hS := hS.plus hS'
 clear hS' hB
 rw [show Zam [(⟨some ⟨b5,0,none⟩,32,ah⟩ : Bs),⟨some ⟨p,0,none⟩,8,be8 no⟩,⟨a,c,b⟩] = [ah,be8 no,b] from rfl] at *
 repeat (first|(refine Zae ?_;first|refine Yas ?_)|(refine Zac ?_;first|refine Yax ?_))
 refine Zaa _ rfl rfl rfl rfl rfl (Z6j g k (Za1 [ah,be8 no,b]) _ (hS.rd (List.mem_cons_self ..)) hfl) ?_
 rintro _ w ⟨rfl,hS'⟩
 replace hS := hS.plus hS'
 clear hS'
 repeat (first|refine Yao (fun _ hS _ => ?_)|refine Yah ?_|refine Yab ?_|refine Ybv ?_|(refine Zae ?_;first|refine Yaw ?_|refine Yas ?_)|(refine Zac ?_;first|refine Yax ?_))
 exact ⟨rfl,hS.drops⟩
end Cr
namespace Cr
open Go Go.Proofs
set_option maxRecDepth 10000
set_option maxHeartbeats 64000000
theorem Z1l {n : Nat} (k : Nat) (hk : k ≤ 64) : ishr .u64 (n : Int) k = ((n / 2 ^ k : Nat) : Int) := by
 unfold ishr
 rw [show IntKind.u64.bits = 64 from rfl,Nat.min_eq_left hk,Int.fdiv_eq_ediv_of_nonneg _ (Int.le_of_lt (Int.pow_pos (by omega)))]
 simp
theorem Zqy (n : Int) (c i : Nat) (hi : i < c) : ∀ j,j ≤ c → (Zly n c j).getD i 0 = if i < j then Z15 n c i else 0
 | 0,_ => by simp [Zly,List.getD_eq_getElem?_getD,hi]
 | j + 1,hj => by
  have ih := Zqy n c i hi j (by omega)
  rw [Zly,List.getD_eq_getElem?_getD,List.getElem?_set]
  by_cases h : j = i
  ·rw [if_pos h,if_pos (by rw [Zez]; omega),if_pos (by omega),h]; rfl
  ·rw [if_neg h,← List.getD_eq_getElem?_getD,ih]
   by_cases h2 : i < j
   ·rw [if_pos h2,if_pos (by omega)]
   ·rw [if_neg h2,if_neg (by omega)]
theorem Z1u {l : List UInt8} (h : l.length ≤ 64) : Zdb l = l ++ List.replicate (64 - l.length) 0 := by
 unfold Zdb
 rw [List.take_append,List.take_of_length_le h,List.take_replicate,show min (64 - l.length) 64 = 64 - l.length by omega]
end Cr
namespace Cr
open Go
set_option maxHeartbeats 64000000
theorem Rd.cellsX {w : World} {a : Option Addr} {cs seg : List Value} {i' i n : Nat} (H : Rd w (Cr.row a cs)) (hi : i' = i) (h : (cs.drop i).take n = seg) (hn : seg.length = n) : Zes w (adr a i') n seg := by
 subst hi; subst h
 exact ⟨H.seg _ _,hn⟩
end Cr
namespace Cr
open Go Go.Proofs
set_option maxRecDepth 100000
set_option maxHeartbeats 64000000
attribute [local irreducible] Calls

/-! ### number -/
def Zi6 (rd fs : List Int) (b : List UInt8) : Bool := decide (0 ≤ Zc4 (b.take 8)) && decide (Zc4 (b.take 8) ≤ 1152921504606846976) && decide (b = Zff rd fs (Zc4 (b.take 8)))
def Zbd (rd fs : List Int) (b : List UInt8) : Int × Bool := if b = List.replicate 64 0 then (0,true) else (Zc4 (b.take 8),Zi6 rd fs b)
theorem Z4f (a : Option Addr) (c : Nat) (b : List UInt8) (rd fs : List Int) (W : World) (hG : Gl W noF rd fs) (hb : Rd W (bytes a b)) (h64 : b.length = 64) (hc : 64 ≤ c) :
  Calls Tryz.prog 128 #[.slice a 64 c] W (Ret fun v w => v = .tuple #[.int .i64 (Zbd rd fs b).1,.bool (Zbd rd fs b).2] ∧ St W noF [] w) := by
 have hS := St.start W
 have hbo := hb.ro
 obtain ⟨ab,ao,rfl⟩ := hb.base (by intro e; have := Zag b; rw [e] at this; simp at this; omega)
 have hb8 : Rd W (bytes (some ⟨ab,ao,none⟩) (b.take 8)) := by
  have := hb.subBytes (l := 0) (h := 8) (c := c) (by omega) (by omega)
  rw [sub_zero] at this
  simpa using this
 have h8 : (b.take 8).length = 8 := by simp [h64]
 have hsm := Z2i (some ⟨ab,ao,none⟩) c (b.take 8) W hb8 (by omega)
 rw [h8] at hsm
 obtain ⟨n,hn⟩ : ∃ n,n = Zc4 (b.take 8) := ⟨_,rfl⟩
 rw [← hn] at hsm
 refine Zab Tryz.func128 rfl Tryz.ntmps128 rfl ?_
 repeat (first|refine Yeg ?_|refine Yev ?_|refine Yeh ?_|refine Yab ?_)
 refine X_yl (Zas (l := 0) (h := 8) rfl rfl rfl rfl (.inr ⟨_,_,rfl,by omega,by omega,by omega⟩) (.inl ⟨rfl,rfl⟩)) rfl rfl ?_
 rw [sub_zero,Nat.sub_zero,Nat.sub_zero]
 repeat (first|refine Yeg ?_|(refine X_id ?_;first|(refine Zaa 190 rfl rfl rfl rfl rfl hsm ?_;rintro _ _ ⟨rfl,rfl⟩)|refine Yfh ?_|refine Yd3 (fun _ _ hS => ?_))|refine Yeh ?_|refine Yab ?_)
 refine Zaa _ rfl rfl rfl rfl rfl (Zub _ _ _ _ _ _ b (List.replicate 64 0) _ (hbo.rd hS) ((hS.rd (List.mem_cons_self ..)).ptsB) h64 (by simp)) ?_
 rintro _ _ ⟨rfl,rfl⟩
 by_cases hz : b = List.replicate 64 0
 ·repeat (first|refine Yeg ?_|refine Yag ?_|refine Yae ?_|refine Yad ?_|refine Yah ?_|refine Zz0 rfl (by first|assumption|omega) ?_|refine Yab ?_|refine Yaq ?_|refine Ybp ?_)
  exact ⟨by rw [Zbd,if_pos hz],hS.drops⟩
 ·have e2 : Zbd rd fs b = (n,Zi6 rd fs b) := by rw [Zbd,if_neg hz,hn]
  by_cases h0 : 0 ≤ n
  ·by_cases h1 : n ≤ 1152921504606846976
   ·repeat (first|refine Yex ?_|refine Yaf ?_|refine Ybe ?_|refine Ydg ?_|refine Yb2 ?_|refine Yae ?_|refine Yad ?_|refine Yal ?_|refine Yd6 ?_|refine Yab ?_)
    refine Zaa _ rfl rfl rfl rfl rfl (Z2w n rd fs _ (hG.mono fun r hr => (hr.rd hS).ro)) ?_
    rintro _ w ⟨p,k,rfl,hS'⟩
    replace hS := hS.plus hS'
    clear hS'
    repeat (first|refine Ya2 ?_)
    refine Zaa _ rfl rfl rfl rfl rfl (Zub _ _ _ _ _ _ b (Zff rd fs n) _ (hbo.rd hS) (hS.rd (List.mem_cons_self ..)) h64 (Zii ..)) ?_
    rintro _ _ ⟨rfl,rfl⟩
    repeat (first|refine Yeg ?_|refine Yag ?_|refine Ybe ?_|refine Yah ?_|refine Ye5 ?_)
    refine ⟨?_,hS.drops⟩
    rw [e2]
    simp [Zi6,← hn,h0,h1]
   ·repeat (first|refine Yfe ?_|(refine X_id ?_;first|refine Yaf ?_|refine Yag ?_|refine Ybe ?_|refine Ya9 ?_|refine Yd2 ?_|refine Yb2 ?_)|refine Yae ?_|refine Yad ?_|refine Yah ?_|refine Yal ?_|refine Yd6 ?_|refine Ye5 ?_)
    refine ⟨?_,hS.drops⟩
    rw [e2]
    simp [Zi6,← hn,h1]
  ·repeat (first|refine Ye0 ?_|refine Yaf ?_|refine Yag ?_|refine Ya9 ?_|refine Yb4 ?_|refine Yae ?_|refine Yad ?_|refine Yah ?_|refine Yal ?_|refine Yd6 ?_|refine Ye5 ?_)
   refine ⟨?_,hS.drops⟩
   rw [e2]
   simp [Zi6,← hn,h0]
structure Wr where
 no : Int
 x : Bs
def Wr.cells (v : Wr) : List Value := [.int .i64 v.no,.slice v.x.a v.x.s.length v.x.c]
def Wr.data (v : Wr) : Int × List UInt8 := (v.no,v.x.s)
structure Wrs (W : World) (F : Nat → Prop) (a : Option Addr) (l : List Wr) : Prop where
 row : Ro W F (row a (l.flatMap Wr.cells))
 all : ∀ v ∈ l,Ro W F (bytes v.x.a v.x.s)
theorem Wrs.mono {W w : World} {F F' : Nat → Prop} {a : Option Addr} {l : List Wr} (h : Wrs W F a l) (hw : ∀ r,Ro W F r → Ro w F' r) : Wrs w F' a l := ⟨hw _ h.row,fun x hx => hw _ (h.all x hx)⟩
theorem Zpc {l : List Wr} {i : Nat} {v : Wr} (h : l[i]? = some v) : ((l.flatMap Wr.cells).drop (i * 2)).take 2 = v.cells := Zcr (f := Wr.cells) (fun _ _ => rfl) h
theorem Z53 (l : List Wr) : (l.flatMap Wr.cells).length = l.length * 2 := Zfx (fun _ _ => rfl)
def Zgq (number : Int) (l : List (Int × List UInt8)) : List (List UInt8) := [bigB number 8,bigB (l.length : Nat) 4] ++ l.flatMap fun v => [bigB v.1 4,v.2]
def sumB (rd fs : List Int) (number : Int) (l : List (Int × List UInt8)) : List UInt8 := digest rd fs (Zgq number l)
theorem Zky (rd fs : List Int) (number : Int) (l : List (Int × List UInt8)) : (sumB rd fs number l).length = 32 := Zao _ _ _
attribute [irreducible] sumB
theorem St.rdsPut {W : World} {F : Nat → Prop} {rs : List Res} {w : World} {b : Nat} {T : TypeId} {s : List UInt8} {l : List Bs} (k : Nat) (hS : St W F (pts b (.cells (bv s).toArray T) :: rds l :: rs) w) : St W F (rds (l ++ [⟨some ⟨b,0,none⟩,k,s⟩]) :: rs) w :=
 St.rdsCons (x := ⟨some ⟨b,0,none⟩,k,s⟩) (hS.head fun h hh => Zk4 h hh)
theorem Z50 (number : Int) (a : Option Addr) (c : Nat) (l : List Wr) (rd fs : List Int) (W : World) (hG : Gl W noF rd fs) (hW : Wrs W noF a l) (hl : l.length ≤ 1048576) (hn : (Za1 (Zgq number (l.map Wr.data))).length < 1152921504606846976) :
  Calls Tryz.prog 136 #[.int .i64 number,.slice a l.length c] W (Ret fun v w => v = .agg (bv (sumB rd fs number (l.map Wr.data))).toArray ∧ St W noF [] w) := by
 have hS := St.start W
 refine Zab Tryz.func136 rfl Tryz.ntmps136 rfl ?_
 repeat (first|refine Yeg ?_|refine Yaf ?_|refine Yar (fun _ _ hS _ => ?_)|refine Yeh ?_|refine Yab ?_)
 rename_i b4 _ _
 refine Zaa _ rfl rfl rfl rfl rfl (big_ number 8 _ (by omega)) ?_
 rintro _ w ⟨p1,rfl,hS'⟩
 replace hS := hS.plus hS'
 clear hS'
 repeat (first|refine Yaa ?_|refine Yaf ?_|refine Yau ?_)
 refine Zaa _ rfl rfl rfl rfl rfl (big_ (l.length : Nat) 4 _ (by omega)) ?_
 rintro _ w ⟨p2,rfl,hS'⟩
 replace hS := hS.plus hS'
 clear hS'
 repeat (first|refine Yeg ?_|refine Yfh ?_|refine Ybd (fun _ _ hS _ => ?_)|refine Yej ?_|refine Yab ?_)
 rename_i b5 w5 _
 refine Zaj (α := Nat × Option Addr × Nat × List Bs × List Bs) (fun z => [(4,.pointer (some ⟨b4,0,none⟩)),(5,.slice z.2.1 z.2.2.2.1.length z.2.2.1),(14,.slice a l.length c),(15,.int .i64 (l.length : Nat)),(16,.int .i64 (z.1 : Nat))])
  (fun z w => z.1 ≤ l.length ∧ Zam z.2.2.2.1 = [bigB number 8,bigB (l.length : Nat) 4] ++ (l.take z.1).flatMap (fun v => [bigB v.no 4,v.x.s]) ∧ z.2.2.2.1.length = 2 + 2 * z.1 ∧ z.2.2.2.1.length ≤ z.2.2.1 ∧ (∀ x ∈ z.2.2.2.1,x ∈ z.2.2.2.2 ∨ ∃ v ∈ l,x = v.x) ∧
   St W noF [own 35 1 z.2.1 z.2.2.1 (z.2.2.2.1.map Bs.val),rds z.2.2.2.2,pts b4 (.cells (List.replicate 32 (.int .u8 0)).toArray 56)] w) (fun z => l.length - z.1)
  (0,some ⟨b5,0,none⟩,2,[⟨some ⟨p1,0,none⟩,8,bigB number 8⟩,⟨some ⟨p2,0,none⟩,4,bigB (l.length : Nat) 4⟩],[⟨some ⟨p2,0,none⟩,4,bigB (l.length : Nat) 4⟩,⟨some ⟨p1,0,none⟩,8,bigB number 8⟩])
  ⟨rfl,rfl,rfl,rfl,rfl,trivial⟩ ⟨Nat.zero_le _,rfl,rfl,Nat.le_refl _,by simp,?_⟩ ?_
 ·replace hS := hS.rdsNil
  have hS := hS.pick [2,0,1,0,0]
  replace hS := hS.rdsPut 4
  have hS := hS.pick [1,0,0,0]
  replace hS := hS.rdsPut 8
  have hS := hS.pick [1,0,0]
  simpa [Bs.val,Zah] using hS
 clear hS
 rintro ⟨i,a5,c5,L,O⟩ w ⟨hi,hT,hL,hLc,hO,hS⟩
 simp only at hi hT hL hLc hO hS ⊢
 by_cases hlt : i < l.length
 ·have hx0 : l[i]? = some l[i] := List.getElem?_eq_getElem hlt
  generalize l[i] = v at hx0
  have hr := hW.row
  have hxs : ((l.flatMap Wr.cells).drop (i * 2)).take 2 = [.int .i64 v.no,.slice v.x.a v.x.s.length v.x.c] := Zpc hx0
  obtain ⟨ab,ao,rfl⟩ := (hW.row.rd hS).base (by intro e; rw [e] at hxs; simp at hxs)
  repeat (first|refine Yeg ?_|(refine X_id ?_;first|refine Ya1 ?_|refine Yba ?_|refine Ybr ?_|refine Yao (fun _ hS _ => ?_)|refine Yar (fun _ _ hS _ => ?_))|refine Yek ?_|refine Yab ?_)
  refine Zan (.s 0 (.s 1 (.s 2 (.s 4 (.s 5 (.h 3 (.h 6 (.h 7 (.s 8 .nil) .no) .no) .no)))))) mixed (by kernel_rfl) rfl ?_
  have hS := hS.drew
  repeat (first|(refine Zae ?_;first|refine Ya0 ?_|refine Ybg ?_|refine Ybm ?_|refine Yas ?_))
  refine Zaa _ rfl rfl rfl rfl rfl (big_ v.no 4 _ (by omega)) ?_
  rintro _ w ⟨p,rfl,hS'⟩
  replace hS := hS.plus hS'
  clear hS'
  repeat (first|refine Ybd (fun _ _ hS _ => ?_)|(refine Zae ?_;first|refine Yas ?_)|(refine Zac ?_;first|refine Yax ?_))
  refine Zap rfl rfl rfl rfl rfl hS (by simp) hLc (hS.rd (List.mem_cons_self ..)).own_row rfl (fun u hu => by
   simp only [List.mem_cons,List.not_mem_nil,or_false] at hu
   rcases hu with rfl | rfl <;> rfl) (by omega) (by simp only [maxLen]; omega) (fun a' c' w hS hc' hnil => ?_)
  repeat (first|refine Yeg ?_|refine Yel ?_|refine Yad ?_|refine Yeo ?_|(refine Zae ?_;first|refine Yfg ?_)|(refine Zac ?_;first|refine Yax ?_))
  refine Zaf (z := (i,a5,c5,L,O)) (i + 1,a',c',L ++ [(⟨some ⟨p,0,none⟩,4,bigB v.no 4⟩ : Bs),v.x],O ++ [(⟨some ⟨p,0,none⟩,4,bigB v.no 4⟩ : Bs)]) ⟨rfl,?_,rfl,rfl,rfl,trivial⟩ ⟨by simp only; omega,?_,by simp; omega,by simp; omega,?_,?_⟩ (by simp only; omega)
  ·show some _ = some _
   simp
  ·have hi : i < l.length := hlt
   rw [List.take_succ_eq_append_getElem hi]
   have hv : l[i] = v := by
    have := List.getElem?_eq_getElem hi
    rw [hx0] at this
    exact (Option.some.inj this).symm
   rw [hv]
   simp only [Zam,List.map_append,List.flatMap_append,List.flatMap_cons,List.flatMap_nil,List.map_cons,List.map_nil] at hT ⊢
   rw [hT]
   simp
  ·intro x hx
   simp only [List.mem_append,List.mem_cons,List.not_mem_nil,or_false] at hx ⊢
   rcases hx with hx | rfl | rfl
   ·rcases hO x hx with h | h
    ·exact .inl (.inl h)
    ·exact .inr h
   ·exact .inl (.inr rfl)
   ·exact .inr ⟨v,List.mem_of_getElem? hx0,rfl⟩
  ·skip
   have hS := hS.pick [2,3,0,2]
   replace hS := hS.rdsPut 4
   have hS := hS.pick [1,0,0]
   simpa [Bs.val,Zah] using hS
 ·obtain rfl : i = l.length := by omega
  repeat (first|refine Yeg ?_|refine Yaf ?_|refine Yaz ?_|refine Yet ?_|refine Yem ?_)
  have hB := Bss.ofRd (w := w) (a := a5) (l := L) ((hS.rd (List.mem_cons_self ..)).own_row) (fun x hx => by
   rcases hO x hx with h | ⟨v,hv,rfl⟩
   ·have h1 : Ro w noF (rds O) := (hS.rd (by simp)).ro
    exact (h1.rds x h).start
   ·exact (hW.all v hv).rd hS)
  have hTT : Zam L = Zgq number (l.map Wr.data) := by
   rw [hT,List.take_length]
   simp [Zgq,Wr.data,List.flatMap_map]
  have hl32 : LenO (bv (digest rd fs (Zam L))) 32 := ⟨by rw [Zag]; exact Zao _ _ _⟩
  refine Zad _ rfl rfl rfl rfl rfl hS (Zom _ c5 L rd fs _ (by rw [hTT]; exact hn) (by omega) (hG.mono fun r hr => (hr.rd hS).ro) hB) ?_
  rintro _ w rfl hS
  clear hB
  repeat (first|refine Yeg ?_|refine Yao (fun _ hS _ => ?_)|refine Yah ?_|refine Yab ?_|refine Ybv ?_)
  refine ⟨?_,hS.drops⟩
  rw [hTT]
  unfold sumB
  rfl
end Cr
