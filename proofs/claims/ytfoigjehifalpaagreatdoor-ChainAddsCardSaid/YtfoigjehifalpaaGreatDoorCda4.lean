/-
  Layer 2 (digest): bytes,one.
  The wrap of laws whose rows list the tables of digest,bits and strconv: a world for a witness; what the row lists gives the digest's tables.
  Layer 1 (block): what each function of package block does to a disk in memory.
  Layer 1 (block): New,Write,Flush.
  Layer 1 (block): Write,Flush.
  slices.Backward: what the function that it hands back does,round by round.
  Layer 1 (block): lay,Flush,Read.
  A law's arguments,opened: bytes,lists of writes. What is read of them,by the reading that the row gives.
  A law's argument,opened: a slice of structs,whatever their fields; an array of bytes.
  Layer 2 (digest): Write,Fork,Sum.
  An argument of layer 11's laws,opened: a slice of slices of bytes.
  Layer 2 (digest): Sum.
  Layer 2 (digest): Framed.
  Layer 2 (digest): Of.
  A bag of rows: read only,and they may lie one in another. Over any program.
  A conversion of bytes to the same type (the model marks the block): the row can be read on. Over any program.
  Bytes made; lists of byte slices as a resource. Over any program.
  Arrays of bytes compared. Over any program.
-/
import Derived.Test.YtfoigjehifalpaaGreatDoorCda3
import Derived.Deep.DeepWitnessRowRef
import Derived.Lib.ItoaNum
import Derived.Deep.SlicePairs
import Derived.Carry
import Derived.OpenShut
import Derived.Test.YtfoigjehifalpaaGreatDoorCda2
import Derived.Laws.StructEq
namespace Cr
open Go Go.Proofs
set_option maxRecDepth 100000
set_option maxHeartbeats 4000000
attribute [local irreducible] Calls

/-! ### bytes -/
def Z5b (H : List Int) (i : Nat) : UInt8 := b8 (ishr .u32 (H.getD (i / 4) 0) (24 - i % 4 * 8))
def Zqo (H : List Int) : Nat → List UInt8
 | 0 => List.replicate 32 0
 | i + 1 => (Zqo H i).set i (Z5b H i)
theorem Zfq (H : List Int) : ∀ i,(Zqo H i).length = 32
 | 0 => by simp [Zqo]
 | i + 1 => by simp [Zqo,Zfq H i]
def outB (H : List Int) : List UInt8 := Zqo H 32
theorem Zd3 (H : List Int) : (outB H).length = 32 := Zfq H 32
theorem Z4d (s : Nat) (H : List Int) (r : List Value) (T : TypeId) (W : World) (hH : H.length = 8) (hs : Rd W (pts s (.cells (ints .u32 H ++ r).toArray T))) :
  Calls Tryz.prog 172 #[.pointer (some ⟨s,0,none⟩)] W (Ret fun v w => v = .agg (bv (outB H)).toArray ∧ St W noF [] w) := by
 have hS := St.start W
 have hg : Ro W noF (row (some ⟨s,0,none⟩) (ints .u32 H)) := hs.ro.mono fun h hh => ⟨h,Zga (n := 8) (by rw [List.drop_zero,List.take_append_of_le_length (by rw [ints_length]; omega),List.take_of_length_le (by rw [ints_length]; omega)]) h hh,fun _ _ e => e⟩
 refine Zab Tryz.func172 rfl Tryz.ntmps172 rfl ?_
 repeat (first|refine Yd7 ?_|refine Yaf ?_|refine Yar (fun _ _ hS _ => ?_)|refine Yea ?_|refine Yab ?_)
 rename_i b2 _ _ _ b3 _ _
 rw [Zf1] at hS
 refine Zal (α := Nat) (fun i => [(0,.pointer (some ⟨s,0,none⟩)),(2,.pointer (some ⟨b2,0,none⟩)),(3,.pointer (some ⟨b3,0,none⟩)),(5,.int .i64 (i : Nat))])
  (fun i w => i ≤ 32 ∧ St W noF [pts b3 (.cells (bv (Zqo H i)).toArray 56),pts b2 (.cells (bv (List.replicate 32 0)).toArray 56)] w) (fun i => 32 - i) 0 ⟨rfl,rfl,rfl,rfl,trivial⟩ ⟨Nat.zero_le _,hS⟩ ?_
 clear hS
 rintro i w ⟨hi,hS⟩
 obtain ⟨L,hLe⟩ : ∃ L,L = Zqo H i := ⟨_,rfl⟩
 have hL : L.length = 32 := by rw [hLe]; exact Zfq H i
 rw [← hLe] at hS
 by_cases h32 : i < 32
 ·repeat (first|refine Yd7 ?_|(refine X_id ?_;first|refine Yaf ?_|refine Yag ?_|refine Yat ?_|refine Ya1 ?_|refine Yds ?_|refine Yax ?_|refine Yb1 ?_|refine Ycc ?_|refine Yc3 ?_|refine Ycx ?_|refine Yda ?_|refine Yci ?_|refine X_yl (Zat rfl rfl ((hg.rd hS).cellI (by omega))) rfl rfl ?_|refine Znt rfl rfl rfl rfl hS (by omega) (fun _ hS => ?_))|refine Yeb ?_|refine Yef ?_)
  refine Zag (i + 1) ⟨rfl,rfl,rfl,rfl,trivial⟩ ⟨by omega,?_⟩ (by omega)
  rw [show 0 + (i : Int).toNat * 1 = i by omega,show ((i : Int) / 4).toNat * 1 = i / 4 by omega,show (24 - (i : Int) % 4 * 8).toNat = 24 - i % 4 * 8 by omega,hLe] at hS
  exact hS
 ·obtain rfl : i = 32 := by omega
  have hlen : LenO (bv L) 32 := ⟨by simp [hL]⟩
  repeat (first|refine Yd7 ?_|refine Ya3 ?_|refine Ybg ?_|refine Ycd (fun _ hS => ?_)|refine Yeg ?_|refine Yab ?_|refine Ya6 ?_|refine Ya7 ?_|refine Ybv ?_)
  exact ⟨by rw [hLe]; rfl,hS.drops⟩

/-! ### one -/
structure StrM where
 H : List Int
 R : List UInt8
 n : Nat
structure StrM.ok (S : StrM) : Prop where
 h8 : S.H.length = 8
 r64 : S.R.length = 64
def StrM.cells (S : StrM) : List Value := ints .u32 S.H ++ (bv S.R ++ [.int .i64 (S.n : Nat)])
def Zel (fs H : List Int) (n : Nat) : List Int := if n = 0 then fs else H
def StrM.one (rd fs : List Int) (S : StrM) (c : UInt8) : StrM :=
 ⟨if (S.n + 1) % 64 = 0 then Zzb rd (Zel fs S.H S.n) (S.R.set (S.n % 64) c) else Zel fs S.H S.n,S.R.set (S.n % 64) c,S.n + 1⟩
structure Gl (W : World) (F : Nat → Prop) (rd fs : List Int) : Prop where
 round : Ro W F (row (some ⟨2,0,none⟩) (ints .u32 rd))
 first : Ro W F (row (some ⟨0,0,none⟩) (ints .u32 fs))
 round64 : rd.length = 64
 first8 : fs.length = 8
theorem Gl.mono {W w : World} {F F' : Nat → Prop} {rd fs : List Int} (h : Gl W F rd fs) (hw : ∀ r,Ro W F r → Ro w F' r) : Gl w F' rd fs := ⟨hw _ h.round,hw _ h.first,h.round64,h.first8⟩
theorem Zff {fs H : List Int} (n : Nat) (h : fs.length = 8) (h' : H.length = 8) : (Zel fs H n).length = 8 := by unfold Zel; split <;> assumption
theorem StrM.one_ok {rd fs : List Int} {S : StrM} {c : UInt8} (h : S.ok) (hf : fs.length = 8) : (S.one rd fs c).ok := by
 refine ⟨?_,by simp [StrM.one,h.r64]⟩
 simp only [StrM.one]
 split
 ·rw [Zpn]; exact Zff _ hf h.h8
 ·exact Zff _ hf h.h8
theorem one_ (s : Nat) (S : StrM) (c : UInt8) (rd fs : List Int) (T : TypeId) (W : World) (F : Nat → Prop) (hok : S.ok) (hn : S.n < 2305843009213693951) (hG : Gl W F rd fs) (hS : St W F [pts s (.cells S.cells.toArray T)] W) :
  Calls Tryz.prog 170 #[.pointer (some ⟨s,0,none⟩),.int .u8 (c.toNat : Int)] W (Ret fun _ w => True ∧ St W F [pts s (.cells (S.one rd fs c).cells.toArray T)] w) := by
 obtain ⟨H,R,n⟩ := S
 obtain ⟨h8,r64⟩ := hok
 unfold StrM.cells at hS
 simp only at h8 r64 hn hS
 have hl1 : LenO (ints .u32 H) 8 := ⟨by rw [ints_length]; exact h8⟩
 have hl2 : LenO (bv R) 64 := ⟨by simp [r64]⟩
 have hl3 : LenO (ints .u32 fs) 8 := ⟨by rw [ints_length]; exact hG.first8⟩
 refine Zab Tryz.func170 rfl Tryz.ntmps170 rfl ?_
 have hc1 : ∀ H',Zel fs H n = H' → H'.length = 8 := fun H' e => e ▸ Zff n hG.first8 h8
 have hend : ∀ H' w,Zel fs H n = H' → St W F [pts s (.cells (ints .u32 (if (n + 1) % 64 = 0 then Zzb rd H' (R.set (n % 64) c) else H') ++ (bv (R.set (n % 64) c) ++ [Value.int .i64 ((n + 1 : Nat) : Int)])).toArray T)] w →
   St W F [pts s (.cells (StrM.one rd fs ⟨H,R,n⟩ c).cells.toArray T)] w := fun H' w e h => by
  unfold StrM.one StrM.cells; simp only [e]; exact h
 have ei : ((n : Int) % 64).toNat * 1 = n % 64 := by omega
 by_cases h0 : n = 0
 all_goals by_cases h64 : (n + 1) % 64 = 0
 ·repeat (first|refine Yd7 ?_|(refine X_id ?_;first|refine Yaf ?_|refine Yat ?_|refine Yan ?_|refine Ybh ?_|refine Yap ?_)|refine Yeh ?_|refine Yab ?_)
  refine X_yl (Zcq rfl rfl ((hG.first.rd hS).cellsAt rfl) (by rw [ints_length]; exact hG.first8)) rfl rfl ?_
  repeat (first|refine Yd7 ?_|refine Yat ?_|refine Yan ?_|refine Yao (fun _ hS _ => ?_)|refine Yae ?_|refine Yab ?_)
  have e1 : Zel fs H n = fs := by simp [Zel,h0]
  refine Zao (.s 0 (.s 1 (.s 2 (.s 3 (.s 4 (.s 5 (.s 6 (.s 7 (.s 8 (.s 9 (.h 10 .nil .no))))))))))) mixed (by kernel_rfl) rfl ?_
  have hS := hS.drew
  repeat (first|refine Yd7 ?_|(refine X_id ?_;first|refine Yaf ?_|refine Yat ?_|refine Yan ?_|refine Ybh ?_|refine Yax ?_|refine Yci ?_|refine Yap ?_|refine Ydi (fun _ hS => ?_)|refine Yao (fun _ hS _ => ?_))|refine Yeh ?_|refine Yab ?_|(refine Zad ?_;first|refine Yaz ?_|refine Ya2 ?_|refine Ybp ?_|refine Ybe ?_|refine Ycn ?_|refine Ydj ?_|refine Ybm ?_|refine Yau ?_)|(refine Zac ?_;first|refine Ya0 ?_))
  rw [ei] at hS
  refine Zao (.s 0 (.s 1 (.s 2 (.s 3 (.s 4 (.s 5 (.s 6 (.h 7 .nil .no)))))))) mixed (by kernel_rfl) rfl ?_
  have hS := hS.drew
  repeat (first|(refine Zad ?_;first|refine Ya2 ?_|refine Ybp ?_|refine Ybe ?_|refine Yc4 ?_|refine Yau ?_))
  obtain ⟨_,hc,hr,hw,hbk⟩ := hS.call [true]
  refine Zaa _ rfl rfl rfl rfl rfl (mix_ s fs rd (R.set (n % 64) c) (↑n + 1) T _ _ (hc1 _ e1) (by simp [r64]) hG.round64 (hw _ hG.round) hc) ?_
  rintro _ w ⟨_,hS⟩
  replace hS := hbk hS
  clear hc hr hw hbk
  repeat (first|refine Ybu ?_|(refine Zad ?_;first|refine Yaz ?_)|(refine Zac ?_;first|refine Ya0 ?_))
  refine ⟨trivial,hend _ _ e1 ?_⟩
  rw [if_pos h64]
  exact hS
 ·repeat (first|refine Yd7 ?_|(refine X_id ?_;first|refine Yaf ?_|refine Yat ?_|refine Yan ?_|refine Ybh ?_|refine Yap ?_)|refine Yeh ?_|refine Yab ?_)
  refine X_yl (Zcq rfl rfl ((hG.first.rd hS).cellsAt rfl) (by rw [ints_length]; exact hG.first8)) rfl rfl ?_
  repeat (first|refine Yd7 ?_|refine Yat ?_|refine Yan ?_|refine Yao (fun _ hS _ => ?_)|refine Yae ?_|refine Yab ?_)
  have e1 : Zel fs H n = fs := by simp [Zel,h0]
  refine Zao (.s 0 (.s 1 (.s 2 (.s 3 (.s 4 (.s 5 (.s 6 (.s 7 (.s 8 (.s 9 (.h 10 .nil .no))))))))))) mixed (by kernel_rfl) rfl ?_
  have hS := hS.drew
  repeat (first|refine Yd7 ?_|(refine X_id ?_;first|refine Yaf ?_|refine Yat ?_|refine Yan ?_|refine Ybi ?_|refine Yax ?_|refine Yci ?_|refine Yap ?_|refine Ydi (fun _ hS => ?_)|refine Yao (fun _ hS _ => ?_))|refine Yei ?_|refine Yab ?_|refine Ybu ?_|(refine Zad ?_;first|refine Yaz ?_|refine Ya2 ?_|refine Ybp ?_|refine Ybe ?_|refine Ycn ?_|refine Ydj ?_|refine Ybm ?_|refine Yau ?_)|(refine Zac ?_;first|refine Ya0 ?_))
  rw [ei] at hS
  refine ⟨trivial,hend _ _ e1 ?_⟩
  rw [if_neg h64]
  exact hS
 ·have e1 : Zel fs H n = H := by simp [Zel,h0]
  repeat (first|refine Yd7 ?_|(refine X_id ?_;first|refine Yaf ?_|refine Yat ?_|refine Yan ?_|refine Ybi ?_|refine Yap ?_)|refine Yei ?_|refine Yab ?_)
  refine Zao (.s 0 (.s 1 (.s 2 (.s 3 (.s 4 (.s 5 (.s 6 (.s 7 (.s 8 (.s 9 (.h 10 .nil .no))))))))))) mixed (by kernel_rfl) rfl ?_
  have hS := hS.drew
  repeat (first|refine Yd7 ?_|(refine X_id ?_;first|refine Yaf ?_|refine Yat ?_|refine Yan ?_|refine Ybh ?_|refine Yax ?_|refine Yci ?_|refine Yap ?_|refine Ydi (fun _ hS => ?_)|refine Yao (fun _ hS _ => ?_))|refine Yeh ?_|refine Yab ?_|(refine Zad ?_;first|refine Yaz ?_|refine Ya2 ?_|refine Ybp ?_|refine Ybe ?_|refine Ycn ?_|refine Ydj ?_|refine Ybm ?_|refine Yau ?_)|(refine Zac ?_;first|refine Ya0 ?_))
  rw [ei] at hS
  refine Zao (.s 0 (.s 1 (.s 2 (.s 3 (.s 4 (.s 5 (.s 6 (.h 7 .nil .no)))))))) mixed (by kernel_rfl) rfl ?_
  have hS := hS.drew
  repeat (first|(refine Zad ?_;first|refine Ya2 ?_|refine Ybp ?_|refine Ybe ?_|refine Yc4 ?_|refine Yau ?_))
  obtain ⟨_,hc,hr,hw,hbk⟩ := hS.call [true]
  refine Zaa _ rfl rfl rfl rfl rfl (mix_ s H rd (R.set (n % 64) c) (↑n + 1) T _ _ (hc1 _ e1) (by simp [r64]) hG.round64 (hw _ hG.round) hc) ?_
  rintro _ w ⟨_,hS⟩
  replace hS := hbk hS
  clear hc hr hw hbk
  repeat (first|refine Ybu ?_|(refine Zad ?_;first|refine Yaz ?_)|(refine Zac ?_;first|refine Ya0 ?_))
  refine ⟨trivial,hend _ _ e1 ?_⟩
  rw [if_pos h64]
  exact hS
 ·have e1 : Zel fs H n = H := by simp [Zel,h0]
  repeat (first|refine Yd7 ?_|(refine X_id ?_;first|refine Yaf ?_|refine Yat ?_|refine Yan ?_|refine Ybi ?_|refine Yap ?_)|refine Yei ?_|refine Yab ?_)
  refine Zao (.s 0 (.s 1 (.s 2 (.s 3 (.s 4 (.s 5 (.s 6 (.s 7 (.s 8 (.s 9 (.h 10 .nil .no))))))))))) mixed (by kernel_rfl) rfl ?_
  have hS := hS.drew
  repeat (first|refine Yd7 ?_|(refine X_id ?_;first|refine Yaf ?_|refine Yat ?_|refine Yan ?_|refine Ybi ?_|refine Yax ?_|refine Yci ?_|refine Yap ?_|refine Ydi (fun _ hS => ?_)|refine Yao (fun _ hS _ => ?_))|refine Yei ?_|refine Yab ?_|refine Ybu ?_|(refine Zad ?_;first|refine Yaz ?_|refine Ya2 ?_|refine Ybp ?_|refine Ybe ?_|refine Ycn ?_|refine Ydj ?_|refine Ybm ?_|refine Yau ?_)|(refine Zac ?_;first|refine Ya0 ?_))
  rw [ei] at hS
  refine ⟨trivial,hend _ _ e1 ?_⟩
  rw [if_neg h64]
  exact hS
end Cr
namespace Go.Proofs.YtfoigjehifalpaaGreatDoor
open Go.ChangeShapes Go.WideShapes Go.ChangeAt Go.RowKit
set_option maxRecDepth 100000
def Z42 : List Int := [0,1,28,2,29,14,24,3,30,22,20,15,25,17,4,8,31,27,13,23,21,19,16,7,26,12,18,6,11,5,10,9]
def Z41 : List Int := [0,1,56,2,57,49,28,3,61,58,42,50,38,29,17,4,62,47,59,36,45,43,51,22,53,39,33,30,24,18,12,5,63,55,48,27,60,41,37,16,46,35,44,21,52,32,23,11,54,26,40,15,34,20,31,10,25,14,19,9,13,8,7,6]
def Zvg : List UInt8 := [118,97,108,117,101,32,111,117,116,32,111,102,32,114,97,110,103,101]
def Zti : List UInt8 := [105,110,118,97,108,105,100,32,115,121,110,116,97,120]
theorem Zwa : "*" ++ "errors.errorString" = "*errors.errorString" := by decide
theorem Z3v (u : TypeId) (h : Tryz.prog.typeName? 3 u = some "*errors.errorString") : u = 417 :=
 typeName_ptr_named (nm := "errors.errorString") (by rw [Zwa]; kernel_rfl) (by kernel_rfl) (by decide) u (by rw [Zwa]; exact h)
noncomputable def Zsa : Nat := (World.holding Tryz.prog default ⟨#[],#[],[]⟩).heap.size
def u8s (l : List Int) : List Value := l.map fun n => Value.int .u8 n
noncomputable def Zj9 (os : Os) : World :=
 let w0 := World.holding Tryz.prog os ⟨#[.cells #[.string (Cr.str Zvg)] 419,.cells #[.string (Cr.str Zti)] 419],#[],[]⟩
 { w0 with heap := ((((((w0.heap.modify 4 (tabOf (u8s Z42))).modify 5 (tabOf (u8s Z41))).modify 3 (tabOf (Lib.pow10Tab.map fun z => Value.int .u64 z))).modify 7 (tabOf [.iface 417 (.pointer (some ⟨Zsa,0,none⟩))])).modify 6 (tabOf [.iface 417 (.pointer (some ⟨Zsa + 1,0,none⟩))])).modify 2 (tabOf (Cr.ints .u32 Cr.roundL))).modify 0 (tabOf (Cr.ints .u32 Cr.firstL)) }
theorem Zqz {W : World} (h1 : Lib.TabIs Tryz.prog W "creel/digest.round" .u32 Cr.roundL) (h2 : Lib.TabIs Tryz.prog W "creel/digest.first" .u32 Cr.firstL) : Cr.Gl W Cr.noF Cr.roundL Cr.firstL := by
 refine ⟨(Cr.Rd.ofCells (fun i v hv => ?_) (by simp [Cr.ints,Cr.roundL])).ro,(Cr.Rd.ofCells (fun i v hv => ?_) (by simp [Cr.ints,Cr.firstL])).ro,rfl,rfl⟩
 ·have hi : i < Cr.roundL.length := by
   rcases Nat.lt_or_ge i Cr.roundL.length with h | h
   ·exact h
   ·rw [List.getElem?_eq_none (by rw [Cr.ints_length]; omega)] at hv; cases hv
  rw [Cr.ints_get hi] at hv
  rw [← Option.some.inj hv]
  exact h1.cell (by kernel_rfl) i hi
 ·have hi : i < Cr.firstL.length := by
   rcases Nat.lt_or_ge i Cr.firstL.length with h | h
   ·exact h
   ·rw [List.getElem?_eq_none (by rw [Cr.ints_length]; omega)] at hv; cases hv
  rw [Cr.ints_get hi] at hv
  rw [← Option.some.inj hv]
  exact h2.cell (by kernel_rfl) i hi
end Go.Proofs.YtfoigjehifalpaaGreatDoor
namespace Cr
open Go Go.Proofs
set_option maxRecDepth 100000

structure DiskM where
 off : Bool
 armed : Bool
 left : Int
 laid : List (List UInt8)
 line : List (Int × List UInt8)
 writes : Int
 flushes : Int
structure DiskM.ok (D : DiskM) : Prop where
 laid64 : ∀ s ∈ D.laid,s.length = 64
 line64 : ∀ x ∈ D.line,x.2.length = 64 ∧ 0 ≤ x.1 ∧ x.1 < D.laid.length
 some_ : 1 ≤ D.laid.length
 most : D.laid.length ≤ 4096
 left0 : 0 ≤ D.left
 left1 : D.left ≤ 9223372036854775807
def Zbc (l : List (List UInt8)) : List Value := l.flatMap bv
def Za8 (l : List (Int × List UInt8)) : List Value := l.flatMap fun x => .int .i64 x.1 :: bv x.2
def disk (p : Nat) (D : DiskM) : Res := fun h => D.ok ∧ ∃ al cl ai ci,D.laid.length ≤ cl ∧ D.line.length ≤ ci ∧
 Sep [pts p (.cells #[.bool D.off,.bool D.armed,.int .i64 D.left,.slice al D.laid.length cl,.slice ai D.line.length ci,.int .i64 D.writes,.int .i64 D.flushes] 162),
  own 324 64 al cl (Zbc D.laid),own 326 65 ai ci (Za8 D.line)] h

theorem St.shutR {W : World} {F : Nat → Prop} {r : Res} {rs rs' : List Res} {w : World} (hS : St W F (rs' ++ rs) w) (hr : ∀ h,Sep rs' h → r h) : St W F (r :: rs) w :=
 hS.imp fun h hh => by
  obtain ⟨h1,h2,a,b,c,d⟩ := Sep.append hh
  exact ⟨h1,h2,hr _ a,b,c,d⟩
/-! ### On,Sectors,has,use -/
theorem Rd.disk {w : World} {p : Nat} {D : DiskM} (h : Rd w (disk p D)) : D.ok ∧ ∃ al cl ai ci,D.laid.length ≤ cl ∧ D.line.length ≤ ci ∧
  w.heap[p]? = some (.cells #[.bool D.off,.bool D.armed,.int .i64 D.left,.slice al D.laid.length cl,.slice ai D.line.length ci,.int .i64 D.writes,.int .i64 D.flushes] 162) ∧
  Rd w (row al (Zbc D.laid)) ∧ Rd w (row ai (Za8 D.line)) := by
 obtain ⟨f,⟨hok,al,cl,ai,ci,h1,h2,hs⟩,ha⟩ := h
 have hr := Rd.sep ⟨f,hs,ha⟩
 exact ⟨hok,al,cl,ai,ci,h1,h2,(hr _ (by simp)).pts,(hr _ (List.mem_cons_of_mem _ (List.mem_cons_self ..))).own_row,(hr _ (List.mem_cons_of_mem _ (List.mem_cons_of_mem _ (List.mem_cons_self ..)))).own_row⟩
theorem on_ (p : Nat) (D : DiskM) (W : World) (hd : Rd W (disk p D)) :
  Calls Tryz.prog 76 #[.pointer (some ⟨p,0,none⟩)] W (Ret fun v w => v = .bool (!D.off) ∧ W = w) := by
 obtain ⟨_,al,cl,ai,ci,_,_,hc,_,_⟩ := hd.disk
 have hS := St.start W
 refine Zab Tryz.func76 rfl Tryz.ntmps76 rfl ?_
 repeat (first|refine Yen ?_|(refine X_id ?_;first|refine Yaf ?_|refine Yag ?_|refine Yat ?_|refine Yan ?_|refine Ybd ?_|refine X_yl (Zno rfl rfl) rfl rfl ?_|refine X_yl (Zgs rfl rfl rfl) rfl rfl ?_|refine Yb2 ?_)|refine Yek ?_|refine Yd9 ?_)
 exact ⟨rfl,rfl⟩
theorem Zmw (p : Nat) (D : DiskM) (W : World) (hd : Rd W (disk p D)) :
  Calls Tryz.prog 77 #[.pointer (some ⟨p,0,none⟩)] W (Ret fun v w => v = .int .i64 (D.laid.length : Nat) ∧ W = w) := by
 obtain ⟨_,al,cl,ai,ci,_,_,hc,_,_⟩ := hd.disk
 have hS := St.start W
 refine Zab Tryz.func77 rfl Tryz.ntmps77 rfl ?_
 repeat (first|refine Yd7 ?_|(refine X_id ?_;first|refine Yaf ?_|refine Yag ?_|refine Yat ?_|refine Yan ?_|refine Yas ?_|refine Ybq ?_|refine Yb2 ?_)|refine Yew ?_|refine Yd9 ?_)
 exact ⟨rfl,rfl⟩
def Zdf (D : DiskM) (no : Int) : Bool := decide (0 ≤ no ∧ no < D.laid.length)
theorem has_ (p : Nat) (D : DiskM) (no : Int) (W : World) (hd : Rd W (disk p D)) :
  Calls Tryz.prog 187 #[.pointer (some ⟨p,0,none⟩),.int .i64 no] W (Ret fun v w => v = .bool (Zdf D no) ∧ W = w) := by
 by_cases h : 0 ≤ no
 ·refine Zab Tryz.func187 rfl Tryz.ntmps187 rfl ?_
  repeat (first|refine Yen ?_|refine Yaf ?_|refine Yag ?_|refine Yb7 ?_|refine Yd8 ?_|refine Yab ?_)
  refine Zaa _ rfl rfl rfl rfl rfl (Zmw p D W hd) ?_
  rintro _ _ ⟨rfl,rfl⟩
  repeat (first|refine Yen ?_|(refine X_id ?_;first|refine Yag ?_|refine Ybd ?_|refine X_yl (Zpv rfl rfl rfl) rfl rfl ?_)|refine Yah ?_|refine Yd9 ?_)
  exact ⟨by simp [Zdf,h],rfl⟩
 ·refine Zab Tryz.func187 rfl Tryz.ntmps187 rfl ?_
  repeat (first|refine Yeq ?_|refine Yaf ?_|refine Yag ?_|refine Ya4 ?_|refine Yb9 ?_|refine Yek ?_|refine Yd9 ?_)
  exact ⟨by simp [Zdf,h],rfl⟩

/-! ### power -/
def useB (off armed : Bool) (left : Int) : Bool := !off && (!armed || decide (¬ left = 0))
def Zn9 (off armed : Bool) (left : Int) : Bool := off || (armed && decide (left = 0))
def Zmn (off armed : Bool) (left : Int) : Int := if off = false ∧ armed = true ∧ ¬ left = 0 then left - 1 else left
theorem use_ (p : Nat) (off armed : Bool) (left : Int) (r : List Value) (T : TypeId) (W : World) (F : Nat → Prop) (h0 : 0 ≤ left) (h1 : left ≤ 9223372036854775807)
  (hS : St W F [pts p (.cells (.bool off :: .bool armed :: .int .i64 left :: r).toArray T)] W) :
  Calls Tryz.prog 227 #[.pointer (some ⟨p,0,none⟩)] W (Ret fun v w => v = .bool (useB off armed left) ∧
   St W F [pts p (.cells (.bool (Zn9 off armed left) :: .bool armed :: .int .i64 (Zmn off armed left) :: r).toArray T)] w) := by
 cases off
 ·cases armed
  ·refine Zab Tryz.func227 rfl Tryz.ntmps227 rfl ?_
   repeat (first|refine Yd7 ?_|(refine X_id ?_;first|refine Yaf ?_|refine Yag ?_|refine Yat ?_|refine Yan ?_|refine Ybr ?_|refine Yap ?_)|refine Yer ?_|refine Yes ?_)
   exact ⟨rfl,hS⟩
  ·by_cases h : left = 0
   ·subst h
    refine Zab Tryz.func227 rfl Tryz.ntmps227 rfl ?_
    repeat (first|refine Yd7 ?_|(refine X_id ?_;first|refine Yaf ?_|refine Yag ?_|refine Yat ?_|refine Yan ?_|refine Ybc ?_|refine Ybh ?_|refine Yap ?_|refine Yao (fun _ hS _ => ?_))|refine Yer ?_|refine Yes ?_)
    exact ⟨rfl,hS⟩
   ·refine Zab Tryz.func227 rfl Tryz.ntmps227 rfl ?_
    repeat (first|refine Yd7 ?_|(refine X_id ?_;first|refine Yaf ?_|refine Yag ?_|refine Yat ?_|refine Yan ?_|refine Ybc ?_|refine Ybi ?_|refine Yb1 ?_|refine Yap ?_|refine Yao (fun _ hS _ => ?_))|refine Yex ?_|refine Yab ?_|refine Yav ?_|refine Yam ?_)
    exact ⟨by simp [useB,h],by simpa [Zn9,Zmn,h] using hS⟩
 ·refine Zab Tryz.func227 rfl Tryz.ntmps227 rfl ?_
  repeat (first|refine Yd7 ?_|(refine X_id ?_;first|refine Yaf ?_|refine Yag ?_|refine Yat ?_|refine Yan ?_|refine Yap ?_)|refine Yeu ?_|refine Yes ?_)
  exact ⟨rfl,hS⟩
end Cr
namespace Cr
open Go Go.Proofs
set_option maxRecDepth 100000

/-! ### New -/
def zero64 : List UInt8 := List.replicate 64 0
def Zbf (n : Nat) : DiskM := { off := false,armed := false,left := 0,laid := List.replicate n zero64,line := [],writes := 0,flushes := 0 }
theorem Ztx {n : Nat} (h : 1 ≤ n) (h' : n ≤ 4096) : (Zbf n).ok := by
 refine ⟨fun s hs => ?_,fun x hx => by simp [Zbf] at hx,by simpa [Zbf] using h,by simpa [Zbf] using h',by simp [Zbf],by simp [Zbf]⟩
 simp [Zbf] at hs; rw [hs.2]; simp [zero64]
theorem Zd6 (n : Nat) : Zbc (List.replicate n zero64) = List.replicate (n * 64) (.int .u8 0) := by
 induction n with
 | zero => rfl
 | succ n ih =>
  have e : bv zero64 = List.replicate 64 (.int .u8 0) := by simp [bv,zero64]
  have : Zbc (List.replicate (n + 1) zero64) = bv zero64 ++ Zbc (List.replicate n zero64) := by simp [Zbc,List.replicate_succ]
  rw [this,ih,e,List.replicate_append_replicate]
  congr 1; omega
theorem Zj7 (m n : Nat) : madeCells (List.replicate m (Value.int .u8 0)).toArray n = (List.replicate n (if m = 0 then default else Value.int .u8 0)).toArray := by
 apply Array.ext
 ·simp [madeCells]
 ·intro i h1 h2
  simp only [madeCells,Array.getElem_map,Array.getElem_range,List.size_toArray,List.length_replicate]
  by_cases hm : m = 0
  ·subst hm; simp
  ·have : i % m < m := Nat.mod_lt _ (by omega)
   simp [hm,this]
theorem new_ (n : Nat) (W : World) (h1 : 1 ≤ n) (h2 : n ≤ 4096) : Calls Tryz.prog 37 #[.int .i64 (n : Int)] W (Ret fun v w => ∃ p,v = .tuple #[.pointer (some ⟨p,0,none⟩),.int .i64 0] ∧ St W noF [disk p (Zbf n)] w) := by
 have hS := St.start W
 refine Zab Tryz.func37 rfl Tryz.ntmps37 rfl ?_
 repeat (first|refine Yen ?_|(refine X_id ?_;first|refine Yaf ?_|refine Yag ?_|refine Ya4 ?_|refine Ya3 ?_|refine Ybt ?_)|refine Yei ?_|refine Yab ?_)
 refine Z0d rfl rfl rfl (by omega) (by omega) (by omega) (by omega) rfl rfl hS (fun al w hS _ => ?_)
 repeat (first|refine Yd7 ?_|refine Yag ?_|refine Ybn ?_|refine Ya9 (fun _ _ hS _ => ?_)|refine Yah ?_|refine Yev ?_)
 refine ⟨_,rfl,?_⟩
 have e : madeCells (Value.agg (List.replicate 64 (Value.int .u8 0)).toArray).cells ((n : Int).toNat * 64) = (Zbc (Zbf n).laid).toArray := by
  show madeCells (List.replicate 64 (Value.int .u8 0)).toArray _ = _
  rw [Zj7,Zbf,Zd6]; simp
 rw [e] at hS
 have hl : (Zbc (Zbf n).laid).length = n * 64 := by rw [Zbf,Zd6]; simp
 have hS := ((hS.second (Za4 (c := n) (cs := Zbc (Zbf n).laid) hl (by simp only [maxLen]; omega) (by simp))).own_none 326 65 none).sel [false,true,true]
 refine St.shutR (rs' := [_,_,_]) (rs := []) hS fun h hh => ⟨Ztx h1 h2,some ⟨al,0,none⟩,n,none,0,by simp [Zbf],by simp [Zbf],?_⟩
 have el : (Zbf n).laid.length = n := by simp [Zbf]
 rw [el]
 exact hh

/-! ### slices.Clone at bytes -/
theorem Z34 (a : Option Addr) (n c : Nat) (s : List UInt8) (W : World) (hs : Rd W (bytes a s)) (hn : s.length = n) (hlim : n ≤ 1073741824) :
  Calls Tryz.prog 189 #[.slice a n c] W (Ret fun v w => ∃ a' c',v = .slice a' n c' ∧ (a' = none ↔ a = none) ∧ n ≤ c' ∧ St W noF [own 5 1 a' c' (bv s)] w) := by
 have hS := St.start W
 cases a with
 | none =>
  have h0 : bv s = [] := hs.none_nil
  obtain rfl : n = 0 := by rw [← hn,← Zaf s,h0]; rfl
  refine Zab Tryz.func189 rfl Tryz.ntmps189 rfl ?_
  repeat (first|refine Yd7 ?_|refine Yaf ?_|refine Yag ?_|refine Ycr ?_|refine Yeo ?_|refine Yep ?_)
  refine ⟨none,0,rfl,by simp,by omega,?_⟩
  rw [h0]
  exact hS.own_none _ _ _
 | some ad =>
  refine Zab Tryz.func189 rfl Tryz.ntmps189 rfl ?_
  repeat (first|refine Yd7 ?_|refine Yaf ?_|refine Yag ?_|refine Ycr ?_|refine Ybf (fun _ _ hS _ => ?_)|refine Yei ?_|refine Yab ?_)
  rename_i b w hb
  have hs := hs.below hb
  repeat (first|fail)
  refine Zas rfl rfl rfl rfl rfl hS rfl (by omega) hs (by simp [hn]) Zcu (by omega) (by simp only [maxLen]; omega) (fun a' c' w hS hc hnil => ?_)
  repeat (first|refine Yd7 ?_|refine Yag ?_|refine Yah ?_|refine Yd9 ?_)
  refine ⟨a',c',by rw [Nat.zero_add],by rw [hnil]; simp,by omega,hS⟩
end Cr
namespace Cr
open Go Go.Proofs
set_option maxRecDepth 100000
set_option maxHeartbeats 4000000

theorem Z0b (b off : Nat) (x y : Int) (l l' : List Value) (T : TypeId) (W : World) (F : Nat → Prop) [hn : Nth l off (.int .i64 x)] [hs : Spl l off [.int .i64 (IntKind.i64.wrap (x + y))] l'] (hS : St W F [pts b (.cells l.toArray T)] W) :
  Calls Tryz.prog 228 #[.pointer (some ⟨b,off,none⟩),.int .i64 y] W (Ret fun v w => v = .int .i64 (IntKind.i64.wrap (x + y)) ∧ St W F [pts b (.cells l'.toArray T)] w) := by
 refine Zab Tryz.func228 rfl Tryz.ntmps228 rfl ?_
 repeat (first|refine Yd7 ?_|(refine X_id ?_;first|refine Yaf ?_|refine Yag ?_|refine Yat ?_|refine Ybz ?_|refine Z0e rfl rfl rfl rfl rfl rfl hS (fun _ hS => ?_))|refine Yek ?_|refine Yd9 ?_)
 exact ⟨rfl,hS⟩

def DiskM.used (D : DiskM) : DiskM := { D with off := Zn9 D.off D.armed D.left,left := Zmn D.off D.armed D.left }
def DiskM.write (D : DiskM) (no : Int) (b : List UInt8) : Int × DiskM :=
 if D.off then (9,D) else if Zdf D no = false ∨ b.length ≠ 64 then (1,D) else if useB D.off D.armed D.left = false then (9,D.used)
 else (0,{ D.used with line := D.line ++ [(no,b)],writes := IntKind.i64.wrap (D.writes + 1) })
theorem DiskM.write_use {D : DiskM} {no : Int} {b : List UInt8} (h : D.off = false) (hin : Zdf D no = true) (hb : b.length = 64) (hu : useB D.off D.armed D.left = false) : D.write no b = (9,D.used) := by
 unfold DiskM.write
 rw [if_neg (by simp [h]),if_neg (by simp [hin,hb]),if_pos hu]
theorem DiskM.write_yes {D : DiskM} {no : Int} {b : List UInt8} (h : D.off = false) (hin : Zdf D no = true) (hb : b.length = 64) (hu : useB D.off D.armed D.left = true) : D.write no b = (0,{ D.used with line := D.line ++ [(no,b)],writes := IntKind.i64.wrap (D.writes + 1) }) := by
 unfold DiskM.write
 rw [if_neg (by simp [h]),if_neg (by simp [hin,hb]),if_neg (by simp [hu])]
theorem DiskM.used_ok {D : DiskM} (h : D.ok) : D.used.ok := by
 obtain ⟨h1,h2,h3,h4,h5,h6⟩ := h
 refine ⟨h1,h2,h3,h4,?_,?_⟩ <;> simp only [DiskM.used,Zmn] <;> split <;> omega
theorem DiskM.line_ok {D : DiskM} (h : D.ok) {no : Int} {b : List UInt8} {wr : Int} (hn : Zdf D no = true) (hb : b.length = 64) : ({ D with line := D.line ++ [(no,b)],writes := wr } : DiskM).ok := by
 obtain ⟨h1,h2,h3,h4,h5,h6⟩ := h
 refine ⟨h1,fun x hx => ?_,h3,h4,h5,h6⟩
 simp only [List.mem_append,List.mem_singleton] at hx
 rcases hx with hx | rfl
 ·exact h2 x hx
 ·have : 0 ≤ no ∧ no < D.laid.length := by simpa [Zdf] using hn
  exact ⟨hb,this.1,this.2⟩
theorem St.openDisk {W : World} {F : Nat → Prop} {p : Nat} {D : DiskM} {rs : List Res} {w : World} (hS : St W F (disk p D :: rs) w) : D.ok ∧ ∃ al cl ai ci,D.laid.length ≤ cl ∧ D.line.length ≤ ci ∧
  St W F (pts p (.cells #[.bool D.off,.bool D.armed,.int .i64 D.left,.slice al D.laid.length cl,.slice ai D.line.length ci,.int .i64 D.writes,.int .i64 D.flushes] 162) ::
   own 324 64 al cl (Zbc D.laid) :: own 326 65 ai ci (Za8 D.line) :: rs) w := by
 obtain ⟨h,⟨h1,h2,⟨hok,al,cl,ai,ci,c1,c2,hs⟩,hr,hd,hu⟩,s⟩ := hS
 exact ⟨hok,al,cl,ai,ci,c1,c2,h,Sep.append_mk (rs := [_,_,_]) hs hr hd hu,s⟩
theorem St.shutDisk {W : World} {F : Nat → Prop} {p : Nat} {D : DiskM} {rs : List Res} {w : World} {al ai : Option Addr} {cl ci : Nat} (hok : D.ok) (c1 : D.laid.length ≤ cl) (c2 : D.line.length ≤ ci)
  (hS : St W F (pts p (.cells #[.bool D.off,.bool D.armed,.int .i64 D.left,.slice al D.laid.length cl,.slice ai D.line.length ci,.int .i64 D.writes,.int .i64 D.flushes] 162) ::
   own 324 64 al cl (Zbc D.laid) :: own 326 65 ai ci (Za8 D.line) :: rs) w) : St W F (disk p D :: rs) w :=
 St.shutR (rs' := [_,_,_]) (rs := rs) hS fun _ hh => ⟨hok,al,cl,ai,ci,c1,c2,hh⟩
theorem Zi8 (l m : List (Int × List UInt8)) : Za8 (l ++ m) = Za8 l ++ Za8 m := by simp [Za8]
theorem Zdh {l : List (Int × List UInt8)} (h : ∀ x ∈ l,x.2.length = 64) : (Za8 l).length = l.length * 65 := by
 induction l with
 | nil => rfl
 | cons x l ih =>
  have := ih fun y hy => h y (List.mem_cons_of_mem _ hy)
  have h0 := h x (List.mem_cons_self ..)
  simp only [Za8,List.flatMap_cons,List.length_append,List.length_cons,Zaf,h0] at this ⊢
  omega
theorem Zdi {l : List (List UInt8)} (h : ∀ x ∈ l,x.length = 64) : (Zbc l).length = l.length * 64 := by
 induction l with
 | nil => rfl
 | cons x l ih =>
  have := ih fun y hy => h y (List.mem_cons_of_mem _ hy)
  have h0 := h x (List.mem_cons_self ..)
  simp only [Zbc,List.flatMap_cons,List.length_append,List.length_cons,Zaf,h0] at this ⊢
  omega

theorem Z09 {k : IntKind} {n : Int} {l : List Value} (h : ∀ u ∈ l,u.oneCell' = true) : ∀ u ∈ Value.int k n :: l,u.oneCell' = true := fun u hu => by
 rcases List.mem_cons.mp hu with rfl | hu
 ·rfl
 ·exact h u hu
theorem Z2k (p : Nat) (D : DiskM) (no : Int) (a : Option Addr) (n c : Nat) (b : List UInt8) (W : World) (F : Nat → Prop) (hS : St W F [disk p D] W) (hb : Ro W F (bytes a b)) (hn : b.length = n) (hline : D.line.length < 1073741824) :
  Calls Tryz.prog 194 #[.pointer (some ⟨p,0,none⟩),.int .i64 no,.slice a n c] W (Ret fun v w => v = .int .i64 (D.write no b).1 ∧ St W F [disk p (D.write no b).2] w) := by
 have hd := hS.rd (List.mem_cons_self ..)
 cases hoff : D.off
 ·have hon := on_ p D W hd
  rw [hoff] at hon
  cases hin : Zdf D no
  ·have hhas := has_ p D no W hd
   rw [hin] at hhas
   refine Zab Tryz.func194 rfl Tryz.ntmps194 rfl ?_
   repeat (first|refine Yeq ?_|(refine X_id ?_;first|(refine Zaa 76 rfl rfl rfl rfl rfl hon ?_;rintro _ _ ⟨rfl,rfl⟩)|(refine Zaa 187 rfl rfl rfl rfl rfl hhas ?_;rintro _ _ ⟨rfl,rfl⟩)|refine Yaf ?_|refine Yag ?_|refine Ybd ?_|refine Ybc ?_|refine Ybr ?_)|refine Yer ?_|refine Yes ?_)
   refine ⟨by simp [DiskM.write,hoff,hin],by simpa [DiskM.write,hoff,hin] using hS⟩
  ·have hhas := has_ p D no W hd
   rw [hin] at hhas
   by_cases hb64 : b.length = 64
   ·have hn64 : n = 64 := by omega
    subst hn64
    obtain ⟨hok,al,cl,ai,ci,c1,c2,hS⟩ := hS.openDisk
    have hbr := hb.start
    obtain ⟨bb,bo,rfl⟩ := hbr.base (fun e => by rw [← Zaf,e] at hb64; cases hb64)
    have hcells := hbr.cellsAt rfl
    have hlc : LenIs (bv b) 64 := ⟨by simp [hb64]⟩
    cases huse : useB D.off D.armed D.left
    ·refine Zab Tryz.func194 rfl Tryz.ntmps194 rfl ?_
     repeat (first|refine Yen ?_|(refine X_id ?_;first|(refine Zaa 76 rfl rfl rfl rfl rfl hon ?_;rintro _ _ ⟨rfl,rfl⟩)|(refine Zaa 187 rfl rfl rfl rfl rfl hhas ?_;rintro _ _ ⟨rfl,rfl⟩)|refine Yaf ?_|refine Yag ?_|refine Yat ?_|refine Yan ?_|refine Ya4 ?_|refine Ybc ?_|refine Yas ?_|refine Yba ?_)|refine Yet ?_|refine Yab ?_)
     obtain ⟨_,hc,hr,hw,hbk⟩ := hS.call [true,false,false]
     refine Zaa _ rfl rfl rfl rfl rfl (use_ p D.off D.armed D.left _ _ _ _ hok.left0 hok.left1 hc) ?_
     rintro _ w ⟨rfl,hS⟩
     replace hS := hbk hS
     clear hc hr hw hbk
     rw [huse]
     repeat (first|refine Yd7 ?_|refine Yag ?_|refine Ybr ?_|refine Yeo ?_|refine Yes ?_)
     rw [DiskM.write_use hoff hin hb64 huse]
     exact ⟨rfl,St.shutDisk (DiskM.used_ok hok) c1 c2 hS⟩
    ·refine Zab Tryz.func194 rfl Tryz.ntmps194 rfl ?_
     repeat (first|refine Yen ?_|(refine X_id ?_;first|(refine Zaa 76 rfl rfl rfl rfl rfl hon ?_;rintro _ _ ⟨rfl,rfl⟩)|(refine Zaa 187 rfl rfl rfl rfl rfl hhas ?_;rintro _ _ ⟨rfl,rfl⟩)|refine Yaf ?_|refine Yag ?_|refine Yat ?_|refine Yan ?_|refine Ya4 ?_|refine Ybc ?_|refine Yas ?_|refine Yba ?_)|refine Yet ?_|refine Yab ?_)
     obtain ⟨_,hc,hr,hw,hbk⟩ := hS.call [true,false,false]
     refine Zaa _ rfl rfl rfl rfl rfl (use_ p D.off D.armed D.left _ _ _ _ hok.left0 hok.left1 hc) ?_
     rintro _ w ⟨rfl,hS⟩
     replace hS := hbk hS
     clear hc hr hw hbk
     rw [huse]
     repeat (first|refine Yd7 ?_|refine Yag ?_|refine Ybc ?_|refine Yae ?_|refine Yal ?_|refine Yai ?_|refine Yef ?_)
     have hcells : CellsAt w.drew ⟨bb,bo,none⟩ (bv b) := (hb.rd hS).cellsAt rfl
     refine Zao (.s 0 (.s 1 (.s 2 (.s 3 (.s 4 (.s 5 (.s 6 (.s 7 (.s 8 (.s 9 (.h 10 (.h 11 (.s 12 (.s 13 (.h 14 .nil .no))) .no) .no))))))))))) mixed (by kernel_rfl) rfl ?_
     have hS := hS.drew
     repeat (first|refine Ybf (fun _ _ hS _ => ?_)|(refine Zad ?_;first|refine Ya2 ?_|refine Ybp ?_|refine Ybe ?_|refine Yca ?_|refine Zak rfl rfl (fun _ => Zmg rfl rfl (by omega)) rfl rfl ?_|refine Ybm ?_|refine Zba (fun w' => CellsAt w' _ _) rfl rfl (by assumption) (fun _ hc => Zcq rfl rfl hc (by simp;omega)) rfl rfl ?_|refine Yau ?_)|(refine Zac ?_;first|refine Ya0 ?_))
     refine Zas rfl rfl rfl rfl rfl hS (Zdh fun x hx => (hok.line64 x hx).1) c2 (hS.rd (List.mem_cons_self ..)).own_row (by simp [hb64]) (Z09 Zcu) (by omega) (by simp only [maxLen]; omega) (fun a' c' w hS hc hnil => ?_)
     repeat (first|refine Yaa ?_|refine Yaf ?_|refine Yat ?_|refine Yan ?_|refine Yao (fun _ hS _ => ?_)|refine Yd8 ?_|refine Yab ?_|(refine Zad ?_;first|refine Yaz ?_|refine Ybp ?_|refine Ybe ?_|refine Yau ?_)|(refine Zac ?_;first|refine Ya0 ?_))
     obtain ⟨_,hc,hr,hw,hbk⟩ := hS.call [false,false,true,false]
     refine Zaa _ rfl rfl rfl rfl rfl (Z0b p 5 D.writes 1 _ _ _ _ _ hc) ?_
     rintro _ w ⟨rfl,hS⟩
     replace hS := hbk hS
     clear hc hr hw hbk
     repeat (first|refine Yd7 ?_|refine Yag ?_|refine Yek ?_|refine Yd9 ?_)
     rw [DiskM.write_yes hoff hin hb64 huse]
     have hok' := DiskM.line_ok (wr := IntKind.i64.wrap (D.writes + 1)) (DiskM.used_ok hok) (no := no) (b := b) hin hb64
     refine ⟨rfl,St.shutDisk (al := al) (ai := a') hok' c1 (show (D.line ++ [(no,b)]).length ≤ c' by simpa using hc) ?_⟩
     have hS := hS.pick [0,2,0]
     show St W F [pts p (.cells #[_,_,_,_,.slice a' ((D.line ++ [(no,b)]).length : Nat) c',_,_] 162),_,own _ _ _ _ (Za8 (D.line ++ [(no,b)]))] w
     rw [Zi8,List.length_append]
     simpa [Za8,DiskM.used] using hS
   ·refine Zab Tryz.func194 rfl Tryz.ntmps194 rfl ?_
    repeat (first|refine Yen ?_|(refine X_id ?_;first|(refine Zaa 76 rfl rfl rfl rfl rfl hon ?_;rintro _ _ ⟨rfl,rfl⟩)|(refine Zaa 187 rfl rfl rfl rfl rfl hhas ?_;rintro _ _ ⟨rfl,rfl⟩)|refine Yaf ?_|refine Yag ?_|refine Ya4 ?_|refine Ybc ?_|refine Yas ?_|refine Ybl ?_)|refine Yer ?_|refine Yes ?_)
    refine ⟨by simp [DiskM.write,hoff,hin,hb64],by simpa [DiskM.write,hoff,hin,hb64] using hS⟩
 ·have hon := on_ p D W hd
  rw [hoff] at hon
  refine Zab Tryz.func194 rfl Tryz.ntmps194 rfl ?_
  repeat (first|refine Yd7 ?_|(refine X_id ?_;first|(refine Zaa 76 rfl rfl rfl rfl rfl hon ?_;rintro _ _ ⟨rfl,rfl⟩)|refine Yaf ?_|refine Yag ?_|refine Ybr ?_)|refine Yeu ?_|refine Yes ?_)
  exact ⟨by simp [DiskM.write,hoff],by simpa [DiskM.write,hoff] using hS⟩
end Cr
namespace Cr
open Go Go.Proofs
set_option maxRecDepth 100000

theorem Zjb (l bx n c : Nat) (a : Option Addr) (cs : List Value) (w : World) (T : TypeId) (hn : n ≤ 4611686018427387904) (hcs : cs.length = n * 65) (Inv : Nat → World → Prop) (Stop : World → Prop)
  (hbx : ∀ k w,Inv k w → w.heap[bx]? = some (.cells #[.slice a n c] T)) (hrow : ∀ k w,Inv k w → Rd w (row a cs)) (hl : ∀ k w,Inv k w → ∃ r : Loop,r.params.size = 2 ∧ w.heap[l]? = some (.loop r) ∧ (k ≠ 0 →
   RoundIn Fence.wide 0 Tryz.prog l r.fn ((r.params.zip #[.int .i64 ((k - 1 : Nat) : Int),.agg ((cs.drop ((k - 1) * 65)).take 65).toArray]).foldl (fun tmps (t,a) => tmps.setIfInBounds t a) r.tmps) r.assign r.body w
    (Ret fun v w' => (v = .bool true ∧ Inv (k - 1) w') ∨ (v = .bool false ∧ Stop w')))) (h0 : Inv n w) :
  CallsIn Fence.wide 0 Tryz.prog 226 #[.func (.yield l) #[] #[],.pointer (some ⟨bx,0,none⟩)] w (Ret fun _ w' => Inv 0 w' ∨ Stop w') := by
 refine callsIn_wide.2 ?_
 have hb := hbx _ _ h0
 refine Zab Tryz.func226 rfl Tryz.ntmps226 rfl ?_
 repeat (first|refine Yd7 ?_|refine Yag ?_|refine Yas ?_|refine Yb1 ?_|refine Yb2 ?_|refine Yea ?_|refine Yab ?_)
 refine Zal (α := Nat) (fun k => [(0,.func (.yield l) #[] #[]),(1,.pointer (some ⟨bx,0,none⟩)),(3,.int .i64 ((k : Int) - 1))]) (fun k w => k ≤ n ∧ Inv k w) (fun k => k) n ⟨rfl,rfl,rfl,trivial⟩ ⟨Nat.le_refl _,h0⟩ ?_
 clear hb h0
 rintro k w ⟨hk,hi⟩
 have hb := hbx _ _ hi
 by_cases h0 : k = 0
 ·subst h0
  repeat (first|refine Yd7 ?_|refine Yaf ?_|refine Yb9 ?_|refine Yej ?_|refine Yab ?_|refine Ya6 ?_|refine Ya7 ?_|refine Ybu ?_)
  exact .inl hi
 ·obtain ⟨r,hp,hlr,hr⟩ := hl _ _ hi
  have hr := hr h0
  have hcs0 : cs ≠ [] := by intro e; rw [e] at hcs; simp at hcs; omega
  have ha := (hrow _ _ hi).base hcs0
  have hseg := (hrow _ _ hi).seg ((k - 1) * 65) 65
  have e1 : ((k : Int) - 1).toNat = k - 1 := by omega
  have e2 : ((k - 1 : Nat) : Int) = (k : Int) - 1 := by omega
  rw [e2] at hr
  repeat (first|refine Yd7 ?_|refine Yaf ?_|refine Yb7 ?_|refine Ybb ?_|refine Yb2 ?_|refine Yeb ?_|refine Yab ?_)
  rw [e1]
  refine X_yl (Zcq rfl rfl hseg (by simp; omega)) rfl rfl ?_
  refine Zrh rfl rfl rfl rfl rfl rfl hlr (by rw [hp]; rfl) hr ?_
  rintro v w' (⟨rfl,hi'⟩ | ⟨rfl,hs⟩)
  ·repeat (first|refine Yd7 ?_|refine Yaf ?_|refine Yag ?_|refine Ybc ?_|refine Yb1 ?_|refine Yey ?_|refine Yef ?_)
   refine Zag (k - 1) ⟨rfl,rfl,?_,trivial⟩ ⟨by omega,hi'⟩ (by omega)
   rw [e2]; rfl
  ·repeat (first|refine Yd7 ?_|refine Ybr ?_|refine Yah ?_|refine Yaj ?_|refine Yab ?_|refine Yaq ?_|refine Ya8 ?_|refine Z0h rfl (Ret.mk ?_))
   exact .inr hs
end Cr
namespace Cr
open Go Go.Proofs
set_option maxRecDepth 100000
set_option maxHeartbeats 4000000

theorem Zfc {α β : Type} {f : α → List β} {n : Nat} {l : List α} (h : ∀ x ∈ l,(f x).length = n) : (l.flatMap f).length = l.length * n := by
 induction l with
 | nil => simp
 | cons x l ih =>
  have := ih fun y hy => h y (List.mem_cons_of_mem _ hy)
  have h0 := h x (List.mem_cons_self ..)
  simp only [List.flatMap_cons,List.length_append,List.length_cons,h0,this,Nat.succ_mul]
  omega
theorem Zcl {α β : Type} {f : α → List β} {n : Nat} {l : List α} (h : ∀ x ∈ l,(f x).length = n) {k : Nat} {x : α} (hx : l[k]? = some x) : ((l.flatMap f).drop (k * n)).take n = f x := by
 induction l generalizing k with
 | nil => simp at hx
 | cons y l ih =>
  have h0 := h y (List.mem_cons_self ..)
  cases k with
  | zero =>
   have e : y = x := by simpa using hx
   subst e
   simp [List.flatMap_cons,← h0]
  | succ k =>
   have hx' : l[k]? = some x := by simpa using hx
   have := ih (fun z hz => h z (List.mem_cons_of_mem _ hz)) hx'
   rw [List.flatMap_cons,List.drop_append,h0,show (k + 1) * n - n = k * n by rw [Nat.succ_mul]; omega,List.drop_of_length_le (by rw [h0,Nat.succ_mul]; omega)]
   simpa using this
theorem Zq2 {α : Type} {f : α → List Value} {n : Nat} {l : List α} (h : ∀ x ∈ l,(f x).length = n) {k : Nat} {y : α} (hy : (f y).length = n) (hk : k < l.length) : Zai (l.flatMap f) (k * n) (f y) = (l.set k y).flatMap f := by
 induction l generalizing k with
 | nil => simp at hk
 | cons x l ih =>
  have h0 := h x (List.mem_cons_self ..)
  cases k with
  | zero =>
   simp only [List.flatMap_cons,List.set_cons_zero,Nat.zero_mul,Zai]
   simp [hy,← h0]
  | succ k =>
   have := ih (fun z hz => h z (List.mem_cons_of_mem _ hz)) (k := k) (by simpa using hk)
   simp only [List.flatMap_cons,List.set_cons_succ]
   rw [← this]
   unfold Zai
   rw [List.take_append,List.drop_append,h0,show (k + 1) * n - n = k * n by rw [Nat.succ_mul]; omega,List.take_of_length_le (by rw [h0,Nat.succ_mul]; omega),List.drop_of_length_le (by rw [h0,Nat.succ_mul]; omega),
    show (k + 1) * n + (f y).length - n = k * n + (f y).length by rw [Nat.succ_mul]; omega]
   simp

def Zb4 (l : List (List UInt8)) (xs : List (Int × List UInt8)) : List (List UInt8) := xs.foldl (fun l x => l.set x.1.toNat x.2) l
theorem Zax (xs : List (Int × List UInt8)) : ∀ l,(Zb4 l xs).length = l.length := by
 induction xs with
 | nil => intro l; rfl
 | cons x xs ih => intro l; simp [Zb4,List.foldl_cons] at ih ⊢; rw [ih]; simp
theorem Zsb (xs : List (Int × List UInt8)) (hx : ∀ x ∈ xs,x.2.length = 64) : ∀ l,(∀ s ∈ l,s.length = 64) → ∀ s ∈ Zb4 l xs,s.length = 64 := by
 induction xs with
 | nil => intro l h; exact h
 | cons x xs ih =>
  intro l h
  refine ih (fun y hy => hx y (List.mem_cons_of_mem _ hy)) _ fun s hs => ?_
  rcases List.mem_or_eq_of_mem_set hs with h' | rfl
  ·exact h s h'
  ·exact hx x (List.mem_cons_self ..)
theorem Ztz {l : List (List UInt8)} {xs : List (Int × List UInt8)} {k : Nat} {x : Int × List UInt8} (hx : xs[k]? = some x) : Zb4 l (xs.take (k + 1)) = (Zb4 l (xs.take k)).set x.1.toNat x.2 := by
 have : xs.take (k + 1) = xs.take k ++ [x] := by
  rw [List.take_add_one,hx]; rfl
 rw [this,Zb4,List.foldl_append]; rfl

theorem Z16 (x : Value) (W : World) : Calls Tryz.prog 231 #[x] W (Ret fun v w => v = .bool true ∧ W = w) := by
 refine Zab Tryz.func231 rfl Tryz.ntmps231 rfl ?_
 repeat (first|refine Yd7 ?_|refine Yag ?_|refine Yek ?_|refine Yd9 ?_)
 exact ⟨rfl,rfl⟩
def DiskM.flushed (D : DiskM) : DiskM := { D with laid := Zb4 D.laid D.line,line := [] }
theorem DiskM.flushed_ok {D : DiskM} (h : D.ok) : D.flushed.ok := by
 obtain ⟨h1,h2,h3,h4,h5,h6⟩ := h
 refine ⟨Zsb _ (fun x hx => (h2 x hx).1) _ h1,fun x hx => (by cases hx),?_,?_,h5,h6⟩ <;> simpa [DiskM.flushed,Zax] using (by assumption)
theorem lay_ (p : Nat) (D : DiskM) (W : World) (F : Nat → Prop) (hS : St W F [disk p D] W) (hline : D.line.length < 1073741824) :
  Calls Tryz.prog 230 #[.pointer (some ⟨p,0,none⟩),.func (.func 231) #[] #[]] W (Ret fun _ w => True ∧ St W F [disk p D.flushed] w) := by
 obtain ⟨hok,al,cl,ai,ci,c1,c2,hS⟩ := hS.openDisk
 refine Zab Tryz.func230 rfl Tryz.ntmps230 rfl ?_
 repeat (first|refine Yd7 ?_|(refine X_id ?_;first|refine Yaf ?_|refine Yag ?_|refine Yat ?_|refine Yan ?_|refine Yas ?_|refine Yap ?_)|refine Yae ?_|refine Zg8 ?_|refine Ycf ?_|refine Yad ?_|refine Yak ?_|refine Yab ?_)
 refine Zal (α := Nat) (fun k => [(0,.pointer (some ⟨p,0,none⟩)),(1,.func (.func 231) #[] #[]),(5,.int .i64 (k : Nat)),(11,.slice ai D.line.length ci),(12,.int .i64 (D.line.length : Nat)),(13,.int .i64 (k : Nat))])
  (fun k w => k ≤ D.line.length ∧ St W F [pts p (.cells #[.bool D.off,.bool D.armed,.int .i64 D.left,.slice al D.laid.length cl,.slice ai D.line.length ci,.int .i64 D.writes,.int .i64 D.flushes] 162),
   own 324 64 al cl (Zbc (Zb4 D.laid (D.line.take k))),own 326 65 ai ci (Za8 D.line)] w) (fun k => D.line.length - k) 0 ⟨rfl,rfl,rfl,rfl,rfl,rfl,trivial⟩ ⟨Nat.zero_le _,hS⟩ ?_
 clear hS
 rintro k w ⟨hk,hS⟩
 by_cases hlt : k < D.line.length
 ·obtain ⟨x,hx⟩ : ∃ x,D.line[k]? = some x := ⟨_,List.getElem?_eq_getElem hlt⟩
  have hxm := List.mem_of_getElem? hx
  have hln : ∀ x ∈ D.line,(Value.int .i64 x.1 :: bv x.2).length = 65 := fun x hx => by simp [(hok.line64 x hx).1]
  have hseg : CellsAt w (adr ai (k * 65)) (.int .i64 x.1 :: bv x.2) := by
   have := (hS.rd (List.mem_cons_of_mem _ (List.mem_cons_of_mem _ (List.mem_cons_self ..)))).own_row.seg (k * 65) 65
   rwa [show ((Za8 D.line).drop (k * 65)).take 65 = _ from Zcl hln hx] at this
  obtain ⟨ab,ao,hae⟩ := (hS.rd (List.mem_cons_of_mem _ (List.mem_cons_of_mem _ (List.mem_cons_self ..)))).own_row.base (by intro e; have h := Zdh fun x hx => (hok.line64 x hx).1; rw [e] at h; simp at h; omega)
  subst hae
  have hx64 := (hok.line64 x hxm).1
  have hx0 := (hok.line64 x hxm).2.1
  have hx1 := (hok.line64 x hxm).2.2
  have hl64 := Zsb (D.line.take k) (fun y hy => (hok.line64 y (List.mem_of_mem_take hy)).1) _ hok.laid64
  have hlay := Zdi hl64
  rw [Zax] at hlay
  obtain ⟨lb,lo,rfl⟩ := (hS.rd (List.mem_cons_of_mem _ (List.mem_cons_self ..))).own_row.base (by intro e; rw [e] at hlay; simp at hlay; omega)
  have hlen : LenIs (bv x.2) 64 := ⟨by simp [(hok.line64 x hxm).1]⟩
  repeat (first|refine Yd7 ?_|refine Yaf ?_|refine Ya1 ?_|refine Ybb ?_|refine Yeb ?_|refine Yab ?_)
  refine X_yl (Zcq rfl rfl hseg (by simp [(hok.line64 x hxm).1])) rfl rfl ?_
  repeat (first|refine Yd7 ?_|refine Yel ?_|refine Yao (fun _ hS _ => ?_)|refine Yar (fun _ _ hS _ => ?_)|refine Yd8 ?_|refine Yab ?_)
  refine Zaa 231 rfl rfl rfl rfl rfl (Z16 _ _) ?_
  rintro _ _ ⟨rfl,rfl⟩
  repeat (first|refine Yd7 ?_|refine Ybc ?_|refine Yae ?_|refine Yal ?_|refine Yai ?_|refine Yab ?_)
  refine Zao (.s 0 (.s 1 (.s 2 (.s 3 (.s 4 (.s 5 (.s 6 (.s 7 (.s 8 (.h 9 .nil .no)))))))))) mixed (by kernel_rfl) rfl ?_
  have hS := hS.drew
  repeat (first|(refine Zad ?_;first|refine Ya2 ?_|refine Ybp ?_|refine Ybe ?_|refine Yb3 ?_|refine Ybm ?_|refine Yb0 ?_|refine Yau ?_))
  refine Zrf (a := some ⟨lb,lo,none⟩) (i := x.1.toNat * 64) rfl rfl ?_ rfl (Zcu) (by simp [hx64]) rfl hS (by simp [hx64,hlay]; omega) (by omega) (fun w hS => ?_)
  ·rfl
  repeat (first|refine Yd7 ?_|refine Yem ?_|refine Yad ?_|refine Yef ?_|(refine Zad ?_;first|refine Yaz ?_)|(refine Zac ?_;first|refine Ya0 ?_))
  refine Zag (k + 1) ⟨rfl,rfl,rfl,rfl,rfl,rfl,trivial⟩ ⟨hlt,?_⟩ (by omega)
  rw [Ztz hx]
  have hS := hS.pick [2,0,1]
  rwa [show Zai (Zbc (Zb4 D.laid (D.line.take k))) (x.1.toNat * 64) (bv x.2) = _ from Zq2 (fun y hy => by simp [hl64 y hy]) (by simp [hx64]) (by rw [Zax]; omega)] at hS
 ·obtain rfl : k = D.line.length := by omega
  repeat (first|refine Yd7 ?_|(refine X_id ?_;first|refine Yaf ?_|refine Yag ?_|refine Yat ?_|refine Yan ?_|refine Ya3 ?_|refine Yao (fun _ hS _ => ?_))|refine Yeg ?_|refine Yab ?_|refine Yb4 ?_|refine Ya6 ?_|refine Ya7 ?_|refine Yam ?_)
  refine ⟨trivial,?_⟩
  refine St.shutDisk (D := D.flushed) (al := al) (ai := none) (cl := cl) (ci := 0) (DiskM.flushed_ok hok) (by simpa [DiskM.flushed,Zax]) (by simp [DiskM.flushed]) ?_
  have hS := ((hS.pick [0,0]).own_none 326 65 none).pick [1,1,0]
  rw [List.take_length] at hS
  simpa [DiskM.flushed,Zax,Za8] using hS
/-! ### Flush -/
def DiskM.flush (D : DiskM) : Int × DiskM :=
 if D.off then (9,D) else if useB D.off D.armed D.left = false then (9,D.used)
 else (0,{ D.used.flushed with flushes := IntKind.i64.wrap (D.flushes + 1) })
theorem DiskM.flush_use {D : DiskM} (h : D.off = false) (hu : useB D.off D.armed D.left = false) : D.flush = (9,D.used) := by
 unfold DiskM.flush
 rw [if_neg (by simp [h]),if_pos hu]
theorem DiskM.flush_yes {D : DiskM} (h : D.off = false) (hu : useB D.off D.armed D.left = true) : D.flush = (0,{ D.used.flushed with flushes := IntKind.i64.wrap (D.flushes + 1) }) := by
 unfold DiskM.flush
 rw [if_neg (by simp [h]),if_neg (by simp [hu])]
theorem Z3t (p : Nat) (D : DiskM) (W : World) (F : Nat → Prop) (hS : St W F [disk p D] W) (hline : D.line.length < 1073741824) :
  Calls Tryz.prog 196 #[.pointer (some ⟨p,0,none⟩)] W (Ret fun v w => v = .int .i64 D.flush.1 ∧ St W F [disk p D.flush.2] w) := by
 have hd := hS.rd (List.mem_cons_self ..)
 have hon := on_ p D W hd
 have hok := hd.disk.1
 cases hoff : D.off
 ·rw [hoff] at hon
  refine Zab Tryz.func196 rfl Tryz.ntmps196 rfl ?_
  repeat (first|refine Yen ?_|(refine X_id ?_;first|(refine Zaa 76 rfl rfl rfl rfl rfl hon ?_;rintro _ _ ⟨rfl,rfl⟩)|refine Yaf ?_|refine Yag ?_|refine Yat ?_|refine Yan ?_|refine Ybc ?_)|refine Yd8 ?_|refine Yab ?_)
  obtain ⟨hok,al,cl,ai,ci,c1,c2,hS⟩ := hS.openDisk
  cases huse : useB D.off D.armed D.left
  ·skip
   obtain ⟨_,hc,hr,hw,hbk⟩ := hS.call [true,false,false]
   refine Zaa _ rfl rfl rfl rfl rfl (use_ p D.off D.armed D.left _ _ _ _ hok.left0 hok.left1 hc) ?_
   rintro _ w ⟨rfl,hS⟩
   replace hS := hbk hS
   clear hc hr hw hbk
   rw [huse]
   repeat (first|refine Yen ?_|refine Yag ?_|refine Ya4 ?_|refine Ybr ?_|refine Yeo ?_|refine Yep ?_)
   rw [DiskM.flush_use hoff huse]
   exact ⟨rfl,St.shutDisk (DiskM.used_ok hok) c1 c2 hS⟩
  ·skip
   obtain ⟨_,hc,hr,hw,hbk⟩ := hS.call [true,false,false]
   refine Zaa _ rfl rfl rfl rfl rfl (use_ p D.off D.armed D.left _ _ _ _ hok.left0 hok.left1 hc) ?_
   rintro _ w ⟨rfl,hS⟩
   replace hS := hbk hS
   clear hc hr hw hbk
   rw [huse]
   replace hS : St W F [disk p D.used] w := St.shutDisk (DiskM.used_ok hok) c1 c2 hS
   repeat (first|refine Yen ?_|refine Yaf ?_|refine Ya4 ?_|refine Ybc ?_|refine Yei ?_|refine Yab ?_)
   obtain ⟨_,hc,hr,hw,hbk⟩ := hS.call [true]
   refine Zaa _ rfl rfl rfl rfl rfl (lay_ p D.used _ _ hc hline) ?_
   rintro _ w ⟨_,hS⟩
   replace hS := hbk hS
   clear hc hr hw hbk
   obtain ⟨hok2,al2,cl2,ai2,ci2,d1,d2,hS⟩ := hS.openDisk
   repeat (first|refine Yd7 ?_|refine Yaf ?_|refine Yat ?_|refine Yan ?_|refine Yd8 ?_|refine Yab ?_)
   obtain ⟨_,hc,hr,hw,hbk⟩ := hS.call [true,false,false]
   refine Zaa _ rfl rfl rfl rfl rfl (Z0b p 6 D.flushes 1 _ _ _ _ _ hc) ?_
   rintro _ w ⟨rfl,hS⟩
   replace hS := hbk hS
   clear hc hr hw hbk
   repeat (first|refine Yd7 ?_|refine Yag ?_|refine Yek ?_|refine Yd9 ?_)
   rw [DiskM.flush_yes hoff huse]
   exact ⟨rfl,St.shutDisk (D := { D.used.flushed with flushes := IntKind.i64.wrap (D.flushes + 1) }) ⟨hok2.1,hok2.2,hok2.3,hok2.4,hok2.5,hok2.6⟩ d1 d2 hS⟩
 ·rw [hoff] at hon
  refine Zab Tryz.func196 rfl Tryz.ntmps196 rfl ?_
  repeat (first|refine Yeq ?_|(refine X_id ?_;first|(refine Zaa 76 rfl rfl rfl rfl rfl hon ?_;rintro _ _ ⟨rfl,rfl⟩)|refine Yaf ?_|refine Yag ?_|refine Ybd ?_|refine Ybr ?_)|refine Yeo ?_|refine Yep ?_)
  exact ⟨by simp [DiskM.flush,hoff],by simpa [DiskM.flush,hoff] using hS⟩

/-! ### Read -/
theorem Zm0 {b : Nat} {l : List Value} {T : TypeId} : ∀ h,pts b (.cells l.toArray T (0,0)) h → row (some ⟨b,0,none⟩) l h := fun _ hg => .inr ⟨b,0,l.toArray,T,(0,0),rfl,hg,fun j v hv => by simpa using hv⟩
theorem Zqj {b off n : Nat} {l cs : List Value} {T : TypeId} (hs : (l.drop off).take n = cs) : ∀ h,pts b (.cells l.toArray T (0,0)) h → row (some ⟨b,off,none⟩) cs h := fun _ hg => .inr ⟨b,off,l.toArray,T,(0,0),rfl,hg,fun j v hv => by
 subst hs
 rw [List.getElem?_take] at hv
 split at hv
 ·rw [List.getElem?_drop] at hv
  simpa using hv
 ·cases hv⟩
theorem St.row_none {W : World} {F : Nat → Prop} {rs : List Res} {w : World} (hS : St W F rs w) : St W F (row none [] :: rs) w :=
 hS.imp fun h hh => ⟨fun _ => none,h,.inl ⟨rfl,fun _ => rfl⟩,hh,fun _ => .inl rfl,fun _ => by simp⟩
theorem St.more {W : World} {F : Nat → Prop} {rs : List Res} {w : World} (hS : St W noF rs w) : St W F rs w := by
 obtain ⟨h,hs,s⟩ := hS
 exact ⟨h,hs,s.agrees,fun b o e => (s.foot b o e).elim (fun h => h.elim) .inr,s.size,s.os,s.tape,s.output,fun k hk _ => s.kept k hk (fun h => h)⟩
theorem St.kept {W : World} {rs : List Res} {w : World} {b : Nat} {o : Obj} (hS : St W noF rs w) (h : W.heap[b]? = some o) : w.heap[b]? = some o := by
 have : Rd W (pts b o) := ⟨Zb9 b o,rfl,fun k o' e => by obtain ⟨rfl,rfl⟩ := Zhj e; exact h⟩
 exact (this.ro.rd hS).pts
theorem on_b (p : Nat) (D : DiskM) (b : Bool) (hb : D.off = b) (W : World) (hd : Rd W (disk p D)) : Calls Tryz.prog 76 #[.pointer (some ⟨p,0,none⟩)] W (Ret fun v w => v = .bool (!b) ∧ W = w) := by
 subst hb; exact on_ p D W hd
theorem Z3n (p : Nat) (D : DiskM) (no : Int) (b : Bool) (hb : Zdf D no = b) (W : World) (hd : Rd W (disk p D)) : Calls Tryz.prog 187 #[.pointer (some ⟨p,0,none⟩),.int .i64 no] W (Ret fun v w => v = .bool b ∧ W = w) := by
 subst hb; exact has_ p D no W hd
theorem Zra (a : Option Addr) (n c : Nat) (W : World) : Calls Tryz.prog 188 #[.slice a n c] W
  (Ret fun v w => ∃ bx,v = .func (.func 226) #[] #[.pointer (some ⟨bx,0,none⟩)] ∧ St W noF [pts bx (.cells #[.slice a n c] 160)] w) := by
 have hS := St.start W
 refine Zab Tryz.func188 rfl Tryz.ntmps188 rfl ?_
 repeat (first|refine Yd7 ?_|refine Yag ?_|refine Yce ?_|refine Ya9 (fun _ _ hS _ => ?_)|refine Yek ?_|refine Yd9 ?_)
 exact ⟨_,rfl,hS⟩
def DiskM.find (D : DiskM) (no : Int) : List UInt8 := match D.line.reverse.find? (fun x => x.1 == no) with | some x => x.2 | none => D.laid.getD no.toNat []
def DiskM.read (D : DiskM) (no : Int) : Int × List UInt8 := if D.off then (9,[]) else if Zdf D no = false then (1,[]) else (0,D.find no)
end Cr
namespace Cr
open Go Go.Proofs Go.ChangeShapes Go.WideShapes Go.Deep
section
variable {H : Type} {enc : TypeId × Value → H} {P : Program} {w : World} {base : Nat} {sp : Nat → Bool} {held : Bool}
theorem Rd.ofCellsA {a : Addr} {l : List Value} (h : ∀ i v,l[i]? = some v → w.cell? (a.add i) = some v) : Rd w (row (some a) l) := by
 cases l with
 | nil => exact Zmi w _
 | cons x r =>
  have h0 := h 0 x rfl
  have hsp : a.spot = none := by
   have := World.cell?_spot h0
   simpa [Addr.add] using this
  obtain ⟨b,off,spot⟩ := a
  obtain rfl : spot = none := hsp
  unfold World.cell? at h0
  split at h0
  ·rename_i c t fz hb
   have hb : w.heap[b]? = some (.cells c t fz) := by simpa [Addr.add] using hb
   refine ⟨Zb9 b (.cells c t fz),.inr ⟨b,off,c,t,fz,rfl,rfl,fun i v hv => ?_⟩,fun k o e => ?_⟩
   ·have := h i v hv
    have e : (⟨b,off,none⟩ : Addr).add i = ⟨b,off + i,none⟩ := by
     unfold Addr.add; split
     ·rename_i h; subst h; rfl
     ·rfl
    rw [e,cell_of_row w b (off + i) c t fz hb] at this
    exact this
   ·obtain ⟨rfl,rfl⟩ := Zhj e
    exact hb
  ·cases h0
theorem Z0m {n : Int} (h : (Lit.int .u8 n).wf = true) : Value.int .u8 n = .int .u8 ((UInt8.ofNat n.toNat).toNat : Int) := by
 simp only [Lit.wf,Bool.and_eq_true,decide_eq_true_eq] at h
 have h1 : 0 ≤ n := h.1
 have h2 : n ≤ 255 := h.2
 congr 1
 have : (UInt8.ofNat n.toNat).toNat = n.toNat := by rw [UInt8.toNat_ofNat']; omega
 rw [this]; omega
theorem Ztv {t e : TypeId} {fuel : Nat} {cs : List Value} {x : DataW H × List MemPlace} (ht : P.underlying t = some (.slice e)) (he : P.underlying e = some (.int .u8)) (hc : P.cellsOf e = 1)
  (h : DataW.trod enc P w base sp held fuel t cs = some x) : ∃ a s c,cs = [.slice a s.length c] ∧ s.length ≤ c ∧ c ≤ maxLen ∧ Rd w (bytes a s) := by
 rcases open_ints ht he hc h with ⟨rfl,_⟩ | ⟨a,len,cap,zs,rfl,_,hl,hm,hz,_,hcell,hwf⟩
 ·exact ⟨none,[],0,rfl,Nat.le_refl _,Nat.zero_le _,Zmi w _⟩
 ·have hlz : len ≤ zs.length := by rw [hz]; split <;> omega
  have e1 : bv ((zs.take len).map fun n => UInt8.ofNat n.toNat) = (zs.take len).map fun n => Value.int .u8 n := by
   unfold bv
   rw [List.map_map]
   refine List.map_congr_left fun n hn => ?_
   exact (Z0m (hwf n (List.mem_of_mem_take hn))).symm
  have e2 : ((zs.take len).map fun n => UInt8.ofNat n.toNat).length = len := by simp; omega
  refine ⟨some a,(zs.take len).map fun n => UInt8.ofNat n.toNat,cap,by rw [e2],by rw [e2]; exact hl,hm,?_⟩
  unfold bytes
  rw [e1]
  refine Rd.ofCellsA fun i v hv => ?_
  rw [List.getElem?_map,List.getElem?_take] at hv
  split at hv
  ·rename_i hi
   rw [hcell i (by omega)]
   have h3 : zs[i]? = some zs[i] := List.getElem?_eq_getElem (by omega)
   rw [h3] at hv
   rw [List.getD_eq_getElem?_getD,h3]
   exact hv
  ·cases hv
end
end Cr
namespace Cr
open Go Go.Proofs Go.ChangeShapes Go.WideShapes Go.Deep
section
variable {H : Type} {enc : TypeId × Value → H} {P : Program} {w : World} {base : Nat} {sp : Nat → Bool} {held : Bool}
theorem Zqp {α : Type} [Inhabited α] (f : α → List Value) (Ok : α → Prop) {t e : TypeId} {fuel : Nat} {cs : List Value} {x : DataW H × List MemPlace} (n : Nat) (ht : P.underlying t = some (.slice e)) (ce : P.cellsOf e = n) (hpos : 0 < n)
  (hopen : ∀ (fuel : Nat) (cs : List Value) (y : DataW H × List MemPlace),DataW.trod enc P w base sp held fuel e cs = some y → ∃ a : α,cs = f a ∧ Ok a)
  (h : DataW.trod enc P w base sp held fuel t cs = some x) : ∃ (a : Option Addr) (l : List α) (c : Nat),cs = [.slice a l.length c] ∧ l.length ≤ c ∧ c ≤ maxLen ∧ Rd w (row a (l.flatMap f)) ∧ ∀ y ∈ l,Ok y ∧ (f y).length = n := by
 rcases DataW.trod_slice ht h with ⟨rfl,_⟩ | ⟨a,len,cap,elems,rest,m,_,rfl,_,_,hl,hm,hel,hx,_⟩
 ·exact ⟨none,[],0,rfl,Nat.le_refl _,Nat.zero_le _,Zmi w _,fun _ h => (List.not_mem_nil h).elim⟩
 ·have each : ∀ i,i < len → ∃ q : α,Ok q ∧ (f q).length = n ∧ ∀ k,k < n → w.cell? (a.add (i * n + k)) = (f q)[k]? := fun i hi => by
   have h1 := hx i hi
   rw [List.getElem?_eq_getElem (by omega),ce,Option.bind_eq_some_iff] at h1
   obtain ⟨cs',h2,h3⟩ := h1
   obtain ⟨_,hlen,hcell⟩ := World.cells?_some h2
   obtain ⟨q,rfl,hq⟩ := hopen _ _ _ h3
   exact ⟨q,hq,hlen,fun k hk => by rw [← add_add]; exact hcell k hk⟩
  obtain ⟨q,hq⟩ := choose_lt each
  have hlen : ((List.range len).map q).length = len := by simp
  have hall : ∀ y ∈ (List.range len).map q,Ok y ∧ (f y).length = n := fun y hy => by
   obtain ⟨i,hi,rfl⟩ := List.mem_map.1 hy
   have := hq i (List.mem_range.1 hi)
   exact ⟨this.1,this.2.1⟩
  refine ⟨some a,(List.range len).map q,cap,by rw [hlen],by rw [hlen]; exact hl,hm,Rd.ofCellsA fun k v hv => ?_,hall⟩
  have hfl := Zfc (n := n) fun y hy => (hall y hy).2
  have hk : k / n < len := by
   have := (List.getElem?_eq_some_iff.1 hv).1
   rw [hfl,hlen] at this
   exact (Nat.div_lt_iff_lt_mul hpos).2 this
  have hget : ((List.range len).map q)[k / n]? = some (q (k / n)) := by simp [hk]
  have hsg := Zcl (f := f) (fun y hy => (hall y hy).2) hget
  have hmod : k % n < n := Nat.mod_lt _ hpos
  have hk2 : k / n * n + k % n = k := by rw [Nat.mul_comm]; exact Nat.div_add_mod k n
  have hv3 := congrArg (fun l => l[k % n]?) hsg
  simp only [List.getElem?_take,List.getElem?_drop] at hv3
  rw [if_pos hmod,hk2,hv] at hv3
  have := (hq (k / n) hk).2.2 (k % n) hmod
  rw [hk2] at this
  rw [this]; exact hv3.symm
end
end Cr
namespace Cr
open Go Go.Proofs
set_option maxRecDepth 100000
set_option maxHeartbeats 4000000
attribute [local irreducible] Calls

structure Bs where
 a : Option Addr
 c : Nat
 s : List UInt8
def Bs.val (x : Bs) : Value := .slice x.a x.s.length x.c
structure Bss (W : World) (F : Nat → Prop) (a : Option Addr) (l : List Bs) : Prop where
 row : Ro W F (row a (l.map Bs.val))
 all : ∀ x ∈ l,Ro W F (bytes x.a x.s)
theorem Bss.mono {W w : World} {F F' : Nat → Prop} {a : Option Addr} {l : List Bs} (h : Bss W F a l) (hw : ∀ r,Ro W F r → Ro w F' r) : Bss w F' a l := ⟨hw _ h.row,fun x hx => hw _ (h.all x hx)⟩
def StrM.more (rd fs : List Int) (S : StrM) (l : List UInt8) : StrM := l.foldl (StrM.one rd fs) S
theorem StrM.more_ok {rd fs : List Int} (hf : fs.length = 8) : ∀ {l : List UInt8} {S : StrM},S.ok → (S.more rd fs l).ok
 | [],_,h => h
 | c :: l,S,h => by
  show (StrM.more rd fs (S.one rd fs c) l).ok
  exact StrM.more_ok (rd := rd) hf (StrM.one_ok (rd := rd) h hf)
theorem StrM.more_n {rd fs : List Int} : ∀ {l : List UInt8} {S : StrM},(S.more rd fs l).n = S.n + l.length
 | [],_ => rfl
 | c :: l,S => by
  have := StrM.more_n (rd := rd) (fs := fs) (l := l) (S := S.one rd fs c)
  simp only [StrM.more,List.foldl_cons,List.length_cons] at this ⊢
  rw [this]; simp only [StrM.one]; omega
theorem StrM.more_append {rd fs : List Int} {S : StrM} {l m : List UInt8} : S.more rd fs (l ++ m) = (S.more rd fs l).more rd fs m := by simp [StrM.more]
theorem StrM.more_snoc {rd fs : List Int} {S : StrM} {l : List UInt8} {i : Nat} (h : i < l.length) : S.more rd fs (l.take (i + 1)) = (S.more rd fs (l.take i)).one rd fs (l.getD i 0) := by
 rw [List.take_succ_eq_append_getElem h,StrM.more_append]
 simp [StrM.more,List.getD_eq_getElem?_getD,h]
def Zaj (l : List Bs) : List UInt8 := l.flatMap Bs.s
theorem Zc0 {l : List Bs} {i : Nat} {x : Bs} (h : l[i]? = some x) : Zaj (l.take (i + 1)) = Zaj (l.take i) ++ x.s := by
 obtain ⟨hi,rfl⟩ := List.getElem?_eq_some_iff.1 h
 rw [List.take_succ_eq_append_getElem hi]
 simp only [Zaj,List.flatMap_append,List.flatMap_cons,List.flatMap_nil,List.append_nil]
theorem Zbk (l : List Bs) (i : Nat) : (Zaj (l.take i)).length ≤ (Zaj l).length := by
 have : Zaj l = Zaj (l.take i) ++ Zaj (l.drop i) := by unfold Zaj; rw [← List.flatMap_append,List.take_append_drop]
 rw [this]; simp

theorem Zwf (s : Nat) (S : StrM) (a : Option Addr) (c : Nat) (l : List Bs) (rd fs : List Int) (T : TypeId) (W : World) (F : Nat → Prop) (hok : S.ok) (hn : S.n + (Zaj l).length < 2305843009213693951) (hl : l.length < 2305843009213693951) (hG : Gl W F rd fs)
  (hB : Bss W F a l) (hS : St W F [pts s (.cells S.cells.toArray T)] W) :
  Calls Tryz.prog 112 #[.pointer (some ⟨s,0,none⟩),.slice a l.length c] W (Ret fun v w => v = .pointer (some ⟨s,0,none⟩) ∧ St W F [pts s (.cells (S.more rd fs (Zaj l)).cells.toArray T)] w) := by
 refine Zab Tryz.func112 rfl Tryz.ntmps112 rfl ?_
 repeat (first|refine Yd7 ?_|refine Yaf ?_|refine Yag ?_|refine Yas ?_|refine Ybq ?_|refine Yez ?_|refine Yab ?_)
 refine Zal (α := Nat) (fun i => [(0,.pointer (some ⟨s,0,none⟩)),(11,.slice a l.length c),(12,.int .i64 (l.length : Nat)),(13,.int .i64 (i : Nat))])
  (fun i w => i ≤ l.length ∧ St W F [pts s (.cells (S.more rd fs (Zaj (l.take i))).cells.toArray T)] w) (fun i => l.length - i) 0 ⟨rfl,rfl,rfl,rfl,trivial⟩ ⟨Nat.zero_le _,hS⟩ ?_
 clear hS
 rintro i w ⟨hi,hS⟩
 by_cases hlt : i < l.length
 ·have hx : l[i]? = some l[i] := List.getElem?_eq_getElem hlt
  generalize l[i] = x at hx
  have hxm := List.mem_of_getElem? hx
  have hbx := hB.all x hxm
  have hj := Zc0 hx
  have hle := Zbk l (i + 1)
  rw [hj,List.length_append] at hle
  obtain ⟨ab,ao,rfl⟩ := (hB.row.rd hS).base (by intro e; simp at e; subst e; simp at hlt)
  have hr := hB.row
  replace hx : (l.map Bs.val)[i]? = some (.slice x.a x.s.length x.c) := by simp [hx,Bs.val]
  repeat (first|refine Yd7 ?_|(refine X_id ?_;first|refine Yaf ?_|refine Yag ?_|refine Yas ?_|refine Ya1 ?_|refine Ybb ?_|refine Ybw ?_)|refine Yeb ?_|refine Yab ?_)
  refine Zal (α := Nat) (fun j => [(0,.pointer (some ⟨s,0,none⟩)),(11,.slice (some ⟨ab,ao,none⟩) l.length c),(12,.int .i64 (l.length : Nat)),(13,.int .i64 (i : Nat)),(17,.slice x.a x.s.length x.c),(18,.int .i64 (x.s.length : Nat)),(19,.int .i64 (j : Nat))])
   (fun j w => j ≤ x.s.length ∧ St W F [pts s (.cells (S.more rd fs (Zaj (l.take i) ++ x.s.take j)).cells.toArray T)] w) (fun j => x.s.length - j) 0 ⟨rfl,rfl,rfl,rfl,rfl,rfl,rfl,trivial⟩ ⟨Nat.zero_le _,by simpa using hS⟩ ?_
  clear hS
  rintro j w ⟨hj',hS⟩
  by_cases hjl : j < x.s.length
  ·obtain ⟨xb,xo,hxa⟩ := (hbx.rd hS).base (by intro e; have := Zaf x.s; rw [e] at this; simp at this; omega)
   have hb : Ro W F (bytes (some ⟨xb,xo,none⟩) x.s) := hxa ▸ hbx
   rw [hxa]
   repeat (first|refine Yd7 ?_|(refine X_id ?_;first|refine Yaf ?_|refine Yag ?_|refine Ya1 ?_|refine Ybb ?_|refine X_yl (Zat rfl rfl ((hb.rd hS).cellB' (by omega))) rfl rfl ?_)|refine Yeb ?_|refine Yab ?_)
   obtain ⟨S',hSe⟩ : ∃ S',S' = S.more rd fs (Zaj (l.take i) ++ x.s.take j) := ⟨_,rfl⟩
   have hok' : S'.ok := hSe ▸ StrM.more_ok hG.first8 hok
   have hn' : S'.n < 2305843009213693951 := by rw [hSe,StrM.more_n]; simp; omega
   rw [← hSe] at hS
   obtain ⟨_,hc,hr,hw,hbk⟩ := hS.call [true]
   refine Zaa _ rfl rfl rfl rfl rfl (one_ s S' _ rd fs T _ _ hok' hn' (hG.mono hw) hc) ?_
   rintro _ w ⟨_,hS⟩
   replace hS := hbk hS
   clear hc hr hw hbk
   repeat (first|refine Yd7 ?_|refine Yec ?_|refine Yad ?_|refine Yef ?_)
   refine Zag (j + 1) ⟨rfl,rfl,rfl,rfl,rfl,rfl,rfl,trivial⟩ ⟨by omega,?_⟩ (by omega)
   rw [StrM.more_append,StrM.more_snoc hjl,← StrM.more_append,← hSe]
   rw [show (j : Int).toNat * 1 = j by omega] at hS
   exact hS
  ·obtain rfl : j = x.s.length := by omega
   repeat (first|refine Yd7 ?_|refine Yaf ?_|refine Ya3 ?_|refine Yax ?_|refine Yej ?_|refine Ye0 ?_)
   refine Zag (i + 1) ⟨rfl,rfl,rfl,rfl,trivial⟩ ⟨by omega,?_⟩ (by omega)
   rw [hj]
   rw [List.take_length] at hS
   exact hS
 ·obtain rfl : i = l.length := by omega
  rw [List.take_length] at hS
  repeat (first|refine Yd7 ?_|refine Ye1 ?_|refine Yeg ?_|refine Ye2 ?_)
  exact ⟨rfl,hS⟩

/-! ### Fork -/
def StrM.init : StrM := ⟨List.replicate 8 0,List.replicate 64 0,0⟩
theorem StrM.init_ok : StrM.init.ok := ⟨by simp [init],by simp [init]⟩
theorem Z5n (s : Nat) (S : StrM) (T : TypeId) (W : World) (hok : S.ok) (hs : Rd W (pts s (.cells S.cells.toArray T))) :
  Calls Tryz.prog 171 #[.pointer (some ⟨s,0,none⟩)] W (Ret fun v w => ∃ p,v = .pointer (some ⟨p,0,none⟩) ∧ St W noF [pts p (.cells S.cells.toArray 236)] w) := by
 obtain ⟨H,R,n⟩ := S
 obtain ⟨h8,r64⟩ := hok
 unfold StrM.cells at hs ⊢
 simp only at h8 r64 hs ⊢
 have hl1 : LenO (ints .u32 H) 8 := ⟨by rw [ints_length]; exact h8⟩
 have hl2 : LenO (bv R) 64 := ⟨by simp [r64]⟩
 have hc := hs.ro
 have hS := St.start W
 refine Zab Tryz.func171 rfl Tryz.ntmps171 rfl ?_
 repeat (first|refine Yd7 ?_|(refine X_id ?_;first|refine Yaf ?_|refine Yag ?_|refine Yat ?_|refine Ybn ?_|refine X_yl (Zgs rfl rfl rfl) rfl rfl ?_|refine Ya9 (fun _ _ hS _ => ?_))|refine Yeh ?_|refine Yab ?_)
 rename_i bx wx _
 replace hS : St W noF [pts bx (.cells (ints .u32 (List.replicate 8 0) ++ (bv (List.replicate 64 0) ++ [Value.int .i64 0])).toArray 236)] wx := hS
 have hl3 : LenO (ints .u32 (List.replicate 8 0)) 8 := ⟨by rw [ints_length]; simp⟩
 refine X_yl (Zcq rfl rfl (CellsAt.of_block (hc.rd hS).pts) (by simp [ints_length,h8,r64])) rfl rfl ?_
 repeat (first|refine Yd7 ?_|refine Yaf ?_|refine Yag ?_|refine Yat ?_|refine Ycd (fun _ hS => ?_)|refine Yek ?_|refine Yd9 ?_)
 exact ⟨_,rfl,hS⟩
end Cr
namespace Cr
open Go Go.Proofs Go.ChangeShapes Go.WideShapes Go.Deep
set_option maxRecDepth 100000
instance : Inhabited Bs := ⟨⟨none,0,[]⟩⟩
theorem fmBs : ∀ o : List Bs,o.flatMap (fun e : Bs => [e.val]) = o.map Bs.val
 | [] => rfl
 | y :: o => by rw [List.flatMap_cons,fmBs o]; rfl
theorem Z12 : Tryz.prog.cellsOf 35 = 1 := by kernel_rfl
theorem Zy9 : Tryz.prog.cellsOf 5 = 1 := by kernel_rfl
theorem arg_bss {H : Type} {enc : TypeId × Value → H} {W : World} {p : List MemPlace} {d : DataW H} {v : Value} {base : Nat}
  (hok : Value.okWide Tryz.prog W .any base 55 v) (h : DataW.Trod enc Tryz.prog W 0 (fun _ => true) true 55 v d p) :
  ∃ (a : Option Addr) (l : List Bs) (ca : Nat),v = .slice a l.length ca ∧ Bss W noF a l ∧ ∀ x ∈ l,x.s.length ≤ x.c := by
 obtain ⟨a0,n0,c0,rfl⟩ := okWide_slice Tryz.underlying55 hok
 obtain ⟨fuel,hf⟩ := h
 obtain ⟨a,l,c,e,_,_,hr,hall⟩ := Zqp (fun e : Bs => [e.val]) (fun e => e.s.length ≤ e.c ∧ Rd W (bytes e.a e.s)) 1 Tryz.underlying55 Z12 (by omega) (fun fuel cs y hh => by
  obtain ⟨a1,s1,c1,e1,hl1,_,hb1⟩ := Ztv Tryz.underlying35 Tryz.underlying5 Zy9 hh
  exact ⟨⟨a1,c1,s1⟩,e1,hl1,hb1⟩) hf
 have e : [Value.slice a0 n0 c0] = [.slice a l.length c] := e
 simp only [List.cons.injEq,Value.slice.injEq,and_true] at e
 obtain ⟨rfl,rfl,rfl⟩ := e
 rw [fmBs] at hr
 exact ⟨_,l,_,rfl,⟨hr.ro,fun x hx => (hall x hx).1.2.ro⟩,fun x hx => (hall x hx).1.1⟩
end Cr
namespace Cr
open Go Go.Proofs
set_option maxRecDepth 100000
set_option maxHeartbeats 4000000
attribute [local irreducible] Calls

theorem St.total {W : World} {F : Nat → Prop} {rs : List Res} {w : World} {b : Nat} {S : StrM} {T : TypeId} (hS : St W F rs w) [hh : Has rs b (.cells S.cells.toArray T (0,0))] (hok : S.ok) : w.cell? ⟨b,72,none⟩ = some (.int .i64 (S.n : Nat)) := by
 rw [cell_of_row w b 72 _ T (0,0) hS.has]
 have h1 : (ints .u32 S.H).length = 8 := by rw [ints_length]; exact hok.h8
 have h2 : (bv S.R).length = 64 := by rw [Zaf]; exact hok.r64
 simp only [StrM.cells,List.getElem?_toArray]
 rw [List.getElem?_append_right (by omega),List.getElem?_append_right (by omega),h1,h2]
 rfl
def Z5g (n : Nat) (i : Nat) : UInt8 := b8 (ishr .u64 (IntKind.u64.wrap (IntKind.u64.wrap n * 8)) (8 * (7 - i)))
def lenB (n : Nat) : Nat → List UInt8
 | 0 => []
 | i + 1 => lenB n i ++ [Z5g n i]
def gap (n : Nat) : Nat := (119 - n % 64) % 64
def padB (n : Nat) : List UInt8 := 128 :: List.replicate (gap n) 0 ++ lenB n 8
def StrM.sum (rd fs : List Int) (S : StrM) : List UInt8 := outB (S.more rd fs (padB S.n)).H
theorem StrM.more_one {rd fs : List Int} {S : StrM} {l : List UInt8} {c : UInt8} : (S.more rd fs l).one rd fs c = S.more rd fs (l ++ [c]) := by simp [StrM.more]
theorem sum_ (s : Nat) (S : StrM) (rd fs : List Int) (T : TypeId) (W : World) (hok : S.ok) (hn : S.n < 1152921504606846976) (hG : Gl W noF rd fs) (hs : Rd W (pts s (.cells S.cells.toArray T))) :
  Calls Tryz.prog 113 #[.pointer (some ⟨s,0,none⟩)] W (Ret fun v w => v = .agg (bv (S.sum rd fs)).toArray ∧ St W noF [] w) := by
 have hS := St.start W
 have hso := hs.ro
 have hf := hG.first8
 have key : ∀ l : List UInt8,l.length ≤ 100 → (S.more rd fs l).n < 2305843009213693951 := fun l hl => by rw [StrM.more_n]; omega
 refine Zab Tryz.func113 rfl Tryz.ntmps113 rfl ?_
 repeat (first|refine Yd7 ?_|refine Yaf ?_|refine Yar (fun _ _ hS _ => ?_)|refine Yd8 ?_|refine Yab ?_)
 rename_i b2 _ _
 rw [Zf1] at hS
 refine Zaa _ rfl rfl rfl rfl rfl (Z5n s S T _ hok (hso.rd hS)) ?_
 rintro _ w ⟨p,rfl,hS'⟩
 replace hS := hS.plus hS'
 clear hS'
 repeat (first|refine Yd7 ?_|refine Yaf ?_|refine Yag ?_|refine Yat ?_|refine Yan ?_|refine Yd8 ?_|refine Yab ?_)
 refine X_yl (Zat rfl rfl (hS.total hok)) rfl rfl ?_
 repeat (first|refine Yd7 ?_|refine Yel ?_|refine Yd8 ?_|refine Yab ?_)
 obtain ⟨_,hc,hr,hw,hbk⟩ := hS.call [true,false]
 refine Zaa _ rfl rfl rfl rfl rfl (one_ p S 128 rd fs _ _ _ hok (by omega) (hG.mono hw) hc) ?_
 rintro _ w ⟨_,hS⟩
 replace hS := hbk hS
 clear hc hr hw hbk
 repeat (first|refine Yac ?_|refine Yae ?_|refine Yak ?_|refine Yab ?_)
 refine Zal (α := Nat) (fun k => [(2,.pointer (some ⟨b2,0,none⟩)),(3,.pointer (some ⟨p,0,none⟩)),(4,.int .i64 (S.n : Nat))])
  (fun k w => k ≤ gap S.n ∧ St W noF [pts p (.cells (S.more rd fs (128 :: List.replicate k 0)).cells.toArray 236),pts b2 (.cells (bv (List.replicate 32 0)).toArray 56)] w) (fun k => gap S.n - k) 0 ⟨rfl,rfl,rfl,trivial⟩ ⟨Nat.zero_le _,hS⟩ ?_
 clear hS
 rintro k w ⟨hk,hS⟩
 have hg64 : gap S.n < 64 := by unfold gap; omega
 obtain ⟨S',hSe⟩ : ∃ S',S' = S.more rd fs (128 :: List.replicate k 0) := ⟨_,rfl⟩
 have hok' : S'.ok := hSe ▸ StrM.more_ok hf hok
 have hn' : S'.n = S.n + 1 + k := by rw [hSe,StrM.more_n]; simp; omega
 rw [← hSe] at hS
 by_cases hkk : k < gap S.n
 ·have h56 : ((S'.n : Int) % 64 = 56) = False := by
   have : ¬ (S'.n : Int) % 64 = 56 := by unfold gap at hkk; omega
   simp [this]
  have h56' : ¬ (S'.n : Int) % 64 = 56 := by rw [h56]; exact id
  clear h56
  repeat (first|refine Yaa ?_|refine Yaf ?_|refine Yat ?_|refine Yan ?_|refine Yd8 ?_)
  refine X_yl (Zat rfl rfl (hS.total hok')) rfl rfl ?_
  repeat (first|refine Yd7 ?_|refine Yaf ?_|refine Ybl ?_|refine Yci ?_|refine Yad ?_|refine Yak ?_|refine Yal ?_|refine Yaj ?_|refine Yab ?_)
  obtain ⟨_,hc,hr,hw,hbk⟩ := hS.call [true,false]
  refine Zaa _ rfl rfl rfl rfl rfl (one_ p S' 0 rd fs _ _ _ hok' (by omega) (hG.mono hw) hc) ?_
  rintro _ w ⟨_,hS⟩
  replace hS := hbk hS
  clear hc hr hw hbk
  repeat (first|refine Yac ?_|refine Yav ?_)
  refine Zag (k + 1) ⟨rfl,rfl,rfl,trivial⟩ ⟨by omega,?_⟩ (by omega)
  rw [hSe,StrM.more_one] at hS
  rw [show (128 :: List.replicate (k + 1) 0 : List UInt8) = 128 :: List.replicate k 0 ++ [0] by simp [List.replicate_succ']]
  exact hS
 ·obtain rfl : k = gap S.n := by omega
  have h56 : (S'.n : Int) % 64 = 56 := by unfold gap at hn'; omega
  repeat (first|refine Yaa ?_|refine Yaf ?_|refine Yat ?_|refine Yan ?_|refine Yd8 ?_)
  refine X_yl (Zat rfl rfl (hS.total hok')) rfl rfl ?_
  repeat (first|refine Yd7 ?_|refine Yaf ?_|refine Yba ?_|refine Yci ?_|refine Yae ?_|refine Yad ?_|refine Yak ?_|refine Ya5 ?_|refine Yai ?_|refine Yed ?_)
  rw [hSe] at hS
  clear hSe hok' hn' h56
  refine Zal (α := Nat) (fun i => [(2,.pointer (some ⟨b2,0,none⟩)),(3,.pointer (some ⟨p,0,none⟩)),(4,.int .i64 (S.n : Nat)),(22,.int .i64 (i : Nat))])
   (fun i w => i ≤ 8 ∧ St W noF [pts p (.cells (S.more rd fs (128 :: List.replicate (gap S.n) 0 ++ lenB S.n i)).cells.toArray 236),pts b2 (.cells (bv (List.replicate 32 0)).toArray 56)] w) (fun i => 8 - i) 0 ⟨rfl,rfl,rfl,rfl,trivial⟩ ⟨Nat.zero_le _,by simpa [lenB] using hS⟩ ?_
  clear hS
  rintro i w ⟨hi,hS⟩
  have hlen : ∀ i,(lenB S.n i).length = i := fun i => by
   induction i with
   | zero => rfl
   | succ i ih => simp [lenB,ih]
  obtain ⟨S',hSe⟩ : ∃ S',S' = S.more rd fs (128 :: List.replicate (gap S.n) 0 ++ lenB S.n i) := ⟨_,rfl⟩
  have hok' : S'.ok := hSe ▸ StrM.more_ok hf hok
  have hn' : S'.n < 2305843009213693951 := by rw [hSe]; exact key _ (by simp [hlen]; omega)
  rw [← hSe] at hS
  by_cases h8 : i < 8
  ·repeat (first|refine Yd7 ?_|(refine X_id ?_;first|refine Yaf ?_|refine Yag ?_|refine Ya1 ?_|refine Yb1 ?_|refine Ycc ?_|refine X_yl (Zwu rfl rfl rfl rfl) rfl rfl ?_|refine Yc3 ?_|refine Ydc ?_|refine Ycx ?_)|refine Yeb ?_|refine Yab ?_)
   obtain ⟨_,hc,hr,hw,hbk⟩ := hS.call [true,false]
   refine Zaa _ rfl rfl rfl rfl rfl (one_ p S' _ rd fs _ _ _ hok' hn' (hG.mono hw) hc) ?_
   rintro _ w ⟨_,hS⟩
   replace hS := hbk hS
   clear hc hr hw hbk
   repeat (first|refine Yd7 ?_|refine Yec ?_|refine Yad ?_|refine Yef ?_)
   refine Zag (i + 1) ⟨rfl,rfl,rfl,rfl,trivial⟩ ⟨by omega,?_⟩ (by omega)
   rw [hSe,StrM.more_one] at hS
   simp only [lenB,← List.append_assoc]
   rw [show (8 * (7 - (i : Int))).toNat = 8 * (7 - i) by omega] at hS
   exact hS
  ·obtain rfl : i = 8 := by omega
   have hlen32 : LenO (bv (outB S'.H)) 32 := ⟨by rw [Zaf]; exact Zd3 _⟩
   repeat (first|refine Yd7 ?_|(refine X_id ?_;first|(refine Zae 172 rfl rfl rfl rfl rfl hS (Z4d p S'.H _ 236 _ hok'.h8 (hS.rd (List.mem_cons_self ..))) ?_;rintro _ _ rfl hS)|refine Yaf ?_|refine Yat ?_|refine Yan ?_|refine Ya3 ?_|refine Ycd (fun _ hS => ?_))|refine Yeg ?_|refine Yab ?_|refine Ya6 ?_|refine Ya7 ?_|refine Ybv ?_)
   refine ⟨?_,hS.drops⟩
   rw [hSe]
   rfl
end Cr
namespace Cr
open Go Go.Proofs
set_option maxRecDepth 100000
set_option maxHeartbeats 4000000
attribute [local irreducible] Calls

def Zv5 (n : Nat) (i : Nat) : UInt8 := b8 (ishr .i64 n (8 * (3 - i)))
def Zfw (n : Nat) : Nat → List UInt8
 | 0 => List.replicate 4 0
 | i + 1 => (Zfw n i).set i (Zv5 n i)
theorem Zes (n : Nat) : ∀ i,(Zfw n i).length = 4
 | 0 => by simp [Zfw]
 | i + 1 => by simp [Zfw,Zes n i]
def Zo9 (n : Nat) : List UInt8 := Zfw n 4
theorem Zb8 (n : Nat) : (Zo9 n).length = 4 := Zes n 4
def Zbq (l : List (List UInt8)) : List UInt8 := l.flatMap fun s => Zo9 s.length ++ s
theorem Zkf {l : List (List UInt8)} {i : Nat} {x : List UInt8} (h : l[i]? = some x) : Zbq (l.take (i + 1)) = Zbq (l.take i) ++ (Zo9 x.length ++ x) := by
 obtain ⟨hi,rfl⟩ := List.getElem?_eq_some_iff.1 h
 rw [List.take_succ_eq_append_getElem hi]
 simp only [Zbq,List.flatMap_append,List.flatMap_cons,List.flatMap_nil,List.append_nil]
theorem Zgq (l : List (List UInt8)) (i : Nat) : (Zbq (l.take i)).length ≤ (Zbq l).length := by
 have : Zbq l = Zbq (l.take i) ++ Zbq (l.drop i) := by unfold Zbq; rw [← List.flatMap_append,List.take_append_drop]
 rw [this]; simp
def digest (rd fs : List Int) (l : List (List UInt8)) : List UInt8 := (StrM.init.more rd fs (Zbq l)).sum rd fs
theorem Zap (rd fs : List Int) (l : List (List UInt8)) : (digest rd fs l).length = 32 := by unfold digest StrM.sum; exact Zd3 _
attribute [irreducible] digest
def Zar (l : List Bs) : List (List UInt8) := l.map Bs.s
theorem Zne (a : Option Addr) (c : Nat) (l : List Bs) (rd fs : List Int) (W : World) (hn : (Zbq (Zar l)).length < 1152921504606846976) (hl : l.length < 2305843009213693951) (hG : Gl W noF rd fs) (hB : Bss W noF a l) :
  Calls Tryz.prog 70 #[.slice a l.length c] W (Ret fun v w => v = .agg (bv (digest rd fs (Zar l))).toArray ∧ St W noF [] w) := by
 have hS := St.start W
 have hf := hG.first8
 refine Zab Tryz.func70 rfl Tryz.ntmps70 rfl ?_
 repeat (first|refine Yd7 ?_|(refine X_id ?_;first|refine Yaf ?_|refine Yag ?_|refine Yas ?_|refine Ybn ?_|refine Ya9 (fun _ _ hS _ => ?_)|refine Yar (fun _ _ hS _ => ?_))|refine Yea ?_|refine Yab ?_)
 rename_i b2 _ _ _ p wp _
 rw [Zf1] at hS
 replace hS : St W noF [pts p (.cells StrM.init.cells.toArray 236),pts b2 (.cells (bv (List.replicate 32 0)).toArray 56)] wp := hS
 refine Zal (α := Nat) (fun i => [(2,.pointer (some ⟨b2,0,none⟩)),(3,.pointer (some ⟨p,0,none⟩)),(10,.slice a l.length c),(11,.int .i64 (l.length : Nat)),(12,.int .i64 (i : Nat))])
  (fun i w => i ≤ l.length ∧ St W noF [pts p (.cells (StrM.init.more rd fs (Zbq ((Zar l).take i))).cells.toArray 236),pts b2 (.cells (bv (List.replicate 32 0)).toArray 56)] w) (fun i => l.length - i) 0 ⟨rfl,rfl,rfl,rfl,rfl,trivial⟩ ⟨Nat.zero_le _,hS⟩ ?_
 clear hS
 rintro i w ⟨hi,hS⟩
 have hle := Zgq (Zar l) i
 obtain ⟨S',hSe⟩ : ∃ S',S' = StrM.init.more rd fs (Zbq ((Zar l).take i)) := ⟨_,rfl⟩
 have hok' : S'.ok := hSe ▸ StrM.more_ok hf StrM.init_ok
 have hn' : S'.n = (Zbq ((Zar l).take i)).length := by rw [hSe,StrM.more_n]; simp [StrM.init]
 rw [← hSe] at hS
 by_cases hlt : i < l.length
 ·have hx0 : l[i]? = some l[i] := List.getElem?_eq_getElem hlt
  generalize l[i] = x at hx0
  have hxm := List.mem_of_getElem? hx0
  have hbx := hB.all x hxm
  have hj := Zkf (l := Zar l) (i := i) (x := x.s) (by simp [Zar,hx0])
  have hle1 := Zgq (Zar l) (i + 1)
  rw [hj,List.length_append,List.length_append,Zb8] at hle1
  obtain ⟨ab,ao,rfl⟩ := (hB.row.rd hS).base (by intro e; simp at e; subst e; simp at hlt)
  have hr := hB.row
  have hx : (l.map Bs.val)[i]? = some (.slice x.a x.s.length x.c) := by simp [hx0,Bs.val]
  repeat (first|refine Yd7 ?_|refine Ye8 ?_|refine Yar (fun _ _ hS _ => ?_)|refine Yeb ?_|refine Yab ?_)
  rename_i b6 _ _
  refine Zal (α := Nat) (fun j => [(2,.pointer (some ⟨b2,0,none⟩)),(3,.pointer (some ⟨p,0,none⟩)),(10,.slice (some ⟨ab,ao,none⟩) l.length c),(11,.int .i64 (l.length : Nat)),(12,.int .i64 (i : Nat)),(5,.slice x.a x.s.length x.c),(6,.pointer (some ⟨b6,0,none⟩)),(16,.int .i64 (j : Nat))])
   (fun j w => j ≤ 4 ∧ St W noF [pts b6 (.cells (bv (Zfw x.s.length j)).toArray 250),pts p (.cells S'.cells.toArray 236),pts b2 (.cells (bv (List.replicate 32 0)).toArray 56)] w) (fun j => 4 - j) 0 ⟨rfl,rfl,rfl,rfl,rfl,rfl,rfl,rfl,trivial⟩ ⟨Nat.zero_le _,hS⟩ ?_
  clear hS
  rintro j w ⟨hj4,hS⟩
  obtain ⟨B,hBe⟩ : ∃ B,B = Zfw x.s.length j := ⟨_,rfl⟩
  have hBl : B.length = 4 := by rw [hBe]; exact Zes _ _
  rw [← hBe] at hS
  by_cases hj : j < 4
  ·repeat (first|refine Yd7 ?_|(refine X_id ?_;first|refine Yaf ?_|refine Yag ?_|refine Yas ?_|refine Ya1 ?_|refine Yds ?_|refine Yax ?_|refine Yb1 ?_|refine Ycc ?_|refine Yc3 ?_|refine Ycx ?_|refine Znt rfl rfl rfl rfl hS (by omega) (fun _ hS => ?_))|refine Yeb ?_|refine Yef ?_)
   refine Zag (j + 1) ⟨rfl,rfl,rfl,rfl,rfl,rfl,rfl,rfl,trivial⟩ ⟨by omega,?_⟩ (by omega)
   simp only [Zfw,Zv5]
   rw [← hBe]
   rw [show (8 * (3 - (j : Int))).toNat = 8 * (3 - j) by omega,show 0 + (j : Int).toNat * 1 = j by omega] at hS
   exact hS
  ·obtain rfl : j = 4 := by omega
   repeat (first|refine Yd7 ?_|refine Yaf ?_|refine Ya3 ?_|refine Yc6 ?_|refine Ybf (fun _ _ hS _ => ?_)|refine Yej ?_|refine Yed ?_)
   rename_i nb wb _
   obtain ⟨_,hc,hr,hw,hbk⟩ := hS.call [false,false,true]
   have hBs : Bss wb _ (some ⟨nb,0,none⟩) [⟨some ⟨b6,0,none⟩,4,B⟩,x] := ⟨by
    have := (hr _ (List.mem_cons_self ..)).own_row
    simpa [Bs.val,hBl] using this,fun y hy => by
    simp only [List.mem_cons,List.not_mem_nil,or_false] at hy
    rcases hy with rfl | rfl
    ·exact (hr _ (List.mem_cons_of_mem _ (List.mem_cons_self ..))).mono fun h hh => ⟨h,Zga (n := 4) (by simp [← Zaf,← hBl]) h hh,fun _ _ e => e⟩
    ·exact hw _ hbx⟩
   refine Zaa _ rfl rfl rfl rfl rfl (Zwf p S' _ _ _ rd fs _ _ _ hok' (by simp [Zaj,hBl]; omega) (by simp) (hG.mono hw) hBs hc) ?_
   rintro _ w ⟨rfl,hS⟩
   replace hS := hbk hS
   clear hc hr hw hbk hBs
   repeat (first|refine Yd7 ?_|refine Yec ?_|refine Yad ?_|refine Yef ?_)
   refine Zag (i + 1) ⟨rfl,rfl,rfl,rfl,rfl,trivial⟩ ⟨by omega,?_⟩ (by omega)
   have hS := hS.pick [0,2]
   rw [Zkf (x := x.s) (by simp [Zar,hx0]),StrM.more_append,← hSe]
   rw [show Zaj [⟨some ⟨b6,0,none⟩,4,B⟩,x] = Zo9 x.s.length ++ x.s by rw [hBe]; simp [Zaj,Zo9]] at hS
   exact hS
 ·obtain rfl : i = l.length := by omega
  have hlen32 : LenO (bv (S'.sum rd fs)) 32 := ⟨by rw [Zaf]; exact Zd3 _⟩
  repeat (first|refine Yd7 ?_|(refine X_id ?_;first|(refine Zae 113 rfl rfl rfl rfl rfl hS (sum_ p S' rd fs 236 _ hok' (by omega) (hG.mono fun r hr => (hr.rd hS).ro) (hS.rd (List.mem_cons_self ..))) ?_;rintro _ _ rfl hS)|refine Yaf ?_|refine Ya3 ?_|refine Ycd (fun _ hS => ?_))|refine Yeg ?_|refine Yab ?_|refine Ya6 ?_|refine Ya7 ?_|refine Ybv ?_)
  refine ⟨?_,hS.drops⟩
  rw [hSe,show (Zar l).take l.length = Zar l from List.take_of_length_le (by simp [Zar])]
  unfold digest
  rfl
end Cr
namespace Cr
open Go Go.Proofs
set_option maxRecDepth 100000
set_option maxHeartbeats 4000000
attribute [local irreducible] Calls

def Zc5 (rd fs : List Int) (l : List UInt8) : List UInt8 := (StrM.init.more rd fs l).sum rd fs
theorem Zbx (rd fs : List Int) (l : List UInt8) : (Zc5 rd fs l).length = 32 := by unfold Zc5 StrM.sum; exact Zd3 _
attribute [irreducible] Zc5
theorem dof_ (a : Option Addr) (c : Nat) (l : List Bs) (rd fs : List Int) (W : World) (hn : (Zaj l).length < 1152921504606846976) (hl : l.length < 2305843009213693951) (hG : Gl W noF rd fs) (hB : Bss W noF a l) :
  Calls Tryz.prog 64 #[.slice a l.length c] W (Ret fun v w => v = .agg (bv (Zc5 rd fs (Zaj l))).toArray ∧ St W noF [] w) := by
 have hS := St.start W
 have hf := hG.first8
 refine Zab Tryz.func64 rfl Tryz.ntmps64 rfl ?_
 repeat (first|refine Yd7 ?_|refine Yaf ?_|refine Ybn ?_|refine Ya9 (fun _ _ hS _ => ?_)|refine Yar (fun _ _ hS _ => ?_)|refine Yd8 ?_|refine Yab ?_)
 rename_i b2 _ _ _ p wp _
 rw [Zf1] at hS
 replace hS : St W noF [pts p (.cells StrM.init.cells.toArray 236),pts b2 (.cells (bv (List.replicate 32 0)).toArray 56)] wp := hS
 obtain ⟨_,hc,hr,hw,hbk⟩ := hS.call [true,false]
 have hBs : Bss wp _ a l := ⟨hw _ hB.row,fun y hy => hw _ (hB.all y hy)⟩
 refine Zaa _ rfl rfl rfl rfl rfl (Zwf p StrM.init _ _ _ rd fs _ _ _ StrM.init_ok (by simp [StrM.init]; omega) hl (hG.mono hw) hBs hc) ?_
 rintro _ w ⟨rfl,hS⟩
 replace hS := hbk hS
 clear hc hr hw hbk hBs
 have hlen32 : LenO (bv ((StrM.init.more rd fs (Zaj l)).sum rd fs)) 32 := ⟨by rw [Zaf]; exact Zd3 _⟩
 have hok' : (StrM.init.more rd fs (Zaj l)).ok := StrM.more_ok hf StrM.init_ok
 have hn' : (StrM.init.more rd fs (Zaj l)).n < 1152921504606846976 := by rw [StrM.more_n]; simp [StrM.init]; omega
 repeat (first|refine Yd7 ?_|(refine X_id ?_;first|(refine Zae 113 rfl rfl rfl rfl rfl hS (sum_ p (StrM.init.more rd fs (Zaj l)) rd fs 236 _ hok' hn' (hG.mono fun r hr => (hr.rd hS).ro) (hS.rd (List.mem_cons_self ..))) ?_;rintro _ _ rfl hS)|refine Ycd (fun _ hS => ?_))|refine Yah ?_|refine Yab ?_|refine Ybv ?_)
 refine ⟨?_,hS.drops⟩
 unfold Zc5
 rfl
end Cr
namespace Cr
open Go
theorem Sep.merge {r s t : Res} {rs : List Res} {h : Frag} (H : Sep (r :: s :: rs) h) (hm : ∀ h1 h3,r h1 → s h3 → (∀ k,h1 k = none ∨ h3 k = none) → t (fun k => (h1 k).or (h3 k))) : Sep (t :: rs) h := by
 obtain ⟨h1,h2,a,⟨h3,h4,b,c,d',u'⟩,d,u⟩ := H
 refine ⟨fun k => (h1 k).or (h3 k),h4,hm h1 h3 a b fun k => ?_,c,fun k => ?_,fun k => ?_⟩
 ·rcases d k with e | e
  ·exact .inl e
  ·rw [u'] at e; simp at e; exact .inr e.1
 ·rcases d k with e | e
  ·rcases d' k with e' | e'
   ·left; simp [e,e']
   ·exact .inr e'
  ·rw [u'] at e; simp at e; exact .inr e.2
 ·rw [u,u']; cases e1 : h1 k <;> simp [e1]
theorem St.merge {W : World} {F : Nat → Prop} {r s t : Res} {rs : List Res} {w : World} (hS : St W F (r :: s :: rs) w) (hm : ∀ h1 h3,r h1 → s h3 → (∀ k,h1 k = none ∨ h3 k = none) → t (fun k => (h1 k).or (h3 k))) : St W F (t :: rs) w :=
 hS.imp fun _ h => h.merge hm
abbrev RowD := Option Addr × List Value
def bag (X : List RowD) : Res := fun h => ∀ x ∈ X,∃ h',row x.1 x.2 h' ∧ ∀ b o,h' b = some o → h b = some o
theorem Ro.bag {W : World} {F : Nat → Prop} {X : List RowD} (H : Ro W F (Cr.bag X)) {x : RowD} (hx : x ∈ X) : Ro W F (row x.1 x.2) := H.mono fun _ hh => hh x hx
theorem Rd.bag {w : World} {X : List RowD} (H : Rd w (Cr.bag X)) {x : RowD} (hx : x ∈ X) : Rd w (row x.1 x.2) := H.mono fun _ hh => hh x hx
theorem Z15 (h : Frag) : bag [] h := fun x hx => by cases hx
section
variable {W : World} {F : Nat → Prop} {rs : List Res} {w : World}
theorem St.bagSub {X Y : List RowD} (hS : St W F (bag X :: rs) w) (h : ∀ x ∈ Y,x ∈ X) : St W F (bag Y :: rs) w := hS.head fun _ hg x hx => hg x (h x hx)
theorem St.bagNil (hS : St W F rs w) : St W F (bag [] :: rs) w := by
 obtain ⟨h,hs,s⟩ := hS
 exact ⟨h,⟨fun _ => none,h,Z15 _,hs,fun _ => .inl rfl,fun _ => by simp⟩,s⟩
theorem Zvj {h1 h3 : Frag} {b : Nat} {o : Obj} (e : h1 b = some o) : (h1 b).or (h3 b) = some o := by rw [e]; rfl
theorem Zr1 {h1 h3 : Frag} (d : ∀ k,h1 k = none ∨ h3 k = none) {b : Nat} {o : Obj} (e : h3 b = some o) : (h1 b).or (h3 b) = some o := by
 rcases d b with e' | e'
 ·rw [e',e]; rfl
 ·rw [e'] at e; cases e
theorem St.bagJoin {X Y : List RowD} (hS : St W F (bag X :: bag Y :: rs) w) : St W F (bag (X ++ Y) :: rs) w :=
 hS.merge fun h1 h3 a b d x hx => by
  rcases List.mem_append.1 hx with hx | hx
  ·obtain ⟨h',hr,hs⟩ := a x hx
   exact ⟨h',hr,fun b o e => Zvj (hs b o e)⟩
  ·obtain ⟨h',hr,hs⟩ := b x hx
   exact ⟨h',hr,fun b o e => Zr1 d (hs b o e)⟩
theorem St.toBag {r : Res} {a : Option Addr} {cs : List Value} (hS : St W F (r :: rs) w) (hr : ∀ h,r h → row a cs h) : St W F (bag [(a,cs)] :: rs) w :=
 hS.head fun h hg x hx => by
  rw [List.mem_singleton] at hx; subst hx
  exact ⟨h,hr h hg,fun _ _ e => e⟩
theorem St.bagAdd {r : Res} {a : Option Addr} {cs : List Value} {X : List RowD} (hS : St W F (r :: bag X :: rs) w) (hr : ∀ h,r h → row a cs h) : St W F (bag ((a,cs) :: X) :: rs) w :=
 (hS.toBag hr).bagJoin
theorem St.bagPart {X : List RowD} {a a' : Option Addr} {cs cs' : List Value} (hS : St W F (bag X :: rs) w) (hx : (a,cs) ∈ X) (hp : ∀ h,row a cs h → ∃ h',row a' cs' h' ∧ ∀ b o,h' b = some o → h b = some o) : St W F (bag ((a',cs') :: X) :: rs) w :=
 hS.head fun h hg x hx' => by
  rcases List.mem_cons.1 hx' with rfl | hx'
  ·obtain ⟨h1,hr,hs⟩ := hg _ hx
   obtain ⟨h2,hr2,hs2⟩ := hp h1 hr
   exact ⟨h2,hr2,fun b o e => hs b o (hs2 b o e)⟩
  ·exact hg x hx'
theorem own.shrink {T : TypeId} {e : Nat} {a : Option Addr} {c : Nat} {cs : List Value} (k : Nat) : ∀ h,own T e a c cs h → own T e a c (cs.take k) h := fun h H => by
 obtain ⟨hl,hm,H⟩ := H
 refine ⟨by rw [List.length_take]; omega,hm,H.imp id fun ⟨b,cells,ha,hh,hs,ht⟩ => ⟨b,cells,ha,hh,hs,?_⟩⟩
 rw [List.length_take,← List.take_take,ht]
end
end Cr
namespace Cr
open Go
section
variable {P : Program} {o : Oper} {σ : Env} {w : World} {N : Nat} {ds : Md} {K : Env → World → Prop}
variable {x : Operand} {t e : TypeId}
theorem Zdt {b n c c' d : Nat} {T : TypeId} {cs : List Value} {W : World} {F : Nat → Prop} {rs rest : List Res} (ho : o.op = .convert t t x) (hx : ev σ x = some (.slice (some ⟨b,0,none⟩) n c)) [hu : Und P t (.slice e)] [he : Und P e (.int .u8)]
  (hd : o.dst = some d) (hN : Nat.blt d N = true) (hS : St W F rs w) [hh : HasOwn rs (some ⟨b,0,none⟩) T 1 c' cs rest] (hpos : 0 < cs.length)
  (hk : ∀ w',St W F (row (some ⟨b,0,none⟩) cs :: rest) w' → K ((d,.slice (some ⟨b,0,none⟩) n c) :: σ) w') : X P o N ds σ w K := ⟨fun f ha K' Q' hK => by
 obtain ⟨g,⟨g1,g2,hown,hrest,hdj,hun⟩,s⟩ := hS.perm hh.has
 obtain ⟨hle,hcm,⟨rfl,_⟩ | ⟨b',cells,hbe,rfl,hcz,ht⟩⟩ := hown
 ·rw [Nat.zero_mul] at hle; omega
 ·obtain rfl : b = b' := by simpa using hbe
  have hb : w.heap[b]? = some (.cells cells T (0,0)) := s.agrees b _ (by rw [hun,Zam]; rfl)
  have hS2 : St W F (pts b (.cells cells T (0,0)) :: rest) w := ⟨g,⟨_,g2,rfl,hrest,hdj,hun⟩,s⟩
  have hlt := Zb3 hb
  have hgb : w.heap[b] = .cells cells T (0,0) := (Array.getElem?_eq_some_iff.1 hb).2
  have u : SetBlock w (w.freeze ⟨b,cells.size,none⟩ 1) b (.cells cells T (cells.size,cells.size + 1)) := by
   unfold World.freeze
   rw [if_neg (by omega)]
   refine ⟨by simp,?_,fun k hk => ?_,rfl,rfl,rfl⟩
   ·rw [Array.getElem?_modify,if_pos rfl,hb]; rfl
   ·rw [Array.getElem?_modify,if_neg (Ne.symm hk)]
  have hexec : (execOp f.eval o).run P w = .ok (.value (.slice (some ⟨b,0,none⟩) n c)) (w.freeze ⟨b,cells.size,none⟩ 1) := by
   have hsh : (shape b).run P w = .ok (some (T,cells.size)) w := by simp [shape,Sem.run,World.shape?,hb]
   have hms : (markStringish ⟨b,0,none⟩).run P w = .ok () (w.freeze ⟨b,cells.size,none⟩ 1) := by
    unfold markStringish
    rw [Sem.run_bind,hsh]
    rfl
   simp [execOp,ho,ha.eval hx,convert,run_underlying hu.und,run_underlying he.und,hms,Result.andThen]
  unfold Oper.wp
  rw [hexec]
  have := hK _ _ _ (ha.put (Zan hN) (.slice (some ⟨b,0,none⟩) n c)) (hk _ ((hS2.set u).head fun h hh => .inr ⟨b,0,cells,T,_,rfl,hh,fun i v hv => by
   rw [← ht,List.getElem?_take] at hv
   split at hv
   ·simpa using hv
   ·cases hv⟩))
  rw [← hd] at this
  exact this⟩
end
end Cr
namespace Cr
open Go
set_option maxRecDepth 10000
section
variable {P : Program} {o : Oper} {σ : Env} {w : World} {x y : Operand} {t ty e : TypeId} {N : Nat} {ds : Md} {K : Env → World → Prop}
theorem Zkx {T bytes d c : Nat} {k k' : IntKind} {W : World} {F : Nat → Prop} {rs : List Res} (ho : o.op = .makeSlice t x y) (hx : ev σ x = some (.int k (c : Nat))) (hy : ev σ y = some (.int k' (c : Nat)))
  [h : Und P t (.slice T)] [hi : Inf P T (.int .u8 0) 1 bytes] (hb : bytes * c ≤ 281474976710656) (hm : c ≤ 9223372036854775807) (hd : o.dst = some d) (hN : Nat.blt d N = true) (hS : St W F rs w)
  (hk : ∀ b w',St W F (pts b (.cells (bv (List.replicate c 0)).toArray T) :: rs) w' → K ((d,.slice (some ⟨b,0,none⟩) c c) :: σ) w') : X P o N ds σ w K :=
 Z0d ho hx hy (by omega) (Int.le_refl _) (by rw [← Int.natCast_mul]; omega) (by omega) hd hN hS fun b w' hS' _ => hk b w' (by
  have e1 : (Value.int .u8 0).cells = #[Value.int .u8 0] := rfl
  rw [e1,Zm6,Int.toNat_natCast,Nat.mul_one,Zf1] at hS'
  exact hS')
theorem Zp1 {N : Nat} {ds : Md} {K : Env → World → Prop} {b off j : Nat} {c : UInt8} {L : List UInt8} {T : TypeId} {W : World} {F : Nat → Prop} {rs rs' : List Res} (ho : o.op = .store t x y) (hx : ev σ x = some (.pointer (some (adr (some ⟨b,off,none⟩) j)))) (hy : ev σ y = some (.int .u8 (c.toNat : Int))) [hs : Siz P t 1]
  (hd : o.dst = none) (hS : St W F rs w) [hh : Has rs b (.cells (bv L).toArray T (0,0))] (hfit : off + j < L.length) [hu : Upd rs b (.cells (bv (L.set (off + j) c)).toArray T (0,0)) rs']
  (h : ∀ w',St W F rs' w' → K σ w') : X P o N ds σ w K := Znt (off := off + j) ho hx hy hd hS hfit h
end
def rds (l : List Bs) : Res := Sep (l.map fun x => bytes x.a x.s)
theorem St.rdsNil {W : World} {F : Nat → Prop} {rs : List Res} {w : World} (hS : St W F rs w) : St W F (rds [] :: rs) w := by
 obtain ⟨h,hs,s⟩ := hS
 exact ⟨h,⟨fun _ => none,h,fun _ => rfl,hs,fun _ => .inl rfl,fun _ => by simp⟩,s⟩
theorem St.rdsCons {W : World} {F : Nat → Prop} {rs : List Res} {w : World} {x : Bs} {l : List Bs} (hS : St W F (bytes x.a x.s :: rds l :: rs) w) : St W F (rds (l ++ [x]) :: rs) w := by
 obtain ⟨h,hs,s⟩ := hS
 refine ⟨h,?_,s⟩
 obtain ⟨h1,h2,a,⟨h3,h4,b,c,d',u'⟩,d,u⟩ := hs
 refine ⟨fun k => (h1 k).or (h3 k),h4,?_,c,fun k => ?_,fun k => ?_⟩
 ·have : Sep (bytes x.a x.s :: (l.map fun x => bytes x.a x.s)) (fun k => (h1 k).or (h3 k)) := ⟨h1,h3,a,b,fun k => by
   rcases d k with e | e
   ·exact .inl e
   ·rw [u'] at e; simp at e; exact .inr e.1,fun _ => rfl⟩
  have p : (bytes x.a x.s :: (l.map fun x => bytes x.a x.s)).Perm ((l ++ [x]).map fun x => bytes x.a x.s) := by
   rw [List.map_append]; exact (List.perm_append_comm (l₁ := [bytes x.a x.s]) (l₂ := l.map fun x => bytes x.a x.s))
  exact Sep.perm p _ this
 ·rcases d k with e | e
  ·rcases d' k with e' | e'
   ·left; simp [e,e']
   ·exact .inr e'
  ·rw [u'] at e; simp at e; exact .inr e.2
 ·rw [u,u']; cases e1 : h1 k <;> simp [e1]
theorem Ro.sep {W : World} {F : Nat → Prop} {rs : List Res} (H : Ro W F (Sep rs)) : ∀ r ∈ rs,Ro W F r := by
 obtain ⟨f,hs,ha⟩ := H
 induction rs generalizing f with
 | nil => intro r hr; cases hr
 | cons x rs ih =>
  obtain ⟨h1,h2,hx,hrs,hd,hu⟩ := hs
  have s1 : ∀ b o,h1 b = some o → f b = some o := fun b o e => by rw [hu,e]; rfl
  have s2 : ∀ b o,h2 b = some o → f b = some o := fun b o e => by
   rw [hu]; rcases hd b with e' | e'
   ·simp [e',e]
   ·rw [e] at e'; simp at e'
  intro r hr
  cases hr with
  | head => exact ⟨h1,hx,fun b o e => ha b o (s1 b o e)⟩
  | tail _ hr => exact ih h2 hrs (fun b o e => ha b o (s2 b o e)) r hr
theorem Ro.rds {W : World} {F : Nat → Prop} {l : List Bs} (H : Ro W F (rds l)) : ∀ x ∈ l,Ro W F (bytes x.a x.s) := fun x hx => Ro.sep H _ (List.mem_map.2 ⟨x,hx,rfl⟩)
end Cr
namespace Cr
open Go
set_option maxRecDepth 10000
section
variable {P : Program} {w : World} {t e : TypeId}
theorem Zfo (d n : Nat) [h : Und P t (.array n e)] [he : Und P e (.int .u8)] [hs : Siz P e 1] [h1 : One P e] (a b : List UInt8) (ha : a.length = n) (hb : b.length = n) :
  (Op.equalIn (d + 2) t (.agg (bv a).toArray) (.agg (bv b).toArray)).run P w = .ok (decide (a = b)) w := by
 unfold Op.equalIn
 simp only [Sem.run_bind,run_underlying h.und,Result.andThen_ok,Zbp (n := 1),Nat.mul_one]
 simp only [Std.Legacy.Range.forIn_eq_forIn_range']
 have hp : ∀ (l : List UInt8) (i : Nat) (hi : i < l.length),(part e (bv l).toArray i).run P w = .ok (.int .u8 (l[i].toNat : Int)) w := fun l i hi => by
  have := Zs3 hi
  simp [part,h1.one,List.getElem?_toArray,this]
 have key : ∀ m s,s + m = n → (forIn (List.range' s m) (none,()) (fun i (__s : Option Bool × Unit) => do
   let __do_lift ← part e (bv a).toArray i
   let __do_lift_1 ← part e (bv b).toArray i
   let __do_lift ← Op.equalIn (d + 1) e __do_lift __do_lift_1
   if (!__do_lift) = true then pure (ForInStep.done (some false,())) else pure (ForInStep.yield (none,()))) : Sem (Option Bool × Unit)).run P w = .ok (if a.drop s = b.drop s then none else some false,()) w := by
  intro m
  induction m with
  | zero =>
   intro s hs
   rw [List.drop_of_length_le (by omega),List.drop_of_length_le (by omega)]
   simp
  | succ m ih =>
   intro s hs
   have hsa : s < a.length := by omega
   have hsb : s < b.length := by omega
   rw [List.range'_succ,List.forIn_cons]
   simp only [Sem.run_bind,hp a s hsa,hp b s hsb,Result.andThen_ok,run_equalIn_int w d e .u8 .u8 _ _ he.und]
   rw [List.drop_eq_getElem_cons hsa,List.drop_eq_getElem_cons hsb]
   by_cases hc : a[s] = b[s]
   ·have e1 : ((a[s].toNat : Int) == (b[s].toNat : Int)) = true := by rw [hc]; simp
    rw [e1]
    simp only [Bool.not_true,Bool.false_eq_true,if_false,Sem.run_pure,Result.andThen_ok]
    rw [ih (s + 1) (by omega),hc]
    simp only [List.cons.injEq,true_and]
   ·have e1 : ((a[s].toNat : Int) == (b[s].toNat : Int)) = false := by
     simp only [beq_eq_false_iff_ne,ne_eq]
     intro h
     exact hc (UInt8.toNat_inj.1 (by omega))
    rw [e1]
    simp only [Bool.not_false,if_true,Sem.run_pure,Result.andThen_ok]
    rw [if_neg (fun h => hc (List.cons.inj h).1)]
 have hz : [:n].size = n := by simp [Std.Legacy.Range.size]
 rw [hz,key n 0 (by omega)]
 by_cases hab : a = b <;> simp [hab]
end
section
variable {P : Program} {o : Oper} {σ : Env} {w : World} {x y : Operand} {t ty e : TypeId}
class NoGuard (P : Program) (t : TypeId) : Prop where
 no : P.eqGuardType P.depth t = false
theorem Ze4 {n : Nat} {a b : List UInt8} (ho : o.op = .binOp .neq t x y ty) (hx : ev σ x = some (.agg (bv a).toArray)) (hy : ev σ y = some (.agg (bv b).toArray)) [h : Und P t (.array n e)] [he : Und P e (.int .u8)] [hs : Siz P e 1] [h1 : One P e] [hg : NoGuard P t] (ha : a.length = n) (hb : b.length = n) :
  Yl P o σ w (.bool (decide (¬ a = b))) := ⟨fun N ds f hf => by
 have h2 := run_eqGuard_agg (P := P) (w := w) .neq t x y (bv a).toArray (bv b).toArray hg.no
 have h3 := run_neq_struct (P := P) (w := w) t (bv a).toArray (bv b).toArray
 have h4 := Zfo (P := P) (w := w) (t := t) (e := e) 9998 n a b ha hb
 have e1 : (!(decide (a = b))) = decide (¬ a = b) := by by_cases q : a = b <;> simp [q]
 simp only [execOp,ho,hf.eval hx,hf.eval hy,Sem.run_bind,h2,h3,h4,Result.andThen_ok,e1]
 rfl⟩
theorem Zwz {n : Nat} {a b : List UInt8} (ho : o.op = .binOp .eql t x y ty) (hx : ev σ x = some (.agg (bv a).toArray)) (hy : ev σ y = some (.agg (bv b).toArray)) [h : Und P t (.array n e)] [he : Und P e (.int .u8)] [hs : Siz P e 1] [h1 : One P e] [hg : NoGuard P t] (ha : a.length = n) (hb : b.length = n) :
  Yl P o σ w (.bool (decide (a = b))) := ⟨fun N ds f hf => by
 have h2 := run_eqGuard_agg (P := P) (w := w) .eql t x y (bv a).toArray (bv b).toArray hg.no
 have h3 := run_eql_struct (P := P) (w := w) t (bv a).toArray (bv b).toArray
 have h4 := Zfo (P := P) (w := w) (t := t) (e := e) 9998 n a b ha hb
 simp only [execOp,ho,hf.eval hx,hf.eval hy,Sem.run_bind,h2,h3,h4,Result.andThen_ok]
 rfl⟩
end
end Cr
