/-
  Layer 2 (digest): bytes,one.
  The wrap of laws whose rows list the tables of digest,bits and strconv: a world for a witness; what the row lists gives the digest's tables.
  Layer 1 (block): what each function of package block does to a disk in memory.
  Layer 1 (block): New,Write,Flush.
  Layer 1 (block): Write,Flush.
  slices.Backward: what the function that it hands back does,round by round.
  Layer 1 (block): lay,Flush,Read.
  A law's arguments,opened: bytes,lists of writes. What is read of them,by the reading that the row gives.
  A law's argument,opened: a slice of structs,whatever their fields; an array of bytes.
  Tokens and acts,as they are handed to a law. No program is in sight.
  The argument of TableLast,opened: a slice of acts.
  A segment of a row that can be read. Over any program.
  Package codec in plain words: what bytes say (parse),how leaves are written (encL),and that the two fit.
  Package codec's values as resources: leaves,lists of leaves; what can be read of them. No program is in sight.
-/
import Derived.Test.YtpbgaojjlepkcaaGreatDoorTba3
import Derived.Deep.DeepWitnessRowRef
import Derived.Lib.ItoaNum
import Derived.Deep.SlicePairs
import Derived.Carry
import Derived.OpenShut
import Derived.Test.YtpbgaojjlepkcaaGreatDoorTba2
import Derived.Lib.AtoiAll
namespace Cr
open Go Go.Proofs
set_option maxRecDepth 100000
set_option maxHeartbeats 4000000
attribute [local irreducible] Calls

/-! ### bytes -/
def Z5d (H : List Int) (i : Nat) : UInt8 := b8 (ishr .u32 (H.getD (i / 4) 0) (24 - i % 4 * 8))
def Zqa (H : List Int) : Nat → List UInt8
 | 0 => List.replicate 32 0
 | i + 1 => (Zqa H i).set i (Z5d H i)
theorem Ze9 (H : List Int) : ∀ i,(Zqa H i).length = 32
 | 0 => by simp [Zqa]
 | i + 1 => by simp [Zqa,Ze9 H i]
def outB (H : List Int) : List UInt8 := Zqa H 32
theorem Zgi (H : List Int) : (outB H).length = 32 := Ze9 H 32
theorem Z4e (s : Nat) (H : List Int) (r : List Value) (T : TypeId) (W : World) (hH : H.length = 8) (hs : Rd W (pts s (.cells (ints .u32 H ++ r).toArray T))) :
  Calls Tryz.prog 194 #[.pointer (some ⟨s,0,none⟩)] W (Ret fun v w => v = .agg (bv (outB H)).toArray ∧ St W noF [] w) := by
 have hS := St.start W
 have hg : Ro W noF (row (some ⟨s,0,none⟩) (ints .u32 H)) := hs.ro.mono fun h hh => ⟨h,Zfq (n := 8) (by rw [List.drop_zero,List.take_append_of_le_length (by rw [ints_length]; omega),List.take_of_length_le (by rw [ints_length]; omega)]) h hh,fun _ _ e => e⟩
 refine Zab Tryz.func194 rfl Tryz.ntmps194 rfl ?_
 repeat (first|refine Yd0 ?_|refine Yaf ?_|refine Yar (fun _ _ hS _ => ?_)|refine Yd3 ?_|refine Yab ?_)
 rename_i b2 _ _ _ b3 _ _
 rw [Zgb] at hS
 refine Zak (α := Nat) (fun i => [(0,.pointer (some ⟨s,0,none⟩)),(2,.pointer (some ⟨b2,0,none⟩)),(3,.pointer (some ⟨b3,0,none⟩)),(5,.int .i64 (i : Nat))])
  (fun i w => i ≤ 32 ∧ St W noF [pts b3 (.cells (bv (Zqa H i)).toArray 79),pts b2 (.cells (bv (List.replicate 32 0)).toArray 79)] w) (fun i => 32 - i) 0 ⟨rfl,rfl,rfl,rfl,trivial⟩ ⟨Nat.zero_le _,hS⟩ ?_
 clear hS
 rintro i w ⟨hi,hS⟩
 obtain ⟨L,hLe⟩ : ∃ L,L = Zqa H i := ⟨_,rfl⟩
 have hL : L.length = 32 := by rw [hLe]; exact Ze9 H i
 rw [← hLe] at hS
 by_cases h32 : i < 32
 ·repeat (first|refine Yd0 ?_|(refine X_id ?_;first|refine Yaf ?_|refine Yag ?_|refine Yau ?_|refine Ya2 ?_|refine Ydr ?_|refine Yax ?_|refine Yb2 ?_|refine Ych ?_|refine Yc8 ?_|refine Ycz ?_|refine Yc9 ?_|refine Yck ?_|refine X_yl (Zar rfl rfl ((hg.rd hS).cellI (by omega))) rfl rfl ?_|refine Zng rfl rfl rfl rfl hS (by omega) (fun _ hS => ?_))|refine Yd4 ?_|refine Yd8 ?_)
  refine Zaf (i + 1) ⟨rfl,rfl,rfl,rfl,trivial⟩ ⟨by omega,?_⟩ (by omega)
  rw [show 0 + (i : Int).toNat * 1 = i by omega,show ((i : Int) / 4).toNat * 1 = i / 4 by omega,show (24 - (i : Int) % 4 * 8).toNat = 24 - i % 4 * 8 by omega,hLe] at hS
  exact hS
 ·obtain rfl : i = 32 := by omega
  have hlen : LenO (bv L) 32 := ⟨by simp [hL]⟩
  repeat (first|refine Yd0 ?_|refine Ya3 ?_|refine Ybe ?_|refine Ycl (fun _ hS => ?_)|refine Yd9 ?_|refine Yab ?_|refine Ya9 ?_|refine Yba ?_|refine Yb0 ?_)
  exact ⟨by rw [hLe]; rfl,hS.drops⟩

/-! ### one -/
structure StrM where
 H : List Int
 R : List UInt8
 n : Nat
structure StrM.ok (S : StrM) : Prop where
 h8 : S.H.length = 8
 r64 : S.R.length = 64
def StrM.cells (S : StrM) : List Value := ints .u32 S.H ++ (bv S.R ++ [.int .i64 (S.n : Nat)])
def Zd2 (fs H : List Int) (n : Nat) : List Int := if n = 0 then fs else H
def StrM.one (rd fs : List Int) (S : StrM) (c : UInt8) : StrM :=
 ⟨if (S.n + 1) % 64 = 0 then Zy6 rd (Zd2 fs S.H S.n) (S.R.set (S.n % 64) c) else Zd2 fs S.H S.n,S.R.set (S.n % 64) c,S.n + 1⟩
structure Gl (W : World) (F : Nat → Prop) (rd fs : List Int) : Prop where
 round : Ro W F (row (some ⟨5,0,none⟩) (ints .u32 rd))
 first : Ro W F (row (some ⟨1,0,none⟩) (ints .u32 fs))
 round64 : rd.length = 64
 first8 : fs.length = 8
theorem Gl.mono {W w : World} {F F' : Nat → Prop} {rd fs : List Int} (h : Gl W F rd fs) (hw : ∀ r,Ro W F r → Ro w F' r) : Gl w F' rd fs := ⟨hw _ h.round,hw _ h.first,h.round64,h.first8⟩
theorem Zev {fs H : List Int} (n : Nat) (h : fs.length = 8) (h' : H.length = 8) : (Zd2 fs H n).length = 8 := by unfold Zd2; split <;> assumption
theorem StrM.one_ok {rd fs : List Int} {S : StrM} {c : UInt8} (h : S.ok) (hf : fs.length = 8) : (S.one rd fs c).ok := by
 refine ⟨?_,by simp [StrM.one,h.r64]⟩
 simp only [StrM.one]
 split
 ·rw [Zo8]; exact Zev _ hf h.h8
 ·exact Zev _ hf h.h8
theorem one_ (s : Nat) (S : StrM) (c : UInt8) (rd fs : List Int) (T : TypeId) (W : World) (F : Nat → Prop) (hok : S.ok) (hn : S.n < 2305843009213693951) (hG : Gl W F rd fs) (hS : St W F [pts s (.cells S.cells.toArray T)] W) :
  Calls Tryz.prog 192 #[.pointer (some ⟨s,0,none⟩),.int .u8 (c.toNat : Int)] W (Ret fun _ w => True ∧ St W F [pts s (.cells (S.one rd fs c).cells.toArray T)] w) := by
 obtain ⟨H,R,n⟩ := S
 obtain ⟨h8,r64⟩ := hok
 unfold StrM.cells at hS
 simp only at h8 r64 hn hS
 have hl1 : LenO (ints .u32 H) 8 := ⟨by rw [ints_length]; exact h8⟩
 have hl2 : LenO (bv R) 64 := ⟨by simp [r64]⟩
 have hl3 : LenO (ints .u32 fs) 8 := ⟨by rw [ints_length]; exact hG.first8⟩
 refine Zab Tryz.func192 rfl Tryz.ntmps192 rfl ?_
 have hc1 : ∀ H',Zd2 fs H n = H' → H'.length = 8 := fun H' e => e ▸ Zev n hG.first8 h8
 have hend : ∀ H' w,Zd2 fs H n = H' → St W F [pts s (.cells (ints .u32 (if (n + 1) % 64 = 0 then Zy6 rd H' (R.set (n % 64) c) else H') ++ (bv (R.set (n % 64) c) ++ [Value.int .i64 ((n + 1 : Nat) : Int)])).toArray T)] w →
   St W F [pts s (.cells (StrM.one rd fs ⟨H,R,n⟩ c).cells.toArray T)] w := fun H' w e h => by
  unfold StrM.one StrM.cells; simp only [e]; exact h
 have ei : ((n : Int) % 64).toNat * 1 = n % 64 := by omega
 by_cases h0 : n = 0
 all_goals by_cases h64 : (n + 1) % 64 = 0
 ·repeat (first|refine Yd0 ?_|(refine X_id ?_;first|refine Yaf ?_|refine Yau ?_|refine Yan ?_|refine Ybi ?_|refine Yap ?_)|refine Yea ?_|refine Yab ?_)
  refine X_yl (Zcx rfl rfl ((hG.first.rd hS).cellsAt rfl) (by rw [ints_length]; exact hG.first8)) rfl rfl ?_
  repeat (first|refine Yd0 ?_|refine Yau ?_|refine Yan ?_|refine Yao (fun _ hS _ => ?_)|refine Yae ?_|refine Yab ?_)
  have e1 : Zd2 fs H n = fs := by simp [Zd2,h0]
  refine Zao (.s 0 (.s 1 (.s 2 (.s 3 (.s 4 (.s 5 (.s 6 (.s 7 (.s 8 (.s 9 (.h 10 .nil .no))))))))))) mixed (by kernel_rfl) rfl ?_
  have hS := hS.drew
  repeat (first|refine Yd0 ?_|(refine X_id ?_;first|refine Yaf ?_|refine Yau ?_|refine Yan ?_|refine Ybi ?_|refine Yax ?_|refine Yck ?_|refine Yap ?_|refine Ydf (fun _ hS => ?_)|refine Yao (fun _ hS _ => ?_))|refine Yea ?_|refine Yab ?_|(refine Zad ?_;first|refine Yay ?_|refine Ya0 ?_|refine Ybq ?_|refine Ybj ?_|refine Ycr ?_|refine Ydg ?_|refine Ybm ?_|refine Yas ?_)|(refine Zac ?_;first|refine Yaz ?_))
  rw [ei] at hS
  refine Zao (.s 0 (.s 1 (.s 2 (.s 3 (.s 4 (.s 5 (.s 6 (.h 7 .nil .no)))))))) mixed (by kernel_rfl) rfl ?_
  have hS := hS.drew
  repeat (first|(refine Zad ?_;first|refine Ya0 ?_|refine Ybq ?_|refine Ybj ?_|refine Yda ?_|refine Yas ?_))
  obtain ⟨_,hc,hr,hw,hbk⟩ := hS.call [true]
  refine Zaa _ rfl rfl rfl rfl rfl (mix_ s fs rd (R.set (n % 64) c) (↑n + 1) T _ _ (hc1 _ e1) (by simp [r64]) hG.round64 (hw _ hG.round) hc) ?_
  rintro _ w ⟨_,hS⟩
  replace hS := hbk hS
  clear hc hr hw hbk
  repeat (first|refine Ybs ?_|(refine Zad ?_;first|refine Yay ?_)|(refine Zac ?_;first|refine Yaz ?_))
  refine ⟨trivial,hend _ _ e1 ?_⟩
  rw [if_pos h64]
  exact hS
 ·repeat (first|refine Yd0 ?_|(refine X_id ?_;first|refine Yaf ?_|refine Yau ?_|refine Yan ?_|refine Ybi ?_|refine Yap ?_)|refine Yea ?_|refine Yab ?_)
  refine X_yl (Zcx rfl rfl ((hG.first.rd hS).cellsAt rfl) (by rw [ints_length]; exact hG.first8)) rfl rfl ?_
  repeat (first|refine Yd0 ?_|refine Yau ?_|refine Yan ?_|refine Yao (fun _ hS _ => ?_)|refine Yae ?_|refine Yab ?_)
  have e1 : Zd2 fs H n = fs := by simp [Zd2,h0]
  refine Zao (.s 0 (.s 1 (.s 2 (.s 3 (.s 4 (.s 5 (.s 6 (.s 7 (.s 8 (.s 9 (.h 10 .nil .no))))))))))) mixed (by kernel_rfl) rfl ?_
  have hS := hS.drew
  repeat (first|refine Yd0 ?_|(refine X_id ?_;first|refine Yaf ?_|refine Yau ?_|refine Yan ?_|refine Ybh ?_|refine Yax ?_|refine Yck ?_|refine Yap ?_|refine Ydf (fun _ hS => ?_)|refine Yao (fun _ hS _ => ?_))|refine Yeb ?_|refine Yab ?_|refine Ybs ?_|(refine Zad ?_;first|refine Yay ?_|refine Ya0 ?_|refine Ybq ?_|refine Ybj ?_|refine Ycr ?_|refine Ydg ?_|refine Ybm ?_|refine Yas ?_)|(refine Zac ?_;first|refine Yaz ?_))
  rw [ei] at hS
  refine ⟨trivial,hend _ _ e1 ?_⟩
  rw [if_neg h64]
  exact hS
 ·have e1 : Zd2 fs H n = H := by simp [Zd2,h0]
  repeat (first|refine Yd0 ?_|(refine X_id ?_;first|refine Yaf ?_|refine Yau ?_|refine Yan ?_|refine Ybh ?_|refine Yap ?_)|refine Yeb ?_|refine Yab ?_)
  refine Zao (.s 0 (.s 1 (.s 2 (.s 3 (.s 4 (.s 5 (.s 6 (.s 7 (.s 8 (.s 9 (.h 10 .nil .no))))))))))) mixed (by kernel_rfl) rfl ?_
  have hS := hS.drew
  repeat (first|refine Yd0 ?_|(refine X_id ?_;first|refine Yaf ?_|refine Yau ?_|refine Yan ?_|refine Ybi ?_|refine Yax ?_|refine Yck ?_|refine Yap ?_|refine Ydf (fun _ hS => ?_)|refine Yao (fun _ hS _ => ?_))|refine Yea ?_|refine Yab ?_|(refine Zad ?_;first|refine Yay ?_|refine Ya0 ?_|refine Ybq ?_|refine Ybj ?_|refine Ycr ?_|refine Ydg ?_|refine Ybm ?_|refine Yas ?_)|(refine Zac ?_;first|refine Yaz ?_))
  rw [ei] at hS
  refine Zao (.s 0 (.s 1 (.s 2 (.s 3 (.s 4 (.s 5 (.s 6 (.h 7 .nil .no)))))))) mixed (by kernel_rfl) rfl ?_
  have hS := hS.drew
  repeat (first|(refine Zad ?_;first|refine Ya0 ?_|refine Ybq ?_|refine Ybj ?_|refine Yda ?_|refine Yas ?_))
  obtain ⟨_,hc,hr,hw,hbk⟩ := hS.call [true]
  refine Zaa _ rfl rfl rfl rfl rfl (mix_ s H rd (R.set (n % 64) c) (↑n + 1) T _ _ (hc1 _ e1) (by simp [r64]) hG.round64 (hw _ hG.round) hc) ?_
  rintro _ w ⟨_,hS⟩
  replace hS := hbk hS
  clear hc hr hw hbk
  repeat (first|refine Ybs ?_|(refine Zad ?_;first|refine Yay ?_)|(refine Zac ?_;first|refine Yaz ?_))
  refine ⟨trivial,hend _ _ e1 ?_⟩
  rw [if_pos h64]
  exact hS
 ·have e1 : Zd2 fs H n = H := by simp [Zd2,h0]
  repeat (first|refine Yd0 ?_|(refine X_id ?_;first|refine Yaf ?_|refine Yau ?_|refine Yan ?_|refine Ybh ?_|refine Yap ?_)|refine Yeb ?_|refine Yab ?_)
  refine Zao (.s 0 (.s 1 (.s 2 (.s 3 (.s 4 (.s 5 (.s 6 (.s 7 (.s 8 (.s 9 (.h 10 .nil .no))))))))))) mixed (by kernel_rfl) rfl ?_
  have hS := hS.drew
  repeat (first|refine Yd0 ?_|(refine X_id ?_;first|refine Yaf ?_|refine Yau ?_|refine Yan ?_|refine Ybh ?_|refine Yax ?_|refine Yck ?_|refine Yap ?_|refine Ydf (fun _ hS => ?_)|refine Yao (fun _ hS _ => ?_))|refine Yeb ?_|refine Yab ?_|refine Ybs ?_|(refine Zad ?_;first|refine Yay ?_|refine Ya0 ?_|refine Ybq ?_|refine Ybj ?_|refine Ycr ?_|refine Ydg ?_|refine Ybm ?_|refine Yas ?_)|(refine Zac ?_;first|refine Yaz ?_))
  rw [ei] at hS
  refine ⟨trivial,hend _ _ e1 ?_⟩
  rw [if_neg h64]
  exact hS
end Cr
namespace Go.Proofs.YtpbgaojjlepkcaaGreatDoor
open Go.ChangeShapes Go.WideShapes Go.ChangeAt Go.RowKit
set_option maxRecDepth 100000
def Z47 : List Int := [0,1,28,2,29,14,24,3,30,22,20,15,25,17,4,8,31,27,13,23,21,19,16,7,26,12,18,6,11,5,10,9]
def Z46 : List Int := [0,1,56,2,57,49,28,3,61,58,42,50,38,29,17,4,62,47,59,36,45,43,51,22,53,39,33,30,24,18,12,5,63,55,48,27,60,41,37,16,46,35,44,21,52,32,23,11,54,26,40,15,34,20,31,10,25,14,19,9,13,8,7,6]
def Zu2 : List UInt8 := [118,97,108,117,101,32,111,117,116,32,111,102,32,114,97,110,103,101]
def Zs6 : List UInt8 := [105,110,118,97,108,105,100,32,115,121,110,116,97,120]
theorem Zv2 : "*" ++ "errors.errorString" = "*errors.errorString" := by decide
theorem Z3y (u : TypeId) (h : Tryz.prog.typeName? 3 u = some "*errors.errorString") : u = 444 :=
 typeName_ptr_named (nm := "errors.errorString") (by rw [Zv2]; kernel_rfl) (by kernel_rfl) (by decide) u (by rw [Zv2]; exact h)
noncomputable def Zrv : Nat := (World.holding Tryz.prog default ⟨#[],#[],[]⟩).heap.size
def u8s (l : List Int) : List Value := l.map fun n => Value.int .u8 n
noncomputable def Zjy (os : Os) : World :=
 let w0 := World.holding Tryz.prog os ⟨#[.cells #[.string (Cr.str Zu2)] 446,.cells #[.string (Cr.str Zs6)] 446],#[],[]⟩
 { w0 with heap := ((((((w0.heap.modify 8 (tabOf (u8s Z47))).modify 9 (tabOf (u8s Z46))).modify 4 (tabOf (Lib.pow10Tab.map fun z => Value.int .u64 z))).modify 7 (tabOf [.iface 444 (.pointer (some ⟨Zrv,0,none⟩))])).modify 6 (tabOf [.iface 444 (.pointer (some ⟨Zrv + 1,0,none⟩))])).modify 5 (tabOf (Cr.ints .u32 Cr.roundL))).modify 1 (tabOf (Cr.ints .u32 Cr.firstL)) }
theorem Zqj {W : World} (h1 : Lib.TabIs Tryz.prog W "creel/digest.round" .u32 Cr.roundL) (h2 : Lib.TabIs Tryz.prog W "creel/digest.first" .u32 Cr.firstL) : Cr.Gl W Cr.noF Cr.roundL Cr.firstL := by
 refine ⟨(Cr.Rd.ofCells (fun i v hv => ?_) (by simp [Cr.ints,Cr.roundL])).ro,(Cr.Rd.ofCells (fun i v hv => ?_) (by simp [Cr.ints,Cr.firstL])).ro,rfl,rfl⟩
 ·have hi : i < Cr.roundL.length := by
   rcases Nat.lt_or_ge i Cr.roundL.length with h | h
   ·exact h
   ·rw [List.getElem?_eq_none (by rw [Cr.ints_length]; omega)] at hv; cases hv
  rw [Cr.ints_get hi] at hv
  rw [← Option.some.inj hv]
  exact h1.cell (by kernel_rfl) i hi
 ·have hi : i < Cr.firstL.length := by
   rcases Nat.lt_or_ge i Cr.firstL.length with h | h
   ·exact h
   ·rw [List.getElem?_eq_none (by rw [Cr.ints_length]; omega)] at hv; cases hv
  rw [Cr.ints_get hi] at hv
  rw [← Option.some.inj hv]
  exact h2.cell (by kernel_rfl) i hi
end Go.Proofs.YtpbgaojjlepkcaaGreatDoor
namespace Cr
open Go Go.Proofs
set_option maxRecDepth 100000

structure DiskM where
 off : Bool
 armed : Bool
 left : Int
 laid : List (List UInt8)
 line : List (Int × List UInt8)
 writes : Int
 flushes : Int
structure DiskM.ok (D : DiskM) : Prop where
 laid64 : ∀ s ∈ D.laid,s.length = 64
 line64 : ∀ x ∈ D.line,x.2.length = 64 ∧ 0 ≤ x.1 ∧ x.1 < D.laid.length
 some_ : 1 ≤ D.laid.length
 most : D.laid.length ≤ 4096
 left0 : 0 ≤ D.left
 left1 : D.left ≤ 9223372036854775807
def Za4 (l : List (List UInt8)) : List Value := l.flatMap bv
def Za0 (l : List (Int × List UInt8)) : List Value := l.flatMap fun x => .int .i64 x.1 :: bv x.2
def disk (p : Nat) (D : DiskM) : Res := fun h => D.ok ∧ ∃ al cl ai ci,D.laid.length ≤ cl ∧ D.line.length ≤ ci ∧
 Sep [pts p (.cells #[.bool D.off,.bool D.armed,.int .i64 D.left,.slice al D.laid.length cl,.slice ai D.line.length ci,.int .i64 D.writes,.int .i64 D.flushes] 164),
  own 334 64 al cl (Za4 D.laid),own 336 65 ai ci (Za0 D.line)] h

theorem St.shutR {W : World} {F : Nat → Prop} {r : Res} {rs rs' : List Res} {w : World} (hS : St W F (rs' ++ rs) w) (hr : ∀ h,Sep rs' h → r h) : St W F (r :: rs) w :=
 hS.imp fun h hh => by
  obtain ⟨h1,h2,a,b,c,d⟩ := Sep.append hh
  exact ⟨h1,h2,hr _ a,b,c,d⟩
/-! ### On,Sectors,has,use -/
theorem Rd.disk {w : World} {p : Nat} {D : DiskM} (h : Rd w (disk p D)) : D.ok ∧ ∃ al cl ai ci,D.laid.length ≤ cl ∧ D.line.length ≤ ci ∧
  w.heap[p]? = some (.cells #[.bool D.off,.bool D.armed,.int .i64 D.left,.slice al D.laid.length cl,.slice ai D.line.length ci,.int .i64 D.writes,.int .i64 D.flushes] 164) ∧
  Rd w (row al (Za4 D.laid)) ∧ Rd w (row ai (Za0 D.line)) := by
 obtain ⟨f,⟨hok,al,cl,ai,ci,h1,h2,hs⟩,ha⟩ := h
 have hr := Rd.sep ⟨f,hs,ha⟩
 exact ⟨hok,al,cl,ai,ci,h1,h2,(hr _ (by simp)).pts,(hr _ (List.mem_cons_of_mem _ (List.mem_cons_self ..))).own_row,(hr _ (List.mem_cons_of_mem _ (List.mem_cons_of_mem _ (List.mem_cons_self ..)))).own_row⟩
theorem on_ (p : Nat) (D : DiskM) (W : World) (hd : Rd W (disk p D)) :
  Calls Tryz.prog 76 #[.pointer (some ⟨p,0,none⟩)] W (Ret fun v w => v = .bool (!D.off) ∧ W = w) := by
 obtain ⟨_,al,cl,ai,ci,_,_,hc,_,_⟩ := hd.disk
 have hS := St.start W
 refine Zab Tryz.func76 rfl Tryz.ntmps76 rfl ?_
 repeat (first|refine Yeg ?_|(refine X_id ?_;first|refine Yaf ?_|refine Yag ?_|refine Yau ?_|refine Yan ?_|refine Ya5 ?_|refine X_yl (Zm9 rfl rfl) rfl rfl ?_|refine Ydh ?_|refine Yb4 ?_)|refine Yed ?_|refine Yd2 ?_)
 exact ⟨rfl,rfl⟩
theorem Zme (p : Nat) (D : DiskM) (W : World) (hd : Rd W (disk p D)) :
  Calls Tryz.prog 77 #[.pointer (some ⟨p,0,none⟩)] W (Ret fun v w => v = .int .i64 (D.laid.length : Nat) ∧ W = w) := by
 obtain ⟨_,al,cl,ai,ci,_,_,hc,_,_⟩ := hd.disk
 have hS := St.start W
 refine Zab Tryz.func77 rfl Tryz.ntmps77 rfl ?_
 repeat (first|refine Yd0 ?_|(refine X_id ?_;first|refine Yaf ?_|refine Yag ?_|refine Yau ?_|refine Yan ?_|refine Yav ?_|refine Ybr ?_|refine Yb4 ?_)|refine Yep ?_|refine Yd2 ?_)
 exact ⟨rfl,rfl⟩
def Zc2 (D : DiskM) (no : Int) : Bool := decide (0 ≤ no ∧ no < D.laid.length)
theorem has_ (p : Nat) (D : DiskM) (no : Int) (W : World) (hd : Rd W (disk p D)) :
  Calls Tryz.prog 199 #[.pointer (some ⟨p,0,none⟩),.int .i64 no] W (Ret fun v w => v = .bool (Zc2 D no) ∧ W = w) := by
 by_cases h : 0 ≤ no
 ·refine Zab Tryz.func199 rfl Tryz.ntmps199 rfl ?_
  repeat (first|refine Yeg ?_|refine Yaf ?_|refine Yag ?_|refine Yb7 ?_|refine Yd1 ?_|refine Yab ?_)
  refine Zaa _ rfl rfl rfl rfl rfl (Zme p D W hd) ?_
  rintro _ _ ⟨rfl,rfl⟩
  repeat (first|refine Yeg ?_|(refine X_id ?_;first|refine Yag ?_|refine Ya5 ?_|refine X_yl (Zpg rfl rfl rfl) rfl rfl ?_)|refine Yah ?_|refine Yd2 ?_)
  exact ⟨by simp [Zc2,h],rfl⟩
 ·refine Zab Tryz.func199 rfl Tryz.ntmps199 rfl ?_
  repeat (first|refine Yej ?_|refine Yaf ?_|refine Yag ?_|refine Ya4 ?_|refine Yb9 ?_|refine Yed ?_|refine Yd2 ?_)
  exact ⟨by simp [Zc2,h],rfl⟩

/-! ### power -/
def useB (off armed : Bool) (left : Int) : Bool := !off && (!armed || decide (¬ left = 0))
def Znw (off armed : Bool) (left : Int) : Bool := off || (armed && decide (left = 0))
def Zl5 (off armed : Bool) (left : Int) : Int := if off = false ∧ armed = true ∧ ¬ left = 0 then left - 1 else left
theorem use_ (p : Nat) (off armed : Bool) (left : Int) (r : List Value) (T : TypeId) (W : World) (F : Nat → Prop) (h0 : 0 ≤ left) (h1 : left ≤ 9223372036854775807)
  (hS : St W F [pts p (.cells (.bool off :: .bool armed :: .int .i64 left :: r).toArray T)] W) :
  Calls Tryz.prog 239 #[.pointer (some ⟨p,0,none⟩)] W (Ret fun v w => v = .bool (useB off armed left) ∧
   St W F [pts p (.cells (.bool (Znw off armed left) :: .bool armed :: .int .i64 (Zl5 off armed left) :: r).toArray T)] w) := by
 cases off
 ·cases armed
  ·refine Zab Tryz.func239 rfl Tryz.ntmps239 rfl ?_
   repeat (first|refine Yd0 ?_|(refine X_id ?_;first|refine Yaf ?_|refine Yag ?_|refine Yau ?_|refine Yan ?_|refine Ybo ?_|refine Yap ?_)|refine Yek ?_|refine Yel ?_)
   exact ⟨rfl,hS⟩
  ·by_cases h : left = 0
   ·subst h
    refine Zab Tryz.func239 rfl Tryz.ntmps239 rfl ?_
    repeat (first|refine Yd0 ?_|(refine X_id ?_;first|refine Yaf ?_|refine Yag ?_|refine Yau ?_|refine Yan ?_|refine Ybb ?_|refine Ybi ?_|refine Yap ?_|refine Yao (fun _ hS _ => ?_))|refine Yek ?_|refine Yel ?_)
    exact ⟨rfl,hS⟩
   ·refine Zab Tryz.func239 rfl Tryz.ntmps239 rfl ?_
    repeat (first|refine Yd0 ?_|(refine X_id ?_;first|refine Yaf ?_|refine Yag ?_|refine Yau ?_|refine Yan ?_|refine Ybb ?_|refine Ybh ?_|refine Yb2 ?_|refine Yap ?_|refine Yao (fun _ hS _ => ?_))|refine Yeq ?_|refine Yab ?_|refine Yat ?_|refine Yam ?_)
    exact ⟨by simp [useB,h],by simpa [Znw,Zl5,h] using hS⟩
 ·refine Zab Tryz.func239 rfl Tryz.ntmps239 rfl ?_
  repeat (first|refine Yd0 ?_|(refine X_id ?_;first|refine Yaf ?_|refine Yag ?_|refine Yau ?_|refine Yan ?_|refine Yap ?_)|refine Yen ?_|refine Yel ?_)
  exact ⟨rfl,hS⟩
end Cr
namespace Cr
open Go Go.Proofs
set_option maxRecDepth 100000

/-! ### New -/
def zero64 : List UInt8 := List.replicate 64 0
def Za6 (n : Nat) : DiskM := { off := false,armed := false,left := 0,laid := List.replicate n zero64,line := [],writes := 0,flushes := 0 }
theorem Zti {n : Nat} (h : 1 ≤ n) (h' : n ≤ 4096) : (Za6 n).ok := by
 refine ⟨fun s hs => ?_,fun x hx => by simp [Za6] at hx,by simpa [Za6] using h,by simpa [Za6] using h',by simp [Za6],by simp [Za6]⟩
 simp [Za6] at hs; rw [hs.2]; simp [zero64]
theorem Zdo (n : Nat) : Za4 (List.replicate n zero64) = List.replicate (n * 64) (.int .u8 0) := by
 induction n with
 | zero => rfl
 | succ n ih =>
  have e : bv zero64 = List.replicate 64 (.int .u8 0) := by simp [bv,zero64]
  have : Za4 (List.replicate (n + 1) zero64) = bv zero64 ++ Za4 (List.replicate n zero64) := by simp [Za4,List.replicate_succ]
  rw [this,ih,e,List.replicate_append_replicate]
  congr 1; omega
theorem Zjw (m n : Nat) : madeCells (List.replicate m (Value.int .u8 0)).toArray n = (List.replicate n (if m = 0 then default else Value.int .u8 0)).toArray := by
 apply Array.ext
 ·simp [madeCells]
 ·intro i h1 h2
  simp only [madeCells,Array.getElem_map,Array.getElem_range,List.size_toArray,List.length_replicate]
  by_cases hm : m = 0
  ·subst hm; simp
  ·have : i % m < m := Nat.mod_lt _ (by omega)
   simp [hm,this]
theorem new_ (n : Nat) (W : World) (h1 : 1 ≤ n) (h2 : n ≤ 4096) : Calls Tryz.prog 36 #[.int .i64 (n : Int)] W (Ret fun v w => ∃ p,v = .tuple #[.pointer (some ⟨p,0,none⟩),.int .i64 0] ∧ St W noF [disk p (Za6 n)] w) := by
 have hS := St.start W
 refine Zab Tryz.func36 rfl Tryz.ntmps36 rfl ?_
 repeat (first|refine Yeg ?_|(refine X_id ?_;first|refine Yaf ?_|refine Yag ?_|refine Ya4 ?_|refine Ya3 ?_|refine Ybu ?_)|refine Yeb ?_|refine Yab ?_)
 refine Zz9 rfl rfl rfl (by omega) (by omega) (by omega) (by omega) rfl rfl hS (fun al w hS _ => ?_)
 repeat (first|refine Yd0 ?_|refine Yag ?_|refine Ybk ?_|refine Ya6 (fun _ _ hS _ => ?_)|refine Yah ?_|refine Yeo ?_)
 refine ⟨_,rfl,?_⟩
 have e : madeCells (Value.agg (List.replicate 64 (Value.int .u8 0)).toArray).cells ((n : Int).toNat * 64) = (Za4 (Za6 n).laid).toArray := by
  show madeCells (List.replicate 64 (Value.int .u8 0)).toArray _ = _
  rw [Zjw,Za6,Zdo]; simp
 rw [e] at hS
 have hl : (Za4 (Za6 n).laid).length = n * 64 := by rw [Za6,Zdo]; simp
 have hS := ((hS.second (Za2 (c := n) (cs := Za4 (Za6 n).laid) hl (by simp only [maxLen]; omega) (by simp))).own_none 336 65 none).sel [false,true,true]
 refine St.shutR (rs' := [_,_,_]) (rs := []) hS fun h hh => ⟨Zti h1 h2,some ⟨al,0,none⟩,n,none,0,by simp [Za6],by simp [Za6],?_⟩
 have el : (Za6 n).laid.length = n := by simp [Za6]
 rw [el]
 exact hh

/-! ### slices.Clone at bytes -/
theorem Z4a (a : Option Addr) (n c : Nat) (s : List UInt8) (W : World) (hs : Rd W (bytes a s)) (hn : s.length = n) (hlim : n ≤ 1073741824) :
  Calls Tryz.prog 201 #[.slice a n c] W (Ret fun v w => ∃ a' c',v = .slice a' n c' ∧ (a' = none ↔ a = none) ∧ n ≤ c' ∧ St W noF [own 5 1 a' c' (bv s)] w) := by
 have hS := St.start W
 cases a with
 | none =>
  have h0 : bv s = [] := hs.none_nil
  obtain rfl : n = 0 := by rw [← hn,← Zaq s,h0]; rfl
  refine Zab Tryz.func201 rfl Tryz.ntmps201 rfl ?_
  repeat (first|refine Yd0 ?_|refine Yaf ?_|refine Yag ?_|refine Ycs ?_|refine Yeh ?_|refine Yei ?_)
  refine ⟨none,0,rfl,by simp,by omega,?_⟩
  rw [h0]
  exact hS.own_none _ _ _
 | some ad =>
  refine Zab Tryz.func201 rfl Tryz.ntmps201 rfl ?_
  repeat (first|refine Yd0 ?_|refine Yaf ?_|refine Yag ?_|refine Ycs ?_|refine Ybf (fun _ _ hS _ => ?_)|refine Yeb ?_|refine Yab ?_)
  rename_i b w hb
  have hs := hs.below hb
  repeat (first|fail)
  refine Zap rfl rfl rfl rfl rfl hS rfl (by omega) hs (by simp [hn]) Zel (by omega) (by simp only [maxLen]; omega) (fun a' c' w hS hc hnil => ?_)
  repeat (first|refine Yd0 ?_|refine Yag ?_|refine Yah ?_|refine Yd2 ?_)
  refine ⟨a',c',by rw [Nat.zero_add],by rw [hnil]; simp,by omega,hS⟩
end Cr
namespace Cr
open Go Go.Proofs
set_option maxRecDepth 100000
set_option maxHeartbeats 4000000

theorem Zz6 (b off : Nat) (x y : Int) (l l' : List Value) (T : TypeId) (W : World) (F : Nat → Prop) [hn : Nth l off (.int .i64 x)] [hs : Spl l off [.int .i64 (IntKind.i64.wrap (x + y))] l'] (hS : St W F [pts b (.cells l.toArray T)] W) :
  Calls Tryz.prog 240 #[.pointer (some ⟨b,off,none⟩),.int .i64 y] W (Ret fun v w => v = .int .i64 (IntKind.i64.wrap (x + y)) ∧ St W F [pts b (.cells l'.toArray T)] w) := by
 refine Zab Tryz.func240 rfl Tryz.ntmps240 rfl ?_
 repeat (first|refine Yd0 ?_|(refine X_id ?_;first|refine Yaf ?_|refine Yag ?_|refine Yau ?_|refine Ybz ?_|refine Z0a rfl rfl rfl rfl rfl rfl hS (fun _ hS => ?_))|refine Yed ?_|refine Yd2 ?_)
 exact ⟨rfl,hS⟩

def DiskM.used (D : DiskM) : DiskM := { D with off := Znw D.off D.armed D.left,left := Zl5 D.off D.armed D.left }
def DiskM.write (D : DiskM) (no : Int) (b : List UInt8) : Int × DiskM :=
 if D.off then (9,D) else if Zc2 D no = false ∨ b.length ≠ 64 then (1,D) else if useB D.off D.armed D.left = false then (9,D.used)
 else (0,{ D.used with line := D.line ++ [(no,b)],writes := IntKind.i64.wrap (D.writes + 1) })
theorem DiskM.write_use {D : DiskM} {no : Int} {b : List UInt8} (h : D.off = false) (hin : Zc2 D no = true) (hb : b.length = 64) (hu : useB D.off D.armed D.left = false) : D.write no b = (9,D.used) := by
 unfold DiskM.write
 rw [if_neg (by simp [h]),if_neg (by simp [hin,hb]),if_pos hu]
theorem DiskM.write_yes {D : DiskM} {no : Int} {b : List UInt8} (h : D.off = false) (hin : Zc2 D no = true) (hb : b.length = 64) (hu : useB D.off D.armed D.left = true) : D.write no b = (0,{ D.used with line := D.line ++ [(no,b)],writes := IntKind.i64.wrap (D.writes + 1) }) := by
 unfold DiskM.write
 rw [if_neg (by simp [h]),if_neg (by simp [hin,hb]),if_neg (by simp [hu])]
theorem DiskM.used_ok {D : DiskM} (h : D.ok) : D.used.ok := by
 obtain ⟨h1,h2,h3,h4,h5,h6⟩ := h
 refine ⟨h1,h2,h3,h4,?_,?_⟩ <;> simp only [DiskM.used,Zl5] <;> split <;> omega
theorem DiskM.line_ok {D : DiskM} (h : D.ok) {no : Int} {b : List UInt8} {wr : Int} (hn : Zc2 D no = true) (hb : b.length = 64) : ({ D with line := D.line ++ [(no,b)],writes := wr } : DiskM).ok := by
 obtain ⟨h1,h2,h3,h4,h5,h6⟩ := h
 refine ⟨h1,fun x hx => ?_,h3,h4,h5,h6⟩
 simp only [List.mem_append,List.mem_singleton] at hx
 rcases hx with hx | rfl
 ·exact h2 x hx
 ·have : 0 ≤ no ∧ no < D.laid.length := by simpa [Zc2] using hn
  exact ⟨hb,this.1,this.2⟩
theorem St.openDisk {W : World} {F : Nat → Prop} {p : Nat} {D : DiskM} {rs : List Res} {w : World} (hS : St W F (disk p D :: rs) w) : D.ok ∧ ∃ al cl ai ci,D.laid.length ≤ cl ∧ D.line.length ≤ ci ∧
  St W F (pts p (.cells #[.bool D.off,.bool D.armed,.int .i64 D.left,.slice al D.laid.length cl,.slice ai D.line.length ci,.int .i64 D.writes,.int .i64 D.flushes] 164) ::
   own 334 64 al cl (Za4 D.laid) :: own 336 65 ai ci (Za0 D.line) :: rs) w := by
 obtain ⟨h,⟨h1,h2,⟨hok,al,cl,ai,ci,c1,c2,hs⟩,hr,hd,hu⟩,s⟩ := hS
 exact ⟨hok,al,cl,ai,ci,c1,c2,h,Sep.append_mk (rs := [_,_,_]) hs hr hd hu,s⟩
theorem St.shutDisk {W : World} {F : Nat → Prop} {p : Nat} {D : DiskM} {rs : List Res} {w : World} {al ai : Option Addr} {cl ci : Nat} (hok : D.ok) (c1 : D.laid.length ≤ cl) (c2 : D.line.length ≤ ci)
  (hS : St W F (pts p (.cells #[.bool D.off,.bool D.armed,.int .i64 D.left,.slice al D.laid.length cl,.slice ai D.line.length ci,.int .i64 D.writes,.int .i64 D.flushes] 164) ::
   own 334 64 al cl (Za4 D.laid) :: own 336 65 ai ci (Za0 D.line) :: rs) w) : St W F (disk p D :: rs) w :=
 St.shutR (rs' := [_,_,_]) (rs := rs) hS fun _ hh => ⟨hok,al,cl,ai,ci,c1,c2,hh⟩
theorem Ziv (l m : List (Int × List UInt8)) : Za0 (l ++ m) = Za0 l ++ Za0 m := by simp [Za0]
theorem Zc6 {l : List (Int × List UInt8)} (h : ∀ x ∈ l,x.2.length = 64) : (Za0 l).length = l.length * 65 := by
 induction l with
 | nil => rfl
 | cons x l ih =>
  have := ih fun y hy => h y (List.mem_cons_of_mem _ hy)
  have h0 := h x (List.mem_cons_self ..)
  simp only [Za0,List.flatMap_cons,List.length_append,List.length_cons,Zaq,h0] at this ⊢
  omega
theorem Zc8 {l : List (List UInt8)} (h : ∀ x ∈ l,x.length = 64) : (Za4 l).length = l.length * 64 := by
 induction l with
 | nil => rfl
 | cons x l ih =>
  have := ih fun y hy => h y (List.mem_cons_of_mem _ hy)
  have h0 := h x (List.mem_cons_self ..)
  simp only [Za4,List.flatMap_cons,List.length_append,List.length_cons,Zaq,h0] at this ⊢
  omega

theorem Z07 {k : IntKind} {n : Int} {l : List Value} (h : ∀ u ∈ l,u.oneCell' = true) : ∀ u ∈ Value.int k n :: l,u.oneCell' = true := fun u hu => by
 rcases List.mem_cons.mp hu with rfl | hu
 ·rfl
 ·exact h u hu
theorem Z2h (p : Nat) (D : DiskM) (no : Int) (a : Option Addr) (n c : Nat) (b : List UInt8) (W : World) (F : Nat → Prop) (hS : St W F [disk p D] W) (hb : Ro W F (bytes a b)) (hn : b.length = n) (hline : D.line.length < 1073741824) :
  Calls Tryz.prog 206 #[.pointer (some ⟨p,0,none⟩),.int .i64 no,.slice a n c] W (Ret fun v w => v = .int .i64 (D.write no b).1 ∧ St W F [disk p (D.write no b).2] w) := by
 have hd := hS.rd (List.mem_cons_self ..)
 cases hoff : D.off
 ·have hon := on_ p D W hd
  rw [hoff] at hon
  cases hin : Zc2 D no
  ·have hhas := has_ p D no W hd
   rw [hin] at hhas
   refine Zab Tryz.func206 rfl Tryz.ntmps206 rfl ?_
   repeat (first|refine Yej ?_|(refine X_id ?_;first|(refine Zaa 76 rfl rfl rfl rfl rfl hon ?_;rintro _ _ ⟨rfl,rfl⟩)|(refine Zaa 199 rfl rfl rfl rfl rfl hhas ?_;rintro _ _ ⟨rfl,rfl⟩)|refine Yaf ?_|refine Yag ?_|refine Ya5 ?_|refine Ybb ?_|refine Ybo ?_)|refine Yek ?_|refine Yel ?_)
   refine ⟨by simp [DiskM.write,hoff,hin],by simpa [DiskM.write,hoff,hin] using hS⟩
  ·have hhas := has_ p D no W hd
   rw [hin] at hhas
   by_cases hb64 : b.length = 64
   ·have hn64 : n = 64 := by omega
    subst hn64
    obtain ⟨hok,al,cl,ai,ci,c1,c2,hS⟩ := hS.openDisk
    have hbr := hb.start
    obtain ⟨bb,bo,rfl⟩ := hbr.base (fun e => by rw [← Zaq,e] at hb64; cases hb64)
    have hcells := hbr.cellsAt rfl
    have hlc : LenIs (bv b) 64 := ⟨by simp [hb64]⟩
    cases huse : useB D.off D.armed D.left
    ·refine Zab Tryz.func206 rfl Tryz.ntmps206 rfl ?_
     repeat (first|refine Yeg ?_|(refine X_id ?_;first|(refine Zaa 76 rfl rfl rfl rfl rfl hon ?_;rintro _ _ ⟨rfl,rfl⟩)|(refine Zaa 199 rfl rfl rfl rfl rfl hhas ?_;rintro _ _ ⟨rfl,rfl⟩)|refine Yaf ?_|refine Yag ?_|refine Yau ?_|refine Yan ?_|refine Ya4 ?_|refine Ybb ?_|refine Yav ?_|refine Ybd ?_)|refine Yem ?_|refine Yab ?_)
     obtain ⟨_,hc,hr,hw,hbk⟩ := hS.call [true,false,false]
     refine Zaa _ rfl rfl rfl rfl rfl (use_ p D.off D.armed D.left _ _ _ _ hok.left0 hok.left1 hc) ?_
     rintro _ w ⟨rfl,hS⟩
     replace hS := hbk hS
     clear hc hr hw hbk
     rw [huse]
     repeat (first|refine Yd0 ?_|refine Yag ?_|refine Ybo ?_|refine Yeh ?_|refine Yel ?_)
     rw [DiskM.write_use hoff hin hb64 huse]
     exact ⟨rfl,St.shutDisk (DiskM.used_ok hok) c1 c2 hS⟩
    ·refine Zab Tryz.func206 rfl Tryz.ntmps206 rfl ?_
     repeat (first|refine Yeg ?_|(refine X_id ?_;first|(refine Zaa 76 rfl rfl rfl rfl rfl hon ?_;rintro _ _ ⟨rfl,rfl⟩)|(refine Zaa 199 rfl rfl rfl rfl rfl hhas ?_;rintro _ _ ⟨rfl,rfl⟩)|refine Yaf ?_|refine Yag ?_|refine Yau ?_|refine Yan ?_|refine Ya4 ?_|refine Ybb ?_|refine Yav ?_|refine Ybd ?_)|refine Yem ?_|refine Yab ?_)
     obtain ⟨_,hc,hr,hw,hbk⟩ := hS.call [true,false,false]
     refine Zaa _ rfl rfl rfl rfl rfl (use_ p D.off D.armed D.left _ _ _ _ hok.left0 hok.left1 hc) ?_
     rintro _ w ⟨rfl,hS⟩
     replace hS := hbk hS
     clear hc hr hw hbk
     rw [huse]
     repeat (first|refine Yd0 ?_|refine Yag ?_|refine Ybb ?_|refine Yae ?_|refine Yak ?_|refine Yai ?_|refine Yd8 ?_)
     have hcells : CellsAt w.drew ⟨bb,bo,none⟩ (bv b) := (hb.rd hS).cellsAt rfl
     refine Zao (.s 0 (.s 1 (.s 2 (.s 3 (.s 4 (.s 5 (.s 6 (.s 7 (.s 8 (.s 9 (.h 10 (.h 11 (.s 12 (.s 13 (.h 14 .nil .no))) .no) .no))))))))))) mixed (by kernel_rfl) rfl ?_
     have hS := hS.drew
     repeat (first|refine Ybf (fun _ _ hS _ => ?_)|(refine Zad ?_;first|refine Ya0 ?_|refine Ybq ?_|refine Ybj ?_|refine Ycb ?_|refine Zaj rfl rfl (fun _ => Zuc rfl rfl (by omega)) rfl rfl ?_|refine Ybm ?_|refine Zax (fun w' => CellsAt w' _ _) rfl rfl (by assumption) (fun _ hc => Zcx rfl rfl hc (by simp;omega)) rfl rfl ?_|refine Yas ?_)|(refine Zac ?_;first|refine Yaz ?_))
     refine Zap rfl rfl rfl rfl rfl hS (Zc6 fun x hx => (hok.line64 x hx).1) c2 (hS.rd (List.mem_cons_self ..)).own_row (by simp [hb64]) (Z07 Zel) (by omega) (by simp only [maxLen]; omega) (fun a' c' w hS hc hnil => ?_)
     repeat (first|refine Yaa ?_|refine Yaf ?_|refine Yau ?_|refine Yan ?_|refine Yao (fun _ hS _ => ?_)|refine Yd1 ?_|refine Yab ?_|(refine Zad ?_;first|refine Yay ?_|refine Ybq ?_|refine Ybj ?_|refine Yas ?_)|(refine Zac ?_;first|refine Yaz ?_))
     obtain ⟨_,hc,hr,hw,hbk⟩ := hS.call [false,false,true,false]
     refine Zaa _ rfl rfl rfl rfl rfl (Zz6 p 5 D.writes 1 _ _ _ _ _ hc) ?_
     rintro _ w ⟨rfl,hS⟩
     replace hS := hbk hS
     clear hc hr hw hbk
     repeat (first|refine Yd0 ?_|refine Yag ?_|refine Yed ?_|refine Yd2 ?_)
     rw [DiskM.write_yes hoff hin hb64 huse]
     have hok' := DiskM.line_ok (wr := IntKind.i64.wrap (D.writes + 1)) (DiskM.used_ok hok) (no := no) (b := b) hin hb64
     refine ⟨rfl,St.shutDisk (al := al) (ai := a') hok' c1 (show (D.line ++ [(no,b)]).length ≤ c' by simpa using hc) ?_⟩
     have hS := hS.pick [0,2,0]
     show St W F [pts p (.cells #[_,_,_,_,.slice a' ((D.line ++ [(no,b)]).length : Nat) c',_,_] 164),_,own _ _ _ _ (Za0 (D.line ++ [(no,b)]))] w
     rw [Ziv,List.length_append]
     simpa [Za0,DiskM.used] using hS
   ·refine Zab Tryz.func206 rfl Tryz.ntmps206 rfl ?_
    repeat (first|refine Yeg ?_|(refine X_id ?_;first|(refine Zaa 76 rfl rfl rfl rfl rfl hon ?_;rintro _ _ ⟨rfl,rfl⟩)|(refine Zaa 199 rfl rfl rfl rfl rfl hhas ?_;rintro _ _ ⟨rfl,rfl⟩)|refine Yaf ?_|refine Yag ?_|refine Ya4 ?_|refine Ybb ?_|refine Yav ?_|refine Ybl ?_)|refine Yek ?_|refine Yel ?_)
    refine ⟨by simp [DiskM.write,hoff,hin,hb64],by simpa [DiskM.write,hoff,hin,hb64] using hS⟩
 ·have hon := on_ p D W hd
  rw [hoff] at hon
  refine Zab Tryz.func206 rfl Tryz.ntmps206 rfl ?_
  repeat (first|refine Yd0 ?_|(refine X_id ?_;first|(refine Zaa 76 rfl rfl rfl rfl rfl hon ?_;rintro _ _ ⟨rfl,rfl⟩)|refine Yaf ?_|refine Yag ?_|refine Ybo ?_)|refine Yen ?_|refine Yel ?_)
  exact ⟨by simp [DiskM.write,hoff],by simpa [DiskM.write,hoff] using hS⟩
end Cr
namespace Cr
open Go Go.Proofs
set_option maxRecDepth 100000

theorem Zix (l bx n c : Nat) (a : Option Addr) (cs : List Value) (w : World) (T : TypeId) (hn : n ≤ 4611686018427387904) (hcs : cs.length = n * 65) (Inv : Nat → World → Prop) (Stop : World → Prop)
  (hbx : ∀ k w,Inv k w → w.heap[bx]? = some (.cells #[.slice a n c] T)) (hrow : ∀ k w,Inv k w → Rd w (row a cs)) (hl : ∀ k w,Inv k w → ∃ r : Loop,r.params.size = 2 ∧ w.heap[l]? = some (.loop r) ∧ (k ≠ 0 →
   RoundIn Fence.wide 0 Tryz.prog l r.fn ((r.params.zip #[.int .i64 ((k - 1 : Nat) : Int),.agg ((cs.drop ((k - 1) * 65)).take 65).toArray]).foldl (fun tmps (t,a) => tmps.setIfInBounds t a) r.tmps) r.assign r.body w
    (Ret fun v w' => (v = .bool true ∧ Inv (k - 1) w') ∨ (v = .bool false ∧ Stop w')))) (h0 : Inv n w) :
  CallsIn Fence.wide 0 Tryz.prog 238 #[.func (.yield l) #[] #[],.pointer (some ⟨bx,0,none⟩)] w (Ret fun _ w' => Inv 0 w' ∨ Stop w') := by
 refine callsIn_wide.2 ?_
 have hb := hbx _ _ h0
 refine Zab Tryz.func238 rfl Tryz.ntmps238 rfl ?_
 repeat (first|refine Yd0 ?_|refine Yag ?_|refine Yav ?_|refine Yb2 ?_|refine Yb4 ?_|refine Yd3 ?_|refine Yab ?_)
 refine Zak (α := Nat) (fun k => [(0,.func (.yield l) #[] #[]),(1,.pointer (some ⟨bx,0,none⟩)),(3,.int .i64 ((k : Int) - 1))]) (fun k w => k ≤ n ∧ Inv k w) (fun k => k) n ⟨rfl,rfl,rfl,trivial⟩ ⟨Nat.le_refl _,h0⟩ ?_
 clear hb h0
 rintro k w ⟨hk,hi⟩
 have hb := hbx _ _ hi
 by_cases h0 : k = 0
 ·subst h0
  repeat (first|refine Yd0 ?_|refine Yaf ?_|refine Yb9 ?_|refine Yec ?_|refine Yab ?_|refine Ya9 ?_|refine Yba ?_|refine Ybs ?_)
  exact .inl hi
 ·obtain ⟨r,hp,hlr,hr⟩ := hl _ _ hi
  have hr := hr h0
  have hcs0 : cs ≠ [] := by intro e; rw [e] at hcs; simp at hcs; omega
  have ha := (hrow _ _ hi).base hcs0
  have hseg := (hrow _ _ hi).seg ((k - 1) * 65) 65
  have e1 : ((k : Int) - 1).toNat = k - 1 := by omega
  have e2 : ((k - 1 : Nat) : Int) = (k : Int) - 1 := by omega
  rw [e2] at hr
  repeat (first|refine Yd0 ?_|refine Yaf ?_|refine Yb7 ?_|refine Ybc ?_|refine Yb4 ?_|refine Yd4 ?_|refine Yab ?_)
  rw [e1]
  refine X_yl (Zcx rfl rfl hseg (by simp; omega)) rfl rfl ?_
  refine Zq2 rfl rfl rfl rfl rfl rfl hlr (by rw [hp]; rfl) hr ?_
  rintro v w' (⟨rfl,hi'⟩ | ⟨rfl,hs⟩)
  ·repeat (first|refine Yd0 ?_|refine Yaf ?_|refine Yag ?_|refine Ybb ?_|refine Yb2 ?_|refine Yer ?_|refine Yd8 ?_)
   refine Zaf (k - 1) ⟨rfl,rfl,?_,trivial⟩ ⟨by omega,hi'⟩ (by omega)
   rw [e2]; rfl
  ·repeat (first|refine Yd0 ?_|refine Ybo ?_|refine Yah ?_|refine Yaj ?_|refine Yab ?_|refine Yaq ?_|refine Ya7 ?_|refine Z0d rfl (Ret.mk ?_))
   exact .inr hs
end Cr
namespace Cr
open Go Go.Proofs
set_option maxRecDepth 100000
set_option maxHeartbeats 4000000

theorem Zet {α β : Type} {f : α → List β} {n : Nat} {l : List α} (h : ∀ x ∈ l,(f x).length = n) : (l.flatMap f).length = l.length * n := by
 induction l with
 | nil => simp
 | cons x l ih =>
  have := ih fun y hy => h y (List.mem_cons_of_mem _ hy)
  have h0 := h x (List.mem_cons_self ..)
  simp only [List.flatMap_cons,List.length_append,List.length_cons,h0,this,Nat.succ_mul]
  omega
theorem Zbz {α β : Type} {f : α → List β} {n : Nat} {l : List α} (h : ∀ x ∈ l,(f x).length = n) {k : Nat} {x : α} (hx : l[k]? = some x) : ((l.flatMap f).drop (k * n)).take n = f x := by
 induction l generalizing k with
 | nil => simp at hx
 | cons y l ih =>
  have h0 := h y (List.mem_cons_self ..)
  cases k with
  | zero =>
   have e : y = x := by simpa using hx
   subst e
   simp [List.flatMap_cons,← h0]
  | succ k =>
   have hx' : l[k]? = some x := by simpa using hx
   have := ih (fun z hz => h z (List.mem_cons_of_mem _ hz)) hx'
   rw [List.flatMap_cons,List.drop_append,h0,show (k + 1) * n - n = k * n by rw [Nat.succ_mul]; omega,List.drop_of_length_le (by rw [h0,Nat.succ_mul]; omega)]
   simpa using this
theorem Zqn {α : Type} {f : α → List Value} {n : Nat} {l : List α} (h : ∀ x ∈ l,(f x).length = n) {k : Nat} {y : α} (hy : (f y).length = n) (hk : k < l.length) : Zah (l.flatMap f) (k * n) (f y) = (l.set k y).flatMap f := by
 induction l generalizing k with
 | nil => simp at hk
 | cons x l ih =>
  have h0 := h x (List.mem_cons_self ..)
  cases k with
  | zero =>
   simp only [List.flatMap_cons,List.set_cons_zero,Nat.zero_mul,Zah]
   simp [hy,← h0]
  | succ k =>
   have := ih (fun z hz => h z (List.mem_cons_of_mem _ hz)) (k := k) (by simpa using hk)
   simp only [List.flatMap_cons,List.set_cons_succ]
   rw [← this]
   unfold Zah
   rw [List.take_append,List.drop_append,h0,show (k + 1) * n - n = k * n by rw [Nat.succ_mul]; omega,List.take_of_length_le (by rw [h0,Nat.succ_mul]; omega),List.drop_of_length_le (by rw [h0,Nat.succ_mul]; omega),
    show (k + 1) * n + (f y).length - n = k * n + (f y).length by rw [Nat.succ_mul]; omega]
   simp

def Zby (l : List (List UInt8)) (xs : List (Int × List UInt8)) : List (List UInt8) := xs.foldl (fun l x => l.set x.1.toNat x.2) l
theorem Zat (xs : List (Int × List UInt8)) : ∀ l,(Zby l xs).length = l.length := by
 induction xs with
 | nil => intro l; rfl
 | cons x xs ih => intro l; simp [Zby,List.foldl_cons] at ih ⊢; rw [ih]; simp
theorem Zrw (xs : List (Int × List UInt8)) (hx : ∀ x ∈ xs,x.2.length = 64) : ∀ l,(∀ s ∈ l,s.length = 64) → ∀ s ∈ Zby l xs,s.length = 64 := by
 induction xs with
 | nil => intro l h; exact h
 | cons x xs ih =>
  intro l h
  refine ih (fun y hy => hx y (List.mem_cons_of_mem _ hy)) _ fun s hs => ?_
  rcases List.mem_or_eq_of_mem_set hs with h' | rfl
  ·exact h s h'
  ·exact hx x (List.mem_cons_self ..)
theorem Ztl {l : List (List UInt8)} {xs : List (Int × List UInt8)} {k : Nat} {x : Int × List UInt8} (hx : xs[k]? = some x) : Zby l (xs.take (k + 1)) = (Zby l (xs.take k)).set x.1.toNat x.2 := by
 have : xs.take (k + 1) = xs.take k ++ [x] := by
  rw [List.take_add_one,hx]; rfl
 rw [this,Zby,List.foldl_append]; rfl

theorem Z15 (x : Value) (W : World) : Calls Tryz.prog 243 #[x] W (Ret fun v w => v = .bool true ∧ W = w) := by
 refine Zab Tryz.func243 rfl Tryz.ntmps243 rfl ?_
 repeat (first|refine Yd0 ?_|refine Yag ?_|refine Yed ?_|refine Yd2 ?_)
 exact ⟨rfl,rfl⟩
def DiskM.flushed (D : DiskM) : DiskM := { D with laid := Zby D.laid D.line,line := [] }
theorem DiskM.flushed_ok {D : DiskM} (h : D.ok) : D.flushed.ok := by
 obtain ⟨h1,h2,h3,h4,h5,h6⟩ := h
 refine ⟨Zrw _ (fun x hx => (h2 x hx).1) _ h1,fun x hx => (by cases hx),?_,?_,h5,h6⟩ <;> simpa [DiskM.flushed,Zat] using (by assumption)
theorem lay_ (p : Nat) (D : DiskM) (W : World) (F : Nat → Prop) (hS : St W F [disk p D] W) (hline : D.line.length < 1073741824) :
  Calls Tryz.prog 242 #[.pointer (some ⟨p,0,none⟩),.func (.func 243) #[] #[]] W (Ret fun _ w => True ∧ St W F [disk p D.flushed] w) := by
 obtain ⟨hok,al,cl,ai,ci,c1,c2,hS⟩ := hS.openDisk
 refine Zab Tryz.func242 rfl Tryz.ntmps242 rfl ?_
 repeat (first|refine Yd0 ?_|(refine X_id ?_;first|refine Yaf ?_|refine Yag ?_|refine Yau ?_|refine Yan ?_|refine Yav ?_|refine Yap ?_)|refine Yae ?_|refine Zid ?_|refine Ycm ?_|refine Yad ?_|refine Yal ?_|refine Yab ?_)
 refine Zak (α := Nat) (fun k => [(0,.pointer (some ⟨p,0,none⟩)),(1,.func (.func 243) #[] #[]),(5,.int .i64 (k : Nat)),(11,.slice ai D.line.length ci),(12,.int .i64 (D.line.length : Nat)),(13,.int .i64 (k : Nat))])
  (fun k w => k ≤ D.line.length ∧ St W F [pts p (.cells #[.bool D.off,.bool D.armed,.int .i64 D.left,.slice al D.laid.length cl,.slice ai D.line.length ci,.int .i64 D.writes,.int .i64 D.flushes] 164),
   own 334 64 al cl (Za4 (Zby D.laid (D.line.take k))),own 336 65 ai ci (Za0 D.line)] w) (fun k => D.line.length - k) 0 ⟨rfl,rfl,rfl,rfl,rfl,rfl,trivial⟩ ⟨Nat.zero_le _,hS⟩ ?_
 clear hS
 rintro k w ⟨hk,hS⟩
 by_cases hlt : k < D.line.length
 ·obtain ⟨x,hx⟩ : ∃ x,D.line[k]? = some x := ⟨_,List.getElem?_eq_getElem hlt⟩
  have hxm := List.mem_of_getElem? hx
  have hln : ∀ x ∈ D.line,(Value.int .i64 x.1 :: bv x.2).length = 65 := fun x hx => by simp [(hok.line64 x hx).1]
  have hseg : CellsAt w (adr ai (k * 65)) (.int .i64 x.1 :: bv x.2) := by
   have := (hS.rd (List.mem_cons_of_mem _ (List.mem_cons_of_mem _ (List.mem_cons_self ..)))).own_row.seg (k * 65) 65
   rwa [show ((Za0 D.line).drop (k * 65)).take 65 = _ from Zbz hln hx] at this
  obtain ⟨ab,ao,hae⟩ := (hS.rd (List.mem_cons_of_mem _ (List.mem_cons_of_mem _ (List.mem_cons_self ..)))).own_row.base (by intro e; have h := Zc6 fun x hx => (hok.line64 x hx).1; rw [e] at h; simp at h; omega)
  subst hae
  have hx64 := (hok.line64 x hxm).1
  have hx0 := (hok.line64 x hxm).2.1
  have hx1 := (hok.line64 x hxm).2.2
  have hl64 := Zrw (D.line.take k) (fun y hy => (hok.line64 y (List.mem_of_mem_take hy)).1) _ hok.laid64
  have hlay := Zc8 hl64
  rw [Zat] at hlay
  obtain ⟨lb,lo,rfl⟩ := (hS.rd (List.mem_cons_of_mem _ (List.mem_cons_self ..))).own_row.base (by intro e; rw [e] at hlay; simp at hlay; omega)
  have hlen : LenIs (bv x.2) 64 := ⟨by simp [(hok.line64 x hxm).1]⟩
  repeat (first|refine Yd0 ?_|refine Yaf ?_|refine Ya2 ?_|refine Ybc ?_|refine Yd4 ?_|refine Yab ?_)
  refine X_yl (Zcx rfl rfl hseg (by simp [(hok.line64 x hxm).1])) rfl rfl ?_
  repeat (first|refine Yd0 ?_|refine Yee ?_|refine Yao (fun _ hS _ => ?_)|refine Yar (fun _ _ hS _ => ?_)|refine Yd1 ?_|refine Yab ?_)
  refine Zaa 243 rfl rfl rfl rfl rfl (Z15 _ _) ?_
  rintro _ _ ⟨rfl,rfl⟩
  repeat (first|refine Yd0 ?_|refine Ybb ?_|refine Yae ?_|refine Yak ?_|refine Yai ?_|refine Yab ?_)
  refine Zao (.s 0 (.s 1 (.s 2 (.s 3 (.s 4 (.s 5 (.s 6 (.s 7 (.s 8 (.h 9 .nil .no)))))))))) mixed (by kernel_rfl) rfl ?_
  have hS := hS.drew
  repeat (first|(refine Zad ?_;first|refine Ya0 ?_|refine Ybq ?_|refine Ybj ?_|refine Ybw ?_|refine Ybm ?_|refine Yb1 ?_|refine Yas ?_))
  refine Zbo (a := some ⟨lb,lo,none⟩) (i := x.1.toNat * 64) rfl rfl ?_ rfl (Zel) (by simp [hx64]) rfl hS (by simp [hx64,hlay]; omega) (by omega) (fun w hS => ?_)
  ·rfl
  repeat (first|refine Yd0 ?_|refine Yef ?_|refine Yad ?_|refine Yd8 ?_|(refine Zad ?_;first|refine Yay ?_)|(refine Zac ?_;first|refine Yaz ?_))
  refine Zaf (k + 1) ⟨rfl,rfl,rfl,rfl,rfl,rfl,trivial⟩ ⟨hlt,?_⟩ (by omega)
  rw [Ztl hx]
  have hS := hS.pick [2,0,1]
  rwa [show Zah (Za4 (Zby D.laid (D.line.take k))) (x.1.toNat * 64) (bv x.2) = _ from Zqn (fun y hy => by simp [hl64 y hy]) (by simp [hx64]) (by rw [Zat]; omega)] at hS
 ·obtain rfl : k = D.line.length := by omega
  repeat (first|refine Yd0 ?_|(refine X_id ?_;first|refine Yaf ?_|refine Yag ?_|refine Yau ?_|refine Yan ?_|refine Ya3 ?_|refine Yao (fun _ hS _ => ?_))|refine Yd9 ?_|refine Yab ?_|refine Yb6 ?_|refine Ya9 ?_|refine Yba ?_|refine Yam ?_)
  refine ⟨trivial,?_⟩
  refine St.shutDisk (D := D.flushed) (al := al) (ai := none) (cl := cl) (ci := 0) (DiskM.flushed_ok hok) (by simpa [DiskM.flushed,Zat]) (by simp [DiskM.flushed]) ?_
  have hS := ((hS.pick [0,0]).own_none 336 65 none).pick [1,1,0]
  rw [List.take_length] at hS
  simpa [DiskM.flushed,Zat,Za0] using hS
/-! ### Flush -/
def DiskM.flush (D : DiskM) : Int × DiskM :=
 if D.off then (9,D) else if useB D.off D.armed D.left = false then (9,D.used)
 else (0,{ D.used.flushed with flushes := IntKind.i64.wrap (D.flushes + 1) })
theorem DiskM.flush_use {D : DiskM} (h : D.off = false) (hu : useB D.off D.armed D.left = false) : D.flush = (9,D.used) := by
 unfold DiskM.flush
 rw [if_neg (by simp [h]),if_pos hu]
theorem DiskM.flush_yes {D : DiskM} (h : D.off = false) (hu : useB D.off D.armed D.left = true) : D.flush = (0,{ D.used.flushed with flushes := IntKind.i64.wrap (D.flushes + 1) }) := by
 unfold DiskM.flush
 rw [if_neg (by simp [h]),if_neg (by simp [hu])]
theorem Z3w (p : Nat) (D : DiskM) (W : World) (F : Nat → Prop) (hS : St W F [disk p D] W) (hline : D.line.length < 1073741824) :
  Calls Tryz.prog 208 #[.pointer (some ⟨p,0,none⟩)] W (Ret fun v w => v = .int .i64 D.flush.1 ∧ St W F [disk p D.flush.2] w) := by
 have hd := hS.rd (List.mem_cons_self ..)
 have hon := on_ p D W hd
 have hok := hd.disk.1
 cases hoff : D.off
 ·rw [hoff] at hon
  refine Zab Tryz.func208 rfl Tryz.ntmps208 rfl ?_
  repeat (first|refine Yeg ?_|(refine X_id ?_;first|(refine Zaa 76 rfl rfl rfl rfl rfl hon ?_;rintro _ _ ⟨rfl,rfl⟩)|refine Yaf ?_|refine Yag ?_|refine Yau ?_|refine Yan ?_|refine Ybb ?_)|refine Yd1 ?_|refine Yab ?_)
  obtain ⟨hok,al,cl,ai,ci,c1,c2,hS⟩ := hS.openDisk
  cases huse : useB D.off D.armed D.left
  ·skip
   obtain ⟨_,hc,hr,hw,hbk⟩ := hS.call [true,false,false]
   refine Zaa _ rfl rfl rfl rfl rfl (use_ p D.off D.armed D.left _ _ _ _ hok.left0 hok.left1 hc) ?_
   rintro _ w ⟨rfl,hS⟩
   replace hS := hbk hS
   clear hc hr hw hbk
   rw [huse]
   repeat (first|refine Yeg ?_|refine Yag ?_|refine Ya4 ?_|refine Ybo ?_|refine Yeh ?_|refine Yei ?_)
   rw [DiskM.flush_use hoff huse]
   exact ⟨rfl,St.shutDisk (DiskM.used_ok hok) c1 c2 hS⟩
  ·skip
   obtain ⟨_,hc,hr,hw,hbk⟩ := hS.call [true,false,false]
   refine Zaa _ rfl rfl rfl rfl rfl (use_ p D.off D.armed D.left _ _ _ _ hok.left0 hok.left1 hc) ?_
   rintro _ w ⟨rfl,hS⟩
   replace hS := hbk hS
   clear hc hr hw hbk
   rw [huse]
   replace hS : St W F [disk p D.used] w := St.shutDisk (DiskM.used_ok hok) c1 c2 hS
   repeat (first|refine Yeg ?_|refine Yaf ?_|refine Ya4 ?_|refine Ybb ?_|refine Yeb ?_|refine Yab ?_)
   obtain ⟨_,hc,hr,hw,hbk⟩ := hS.call [true]
   refine Zaa _ rfl rfl rfl rfl rfl (lay_ p D.used _ _ hc hline) ?_
   rintro _ w ⟨_,hS⟩
   replace hS := hbk hS
   clear hc hr hw hbk
   obtain ⟨hok2,al2,cl2,ai2,ci2,d1,d2,hS⟩ := hS.openDisk
   repeat (first|refine Yd0 ?_|refine Yaf ?_|refine Yau ?_|refine Yan ?_|refine Yd1 ?_|refine Yab ?_)
   obtain ⟨_,hc,hr,hw,hbk⟩ := hS.call [true,false,false]
   refine Zaa _ rfl rfl rfl rfl rfl (Zz6 p 6 D.flushes 1 _ _ _ _ _ hc) ?_
   rintro _ w ⟨rfl,hS⟩
   replace hS := hbk hS
   clear hc hr hw hbk
   repeat (first|refine Yd0 ?_|refine Yag ?_|refine Yed ?_|refine Yd2 ?_)
   rw [DiskM.flush_yes hoff huse]
   exact ⟨rfl,St.shutDisk (D := { D.used.flushed with flushes := IntKind.i64.wrap (D.flushes + 1) }) ⟨hok2.1,hok2.2,hok2.3,hok2.4,hok2.5,hok2.6⟩ d1 d2 hS⟩
 ·rw [hoff] at hon
  refine Zab Tryz.func208 rfl Tryz.ntmps208 rfl ?_
  repeat (first|refine Yej ?_|(refine X_id ?_;first|(refine Zaa 76 rfl rfl rfl rfl rfl hon ?_;rintro _ _ ⟨rfl,rfl⟩)|refine Yaf ?_|refine Yag ?_|refine Ya5 ?_|refine Ybo ?_)|refine Yeh ?_|refine Yei ?_)
  exact ⟨by simp [DiskM.flush,hoff],by simpa [DiskM.flush,hoff] using hS⟩

/-! ### Read -/
theorem Zmi {b : Nat} {l : List Value} {T : TypeId} : ∀ h,pts b (.cells l.toArray T (0,0)) h → row (some ⟨b,0,none⟩) l h := fun _ hg => .inr ⟨b,0,l.toArray,T,(0,0),rfl,hg,fun j v hv => by simpa using hv⟩
theorem Zp5 {b off n : Nat} {l cs : List Value} {T : TypeId} (hs : (l.drop off).take n = cs) : ∀ h,pts b (.cells l.toArray T (0,0)) h → row (some ⟨b,off,none⟩) cs h := fun _ hg => .inr ⟨b,off,l.toArray,T,(0,0),rfl,hg,fun j v hv => by
 subst hs
 rw [List.getElem?_take] at hv
 split at hv
 ·rw [List.getElem?_drop] at hv
  simpa using hv
 ·cases hv⟩
theorem St.row_none {W : World} {F : Nat → Prop} {rs : List Res} {w : World} (hS : St W F rs w) : St W F (row none [] :: rs) w :=
 hS.imp fun h hh => ⟨fun _ => none,h,.inl ⟨rfl,fun _ => rfl⟩,hh,fun _ => .inl rfl,fun _ => by simp⟩
theorem St.more {W : World} {F : Nat → Prop} {rs : List Res} {w : World} (hS : St W noF rs w) : St W F rs w := by
 obtain ⟨h,hs,s⟩ := hS
 exact ⟨h,hs,s.agrees,fun b o e => (s.foot b o e).elim (fun h => h.elim) .inr,s.size,s.os,s.tape,s.output,fun k hk _ => s.kept k hk (fun h => h)⟩
theorem St.kept {W : World} {rs : List Res} {w : World} {b : Nat} {o : Obj} (hS : St W noF rs w) (h : W.heap[b]? = some o) : w.heap[b]? = some o := by
 have : Rd W (pts b o) := ⟨Zcl b o,rfl,fun k o' e => by obtain ⟨rfl,rfl⟩ := Zg8 e; exact h⟩
 exact (this.ro.rd hS).pts
theorem on_b (p : Nat) (D : DiskM) (b : Bool) (hb : D.off = b) (W : World) (hd : Rd W (disk p D)) : Calls Tryz.prog 76 #[.pointer (some ⟨p,0,none⟩)] W (Ret fun v w => v = .bool (!b) ∧ W = w) := by
 subst hb; exact on_ p D W hd
theorem Z3q (p : Nat) (D : DiskM) (no : Int) (b : Bool) (hb : Zc2 D no = b) (W : World) (hd : Rd W (disk p D)) : Calls Tryz.prog 199 #[.pointer (some ⟨p,0,none⟩),.int .i64 no] W (Ret fun v w => v = .bool b ∧ W = w) := by
 subst hb; exact has_ p D no W hd
theorem Zqu (a : Option Addr) (n c : Nat) (W : World) : Calls Tryz.prog 200 #[.slice a n c] W
  (Ret fun v w => ∃ bx,v = .func (.func 238) #[] #[.pointer (some ⟨bx,0,none⟩)] ∧ St W noF [pts bx (.cells #[.slice a n c] 162)] w) := by
 have hS := St.start W
 refine Zab Tryz.func200 rfl Tryz.ntmps200 rfl ?_
 repeat (first|refine Yd0 ?_|refine Yag ?_|refine Yci ?_|refine Ya6 (fun _ _ hS _ => ?_)|refine Yed ?_|refine Yd2 ?_)
 exact ⟨_,rfl,hS⟩
def DiskM.find (D : DiskM) (no : Int) : List UInt8 := match D.line.reverse.find? (fun x => x.1 == no) with | some x => x.2 | none => D.laid.getD no.toNat []
def DiskM.read (D : DiskM) (no : Int) : Int × List UInt8 := if D.off then (9,[]) else if Zc2 D no = false then (1,[]) else (0,D.find no)
end Cr
namespace Cr
open Go Go.Proofs Go.ChangeShapes Go.WideShapes Go.Deep
section
variable {H : Type} {enc : TypeId × Value → H} {P : Program} {w : World} {base : Nat} {sp : Nat → Bool} {held : Bool}
theorem Rd.ofCellsA {a : Addr} {l : List Value} (h : ∀ i v,l[i]? = some v → w.cell? (a.add i) = some v) : Rd w (row (some a) l) := by
 cases l with
 | nil => exact Zl0 w _
 | cons x r =>
  have h0 := h 0 x rfl
  have hsp : a.spot = none := by
   have := World.cell?_spot h0
   simpa [Addr.add] using this
  obtain ⟨b,off,spot⟩ := a
  obtain rfl : spot = none := hsp
  unfold World.cell? at h0
  split at h0
  ·rename_i c t fz hb
   have hb : w.heap[b]? = some (.cells c t fz) := by simpa [Addr.add] using hb
   refine ⟨Zcl b (.cells c t fz),.inr ⟨b,off,c,t,fz,rfl,rfl,fun i v hv => ?_⟩,fun k o e => ?_⟩
   ·have := h i v hv
    have e : (⟨b,off,none⟩ : Addr).add i = ⟨b,off + i,none⟩ := by
     unfold Addr.add; split
     ·rename_i h; subst h; rfl
     ·rfl
    rw [e,cell_of_row w b (off + i) c t fz hb] at this
    exact this
   ·obtain ⟨rfl,rfl⟩ := Zg8 e
    exact hb
  ·cases h0
theorem Z0j {n : Int} (h : (Lit.int .u8 n).wf = true) : Value.int .u8 n = .int .u8 ((UInt8.ofNat n.toNat).toNat : Int) := by
 simp only [Lit.wf,Bool.and_eq_true,decide_eq_true_eq] at h
 have h1 : 0 ≤ n := h.1
 have h2 : n ≤ 255 := h.2
 congr 1
 have : (UInt8.ofNat n.toNat).toNat = n.toNat := by rw [UInt8.toNat_ofNat']; omega
 rw [this]; omega
theorem Ztg {t e : TypeId} {fuel : Nat} {cs : List Value} {x : DataW H × List MemPlace} (ht : P.underlying t = some (.slice e)) (he : P.underlying e = some (.int .u8)) (hc : P.cellsOf e = 1)
  (h : DataW.trod enc P w base sp held fuel t cs = some x) : ∃ a s c,cs = [.slice a s.length c] ∧ s.length ≤ c ∧ c ≤ maxLen ∧ Rd w (bytes a s) := by
 rcases open_ints ht he hc h with ⟨rfl,_⟩ | ⟨a,len,cap,zs,rfl,_,hl,hm,hz,_,hcell,hwf⟩
 ·exact ⟨none,[],0,rfl,Nat.le_refl _,Nat.zero_le _,Zl0 w _⟩
 ·have hlz : len ≤ zs.length := by rw [hz]; split <;> omega
  have e1 : bv ((zs.take len).map fun n => UInt8.ofNat n.toNat) = (zs.take len).map fun n => Value.int .u8 n := by
   unfold bv
   rw [List.map_map]
   refine List.map_congr_left fun n hn => ?_
   exact (Z0j (hwf n (List.mem_of_mem_take hn))).symm
  have e2 : ((zs.take len).map fun n => UInt8.ofNat n.toNat).length = len := by simp; omega
  refine ⟨some a,(zs.take len).map fun n => UInt8.ofNat n.toNat,cap,by rw [e2],by rw [e2]; exact hl,hm,?_⟩
  unfold bytes
  rw [e1]
  refine Rd.ofCellsA fun i v hv => ?_
  rw [List.getElem?_map,List.getElem?_take] at hv
  split at hv
  ·rename_i hi
   rw [hcell i (by omega)]
   have h3 : zs[i]? = some zs[i] := List.getElem?_eq_getElem (by omega)
   rw [h3] at hv
   rw [List.getD_eq_getElem?_getD,h3]
   exact hv
  ·cases hv
end
end Cr
namespace Cr
open Go Go.Proofs Go.ChangeShapes Go.WideShapes Go.Deep
section
variable {H : Type} {enc : TypeId × Value → H} {P : Program} {w : World} {base : Nat} {sp : Nat → Bool} {held : Bool}
theorem Zgj {α : Type} [Inhabited α] (f : α → List Value) (Ok : α → Prop) {t e : TypeId} {fuel : Nat} {cs : List Value} {x : DataW H × List MemPlace} (n : Nat) (ht : P.underlying t = some (.slice e)) (ce : P.cellsOf e = n) (hpos : 0 < n)
  (hopen : ∀ (fuel : Nat) (cs : List Value) (y : DataW H × List MemPlace),DataW.trod enc P w base sp held fuel e cs = some y → ∃ a : α,cs = f a ∧ Ok a)
  (h : DataW.trod enc P w base sp held fuel t cs = some x) : ∃ (a : Option Addr) (l : List α) (c : Nat),cs = [.slice a l.length c] ∧ l.length ≤ c ∧ c ≤ maxLen ∧ Rd w (row a (l.flatMap f)) ∧ ∀ y ∈ l,Ok y ∧ (f y).length = n := by
 rcases DataW.trod_slice ht h with ⟨rfl,_⟩ | ⟨a,len,cap,elems,rest,m,_,rfl,_,_,hl,hm,hel,hx,_⟩
 ·exact ⟨none,[],0,rfl,Nat.le_refl _,Nat.zero_le _,Zl0 w _,fun _ h => (List.not_mem_nil h).elim⟩
 ·have each : ∀ i,i < len → ∃ q : α,Ok q ∧ (f q).length = n ∧ ∀ k,k < n → w.cell? (a.add (i * n + k)) = (f q)[k]? := fun i hi => by
   have h1 := hx i hi
   rw [List.getElem?_eq_getElem (by omega),ce,Option.bind_eq_some_iff] at h1
   obtain ⟨cs',h2,h3⟩ := h1
   obtain ⟨_,hlen,hcell⟩ := World.cells?_some h2
   obtain ⟨q,rfl,hq⟩ := hopen _ _ _ h3
   exact ⟨q,hq,hlen,fun k hk => by rw [← add_add]; exact hcell k hk⟩
  obtain ⟨q,hq⟩ := choose_lt each
  have hlen : ((List.range len).map q).length = len := by simp
  have hall : ∀ y ∈ (List.range len).map q,Ok y ∧ (f y).length = n := fun y hy => by
   obtain ⟨i,hi,rfl⟩ := List.mem_map.1 hy
   have := hq i (List.mem_range.1 hi)
   exact ⟨this.1,this.2.1⟩
  refine ⟨some a,(List.range len).map q,cap,by rw [hlen],by rw [hlen]; exact hl,hm,Rd.ofCellsA fun k v hv => ?_,hall⟩
  have hfl := Zet (n := n) fun y hy => (hall y hy).2
  have hk : k / n < len := by
   have := (List.getElem?_eq_some_iff.1 hv).1
   rw [hfl,hlen] at this
   exact (Nat.div_lt_iff_lt_mul hpos).2 this
  have hget : ((List.range len).map q)[k / n]? = some (q (k / n)) := by simp [hk]
  have hsg := Zbz (f := f) (fun y hy => (hall y hy).2) hget
  have hmod : k % n < n := Nat.mod_lt _ hpos
  have hk2 : k / n * n + k % n = k := by rw [Nat.mul_comm]; exact Nat.div_add_mod k n
  have hv3 := congrArg (fun l => l[k % n]?) hsg
  simp only [List.getElem?_take,List.getElem?_drop] at hv3
  rw [if_pos hmod,hk2,hv] at hv3
  have := (hq (k / n) hk).2.2 (k % n) hmod
  rw [hk2] at this
  rw [this]; exact hv3.symm
end
end Cr
namespace Cr
open Go
structure TkA where
 k : Int
 n : Int
 a : Option Addr
 s : List UInt8
 c : Nat
def TkA.cells (y : TkA) : List Value := [.int .i64 y.k,.int .i64 y.n,.slice y.a y.s.length y.c]
structure TkA.Ok (y : TkA) : Prop where
 k : -9223372036854775808 ≤ y.k ∧ y.k ≤ 9223372036854775807
 n : -9223372036854775808 ≤ y.n ∧ y.n ≤ 9223372036854775807
 c : y.s.length ≤ y.c
def tksV (l : List TkA) : List Value := l.flatMap TkA.cells
def Tks (W : World) (F : Nat → Prop) (a : Option Addr) (l : List TkA) : Prop := Ro W F (row a (tksV l)) ∧ ∀ u ∈ l,u.Ok ∧ Ro W F (bytes u.a u.s)
structure ActA where
 k : Int
 n : Int
 nm : List UInt8
 ky : List UInt8
 ot : List UInt8
 va : Option Addr
 v : List TkA
 vc : Nat
 pa : Option Addr
 pn : Nat
 pc : Nat
def ActA.cells (y : ActA) : List Value := [.int .i64 y.k,.int .i64 y.n,.string (str y.nm),.string (str y.ky),.string (str y.ot),.slice y.va y.v.length y.vc,.slice y.pa y.pn y.pc]
def Z4l (l : List ActA) : List Value := l.flatMap ActA.cells
def Acts (W : World) (F : Nat → Prop) (a : Option Addr) (l : List ActA) : Prop := Ro W F (row a (Z4l l)) ∧ ∀ x ∈ l,Tks W F x.va x.v
theorem Tks.mono {W W' : World} {F F' : Nat → Prop} {a : Option Addr} {l : List TkA} (h : Tks W F a l) (hw : ∀ r,Ro W F r → Ro W' F' r) : Tks W' F' a l := ⟨hw _ h.1,fun u hu => ⟨(h.2 u hu).1,hw _ (h.2 u hu).2⟩⟩
theorem Z0k {l : List TkA} {i : Nat} {t : TkA} (h : l[i]? = some t) : ((tksV l).drop (i * 3)).take 3 = t.cells := Zbz (f := TkA.cells) (fun _ _ => rfl) h
theorem Zy9 {l : List ActA} {i : Nat} {t : ActA} (h : l[i]? = some t) : ((Z4l l).drop (i * 7)).take 7 = t.cells := Zbz (f := ActA.cells) (fun _ _ => rfl) h
end Cr
namespace Cr
open Go Go.Proofs Go.ChangeShapes Go.WideShapes Go.Deep
set_option maxRecDepth 100000
section
variable {H : Type} {enc : TypeId × Value → H} {w : World} {base : Nat} {sp : Nat → Bool} {held : Bool}
instance : Inhabited TkA := ⟨⟨0,0,none,[],0⟩⟩
instance : Inhabited ActA := ⟨⟨0,0,[],[],[],none,[],0,none,0,0⟩⟩
theorem Zmk {n : Nat} {v : Value} {y : DataW H × List MemPlace} (h : DataW.trod enc Tryz.prog w base sp held n 9 [v] = some y) : ∃ s,v = .string (str s) := by
 obtain ⟨s,hs,_⟩ := DataW.trod_string Tryz.underlying9 h
 obtain ⟨l,rfl⟩ := str_of s
 exact ⟨l,by simpa using hs⟩
theorem Zi2 {n : Nat} {v : Value} {y : DataW H × List MemPlace} (h : DataW.trod enc Tryz.prog w base sp held n 3 [v] = some y) : ∃ k,v = .int .i64 k ∧ -9223372036854775808 ≤ k ∧ k ≤ 9223372036854775807 := by
 obtain ⟨k,hk,_,hw⟩ := DataW.trod_int Tryz.underlying3 h
 refine ⟨k,by simpa using hk,?_⟩
 simp only [Lit.wf,Bool.and_eq_true,decide_eq_true_eq] at hw
 exact hw
theorem Zf1 : Tryz.prog.cellsOf 3 = 1 := by kernel_rfl
theorem Zf0 : Tryz.prog.cellsOf 9 = 1 := by kernel_rfl
theorem Zwc : Tryz.prog.cellsOf 5 = 1 := by kernel_rfl
theorem Zwd : Tryz.prog.cellsOf 35 = 1 := by kernel_rfl
theorem Zo5 : Tryz.prog.cellsOf 110 = 3 := by kernel_rfl
theorem Zt0 : Tryz.prog.cellsOf 39 = 1 := by kernel_rfl
theorem Zqq : Tryz.prog.cellsOf 40 = 1 := by kernel_rfl
theorem Zlv : Tryz.prog.cellsOf 42 = 7 := by kernel_rfl
theorem Z05 {fuel : Nat} {cs : List Value} {x : DataW H × List MemPlace} (h : DataW.trod enc Tryz.prog w base sp held fuel 110 cs = some x) :
  ∃ y : TkA,cs = y.cells ∧ y.Ok ∧ Rd w (bytes y.a y.s) := by
 obtain ⟨xs,n,_,_,hl,hxl,hf⟩ := DataW.trod_struct Tryz.underlying110 h
 rw [Zo5] at hl
 have hxl : xs.length = 3 := hxl
 have f0 : DataW.trod enc Tryz.prog w base sp held n 3 ((List.drop 0 cs).take (Tryz.prog.cellsOf 3)) = xs[0]? := hf 0 _ rfl
 have f1 : DataW.trod enc Tryz.prog w base sp held n 3 ((List.drop 1 cs).take (Tryz.prog.cellsOf 3)) = xs[1]? := hf 1 _ rfl
 have f2 : DataW.trod enc Tryz.prog w base sp held n 35 ((List.drop 2 cs).take (Tryz.prog.cellsOf 35)) = xs[2]? := hf 2 _ rfl
 match cs,hl with
 | [c0,c1,c2],_ =>
  rw [Zf1,List.getElem?_eq_getElem (by omega)] at f0
  rw [Zf1,List.getElem?_eq_getElem (by omega)] at f1
  rw [Zwd,List.getElem?_eq_getElem (by omega)] at f2
  simp only [List.drop_zero,List.drop_succ_cons,List.take_succ_cons,List.take_zero] at f0 f1 f2
  obtain ⟨k,rfl,hk⟩ := Zi2 f0
  obtain ⟨n1,rfl,hn⟩ := Zi2 f1
  obtain ⟨a,s,c,e,hc,_,hb⟩ := Ztg Tryz.underlying35 Tryz.underlying5 Zwc f2
  simp only [List.cons.injEq,and_true] at e
  subst e
  exact ⟨⟨k,n1,a,s,c⟩,rfl,⟨hk,hn,hc⟩,hb⟩
theorem Ztf {fuel : Nat} {v : Value} {x : DataW H × List MemPlace} (h : DataW.trod enc Tryz.prog w base sp held fuel 40 [v] = some x) : ∃ a n c,v = .slice a n c := by
 obtain ⟨a,l,c,e,_⟩ := Zgj (fun s : List UInt8 => [Value.string (str s)]) (fun _ => True) 1 Tryz.underlying40 Zf0 (by omega) (fun fuel cs y hh => by
  obtain ⟨s,hs,_⟩ := DataW.trod_string Tryz.underlying9 hh
  obtain ⟨l,rfl⟩ := str_of s
  exact ⟨l,hs,trivial⟩) h
 simp only [List.cons.injEq,and_true] at e
 exact ⟨_,_,_,e⟩
theorem Zx9 {fuel : Nat} {cs : List Value} {x : DataW H × List MemPlace} (h : DataW.trod enc Tryz.prog w base sp held fuel 42 cs = some x) :
  ∃ y : ActA,cs = y.cells ∧ (Rd w (row y.va (tksV y.v)) ∧ ∀ u ∈ y.v,u.Ok ∧ Rd w (bytes u.a u.s)) := by
 obtain ⟨xs,n,_,_,hl,hxl,hf⟩ := DataW.trod_struct Tryz.underlying42 h
 rw [Zlv] at hl
 have hxl : xs.length = 7 := hxl
 have f0 : DataW.trod enc Tryz.prog w base sp held n 3 ((List.drop 0 cs).take (Tryz.prog.cellsOf 3)) = xs[0]? := hf 0 _ rfl
 have f1 : DataW.trod enc Tryz.prog w base sp held n 3 ((List.drop 1 cs).take (Tryz.prog.cellsOf 3)) = xs[1]? := hf 1 _ rfl
 have f2 : DataW.trod enc Tryz.prog w base sp held n 9 ((List.drop 2 cs).take (Tryz.prog.cellsOf 9)) = xs[2]? := hf 2 _ rfl
 have f3 : DataW.trod enc Tryz.prog w base sp held n 9 ((List.drop 3 cs).take (Tryz.prog.cellsOf 9)) = xs[3]? := hf 3 _ rfl
 have f4 : DataW.trod enc Tryz.prog w base sp held n 9 ((List.drop 4 cs).take (Tryz.prog.cellsOf 9)) = xs[4]? := hf 4 _ rfl
 have f5 : DataW.trod enc Tryz.prog w base sp held n 39 ((List.drop 5 cs).take (Tryz.prog.cellsOf 39)) = xs[5]? := hf 5 _ rfl
 have f6 : DataW.trod enc Tryz.prog w base sp held n 40 ((List.drop 6 cs).take (Tryz.prog.cellsOf 40)) = xs[6]? := hf 6 _ rfl
 match cs,hl with
 | [c0,c1,c2,c3,c4,c5,c6],_ =>
  rw [Zf1,List.getElem?_eq_getElem (by omega)] at f0
  rw [Zf1,List.getElem?_eq_getElem (by omega)] at f1
  rw [Zf0,List.getElem?_eq_getElem (by omega)] at f2
  rw [Zf0,List.getElem?_eq_getElem (by omega)] at f3
  rw [Zf0,List.getElem?_eq_getElem (by omega)] at f4
  rw [Zt0,List.getElem?_eq_getElem (by omega)] at f5
  rw [Zqq,List.getElem?_eq_getElem (by omega)] at f6
  simp only [List.drop_zero,List.drop_succ_cons,List.take_succ_cons,List.take_zero] at f0 f1 f2 f3 f4 f5 f6
  obtain ⟨k,rfl,_⟩ := Zi2 f0
  obtain ⟨n1,rfl,_⟩ := Zi2 f1
  obtain ⟨nm,rfl⟩ := Zmk f2
  obtain ⟨ky,rfl⟩ := Zmk f3
  obtain ⟨ot,rfl⟩ := Zmk f4
  obtain ⟨a1,l1,q1,e1,_,_,hr1,hall1⟩ := Zgj TkA.cells (fun y => y.Ok ∧ Rd w (bytes y.a y.s)) 3 Tryz.underlying39 Zo5 (by omega) (fun _ _ _ h => Z05 h) f5
  obtain ⟨pa,pn,pc,rfl⟩ := Ztf f6
  simp only [List.cons.injEq,and_true] at e1
  subst e1
  exact ⟨⟨k,n1,nm,ky,ot,a1,l1,q1,pa,pn,pc⟩,rfl,hr1,fun u hu => (hall1 u hu).1⟩
end
theorem arg_acts {H : Type} {enc : TypeId × Value → H} {W : World} {p : List MemPlace} {d : DataW H} {v : Value} {base : Nat}
  (hok : Value.okWide Tryz.prog W .any base 22 v) (h : DataW.Trod enc Tryz.prog W 0 (fun _ => true) true 22 v d p) :
  ∃ (a : Option Addr) (l : List ActA) (ca : Nat),v = .slice a l.length ca ∧ Acts W noF a l := by
 obtain ⟨a0,n0,c0,rfl⟩ := okWide_slice Tryz.underlying22 hok
 obtain ⟨fuel,hf⟩ := h
 obtain ⟨a,l,c,e,_,_,hr,hall⟩ := Zgj ActA.cells (fun y => Rd W (row y.va (tksV y.v)) ∧ ∀ u ∈ y.v,u.Ok ∧ Rd W (bytes u.a u.s)) 7 Tryz.underlying22 Zlv (by omega) (fun _ _ _ h => Zx9 h) hf
 have e : [Value.slice a0 n0 c0] = [.slice a l.length c] := e
 simp only [List.cons.injEq,Value.slice.injEq,and_true] at e
 obtain ⟨rfl,rfl,rfl⟩ := e
 exact ⟨_,l,_,rfl,hr.ro,fun x hx => ⟨(hall x hx).1.1.ro,fun u hu => ⟨((hall x hx).1.2 u hu).1,((hall x hx).1.2 u hu).2.ro⟩⟩⟩
end Cr
namespace Cr
open Go
theorem Rd.cellsX {w : World} {a : Option Addr} {cs seg : List Value} {i' i n : Nat} (H : Rd w (Cr.row a cs)) (hi : i' = i) (h : (cs.drop i).take n = seg) (hn : seg.length = n) : Zfm w (adr a i') n seg := by
 subst hi; subst h
 exact ⟨H.seg _ _,hn⟩
end Cr
namespace Cr
open Go

inductive Leaf where
 | num (n : Int)
 | txt (b : List UInt8)
 | oth
inductive Top where
 | leaf (x : Leaf)
 | list (l : List Leaf)
def Top.shut : Top → Leaf
 | .leaf x => x
 | .list _ => .oth

def dig (c : UInt8) : Bool := decide (48 ≤ c.toNat) && decide (c.toNat ≤ 57)
theorem dig_iff {c : UInt8} : dig c = true ↔ 48 ≤ c.toNat ∧ c.toNat ≤ 57 := by simp [dig]
def sgn (below : Bool) (l : List UInt8) : List UInt8 := if below = true ∧ l.head? = some 45 then [45] else []
def numS (below : Bool) (l : List UInt8) : List UInt8 := sgn below l ++ (l.drop (sgn below l).length).takeWhile dig
def badN (s : List UInt8) : Prop := s = [] ∨ s = [45] ∨ s = [45,48] ∨ (s.head? = some 48 ∧ 1 < s.length) ∨ (2 < s.length ∧ s.take 2 = [45,48])
instance (s : List UInt8) : Decidable (badN s) := by unfold badN; infer_instance
def num (below : Bool) (e : UInt8) (l : List UInt8) : Option (Int × List UInt8) :=
 match l.drop (numS below l).length with
 | [] => none
 | c :: r => if badN (numS below l) ∨ c ≠ e then none else
  match Lib.atoiAll (numS below l) with
  | .ok v => some (v,r)
  | _ => none

/-! ### digits and numbers -/
def val (d : List UInt8) (acc : Nat) : Nat := d.foldl (fun a c => a * 10 + (c.toNat - 48)) acc
theorem Zui (a : Nat) : val [] a = a := rfl
theorem Zgy (c : UInt8) (d : List UInt8) (a : Nat) : val (c :: d) a = val d (a * 10 + (c.toNat - 48)) := by simp [val]
theorem Zra (c : UInt8) (d : List UInt8) (a : Nat) : val (d ++ [c]) a = val d a * 10 + (c.toNat - 48) := by simp [val]
theorem Zuj : ∀ (d : List UInt8) (a : Nat),a ≤ val d a
 | [],a => Nat.le_refl _
 | c :: d,a => by rw [Zgy]; have := Zuj d (a * 10 + (c.toNat - 48)); omega
theorem Z03 (c : UInt8) (d : List UInt8) (a : Nat) : (Lib.parseUint10 a (c :: d) = Lib.parseUint10 (a * 10 + (c.toNat - 48)) d ∧ dig c = true) ∨ ∀ u,Lib.parseUint10 a (c :: d) ≠ .ok u := by
 by_cases h1 : 48 ≤ c.toNat ∧ c.toNat ≤ 57
 ·by_cases h2 : 1844674407370955162 ≤ a
  ·refine .inr fun u => ?_
   rw [Lib.parseUint10,if_pos h1,if_pos h2]; exact fun h => nomatch h
  ·by_cases h3 : 18446744073709551616 ≤ a * 10 + (c.toNat - 48)
   ·refine .inr fun u => ?_
    rw [Lib.parseUint10,if_pos h1,if_neg h2,if_pos h3]; exact fun h => nomatch h
   ·refine .inl ⟨?_,dig_iff.2 h1⟩
    rw [Lib.parseUint10,if_pos h1,if_neg h2,if_neg h3]
 ·refine .inr fun u => ?_
  rw [Lib.parseUint10,if_neg h1]; exact fun h => nomatch h
theorem Z23 (d : List UInt8) : ∀ (a u : Nat),Lib.parseUint10 a d = .ok u → u = val d a ∧ ∀ c ∈ d,dig c = true := by
 induction d with
 | nil => intro a u h; rw [Lib.parseUint10] at h; injection h with h; exact ⟨h.symm,fun _ hc => by cases hc⟩
 | cons c d ih =>
  intro a u h
  rcases Z03 c d a with ⟨h1,h2⟩ | h1
  ·rw [h1] at h
   obtain ⟨h3,h4⟩ := ih _ u h
   refine ⟨h3,fun x hx => ?_⟩
   rcases List.mem_cons.1 hx with rfl | hx
   ·exact h2
   ·exact h4 x hx
  ·exact absurd h (h1 u)
theorem Z04 : ∀ (d : List UInt8) (a : Nat),(∀ c ∈ d,dig c = true) → val d a ≤ 9223372036854775808 → Lib.parseUint10 a d = .ok (val d a)
 | [],a,_,_ => rfl
 | c :: d,a,hd,hv => by
  have hc := dig_iff.1 (hd c (List.mem_cons_self ..))
  rw [Zgy] at hv ⊢
  have := Zuj d (a * 10 + (c.toNat - 48))
  simp only [Lib.parseUint10]
  rw [if_pos hc,if_neg (by omega),if_neg (by omega)]
  exact Z04 d _ (fun x hx => hd x (List.mem_cons_of_mem _ hx)) hv
theorem Zuh {d : List UInt8} (hd : ∀ c ∈ d,dig c = true) (h0 : d ≠ []) (h1 : d.head? ≠ some 48) : 1 ≤ val d 0 := by
 cases d with
 | nil => exact absurd rfl h0
 | cons c d =>
  rw [Zgy]
  have hc := dig_iff.1 (hd c (List.mem_cons_self ..))
  have := Zuj d (0 * 10 + (c.toNat - 48))
  have : c.toNat ≠ 48 := fun e => h1 (by rw [List.head?_cons,show c = 48 from UInt8.toNat_inj.1 e])
  omega
theorem Zn9 {c : UInt8} (hc : 48 ≤ c.toNat) : UInt8.ofNat (48 + (c.toNat - 48)) = c := by
 rw [show 48 + (c.toNat - 48) = c.toNat by omega]; exact UInt8.ofNat_toNat
theorem Zqo : ∀ (n : Nat) (d : List UInt8),d.length = n + 1 → (∀ c ∈ d,dig c = true) → (d.head? ≠ some 48 ∨ n = 0) → Lib.decDigits (val d 0) = d
 | 0,d,hl,hd,_ => by
  obtain ⟨c,rfl⟩ : ∃ c,d = [c] := List.length_eq_one_iff.1 hl
  have hc := dig_iff.1 (hd c (List.mem_cons_self ..))
  rw [Zgy,Zui,Lib.decDigits,dif_pos (by omega),Nat.zero_mul,Nat.zero_add,Zn9 hc.1]
 | n + 1,d,hl,hd,hh => by
  obtain ⟨d',c,rfl⟩ : ∃ d' c,d = d' ++ [c] := (List.eq_nil_or_concat d).resolve_left (fun e => by rw [e] at hl; cases hl) |>.imp fun _ h => h.imp fun _ h => by simpa using h
  have hl' : d'.length = n + 1 := by simpa using hl
  have hn0 : d' ≠ [] := fun e => by rw [e] at hl'; cases hl'
  have hh' : d'.head? ≠ some 48 := by
   rcases hh with hh | hh
   ·cases d' with
    | nil => exact absurd rfl hn0
    | cons x y => exact hh
   ·cases hh
  have hd' : ∀ c ∈ d',dig c = true := fun x hx => hd x (List.mem_append_left _ hx)
  have hc := dig_iff.1 (hd c (List.mem_append_right _ (List.mem_cons_self ..)))
  have hp := Zuh hd' hn0 hh'
  have ih := Zqo n d' hl' hd' (.inl hh')
  rw [Zra,Lib.decDigits,dif_neg (by omega)]
  rw [show (val d' 0 * 10 + (c.toNat - 48)) / 10 = val d' 0 by omega,show (val d' 0 * 10 + (c.toNat - 48)) % 10 = c.toNat - 48 by omega,ih,Zn9 hc.1]
theorem Zbv {k : Nat} (h : k < 10) : (UInt8.ofNat (48 + k)).toNat = 48 + k := by
 rw [UInt8.toNat_ofNat']; exact Nat.mod_eq_of_lt (by omega)
theorem Zfg (u : Nat) : (∀ c ∈ Lib.decDigits u,dig c = true) ∧ Lib.decDigits u ≠ [] ∧ ((Lib.decDigits u).head? = some 48 → u = 0) ∧ val (Lib.decDigits u) 0 = u := by
 induction u using Nat.strongRecOn with
 | _ u ih =>
  rw [Lib.decDigits]
  by_cases h : u < 10
  ·rw [dif_pos h]
   refine ⟨fun c hc => ?_,by simp,fun hh => ?_,?_⟩
   ·obtain rfl := List.mem_singleton.1 hc
    rw [dig_iff,Zbv h]; omega
   ·have h1 : UInt8.ofNat (48 + u) = 48 := by simpa using hh
    have := congrArg UInt8.toNat h1
    rw [Zbv h] at this
    have h48 : (48 : UInt8).toNat = 48 := rfl
    omega
   ·rw [Zgy,Zui,Zbv h]; omega
  ·rw [dif_neg h]
   obtain ⟨h1,h2,h3,h4⟩ := ih (u / 10) (by omega)
   refine ⟨fun c hc => ?_,by simp,fun hh => ?_,?_⟩
   ·rcases List.mem_append.1 hc with hc | hc
    ·exact h1 c hc
    ·obtain rfl := List.mem_singleton.1 hc
     rw [dig_iff,Zbv (by omega)]; omega
   ·exfalso
    cases e : Lib.decDigits (u / 10) with
    | nil => exact h2 e
    | cons x y =>
     rw [e] at hh h3
     have := h3 (by simpa using hh)
     omega
   ·rw [Zra,h4,Zbv (by omega)]; omega

theorem Zer {p : UInt8 → Bool} {e : UInt8} {r : List UInt8} : ∀ {d : List UInt8},(∀ c ∈ d,p c = true) → p e = false → (d ++ e :: r).takeWhile p = d
 | [],_,he => by simp [he]
 | c :: d,hd,he => by
  rw [List.cons_append,List.takeWhile_cons,if_pos (hd c (List.mem_cons_self ..)),Zer (fun x hx => hd x (List.mem_cons_of_mem _ hx)) he]
theorem Zhe {p : UInt8 → Bool} : ∀ {l : List UInt8} {c : UInt8},c ∈ l.takeWhile p → p c = true
 | [],_,h => by cases h
 | x :: l,c,h => by
  rw [List.takeWhile_cons] at h
  split at h
  ·rename_i hx
   rcases List.mem_cons.1 h with rfl | h
   ·exact hx
   ·exact Zhe h
  ·cases h
theorem Zf6 {p : UInt8 → Bool} : ∀ (l : List UInt8),l.take (l.takeWhile p).length = l.takeWhile p
 | [] => rfl
 | x :: l => by
  rw [List.takeWhile_cons]
  split
  ·simp [Zf6 l]
  ·rfl
theorem Zxu (below : Bool) (l : List UInt8) : l.take (sgn below l).length = sgn below l := by
 unfold sgn
 split
 ·rename_i h
  cases l with
  | nil => simp at h
  | cons c l => have := h.2; simp at this; simp [this]
 ·rfl
theorem Zha (below : Bool) (l : List UInt8) : l.take (numS below l).length = numS below l := by
 unfold numS
 generalize hs : sgn below l = s
 have h1 : l.take s.length = s := by rw [← hs]; exact Zxu below l
 rw [List.length_append,List.take_add,h1,Zf6]
theorem Z09 (below : Bool) (l : List UInt8) : (numS below l).length ≤ l.length := by
 have h := congrArg List.length (Zha below l)
 rw [List.length_take] at h; omega

theorem Zg9 {below : Bool} {e : UInt8} {l r : List UInt8} {v : Int} (h : num below e l = some (v,r)) :
  l = numS below l ++ e :: r ∧ ¬ badN (numS below l) ∧ Lib.atoiAll (numS below l) = .ok v := by
 unfold num at h
 split at h
 ·cases h
 ·rename_i c r' hd
  split at h
  ·cases h
  ·rename_i hb
   split at h
   ·rename_i v' hv
    obtain ⟨rfl,rfl⟩ : v' = v ∧ r' = r := by simpa using h
    have hc : c = e := Decidable.not_not.1 fun hc => hb (.inr hc)
    have hn := fun hbad => hb (.inl hbad)
    refine ⟨?_,hn,hv⟩
    have := List.take_append_drop (numS below l).length l
    rw [Zha,hd,hc] at this
    exact this.symm
   ·cases h
theorem Zh1 (below : Bool) (l : List UInt8) : ∃ d,(∀ c ∈ d,dig c = true) ∧ (numS below l = d ∨ numS below l = 45 :: d ∧ below = true) := by
 refine ⟨(l.drop (sgn below l).length).takeWhile dig,fun c hc => Zhe hc,?_⟩
 unfold numS
 by_cases h : below = true ∧ l.head? = some 45
 ·right; rw [show sgn below l = [45] from if_pos h]; exact ⟨rfl,h.1⟩
 ·left; rw [show sgn below l = [] from if_neg h]; rfl
theorem Z1a {c : UInt8} (hc : dig c = true) : ¬ c.toNat = 45 ∧ ¬ (c.toNat = 43 ∨ c.toNat = 45) := by
 have := dig_iff.1 hc; omega
theorem Zst {d : List UInt8} {v : Int} (hd : ∀ c ∈ d,dig c = true) (h : Lib.atoiAll d = .ok v) : d ≠ [] ∧ v = (val d 0 : Nat) := by
 cases d with
 | nil => cases h
 | cons c d =>
  refine ⟨by simp,?_⟩
  have hc := Z1a (hd c (List.mem_cons_self ..))
  unfold Lib.atoiAll at h
  simp only at h
  rw [if_neg hc.2] at h
  unfold Lib.parseMag at h
  rw [if_neg (by simp)] at h
  rcases hp : Lib.parseUint10 0 (c :: d) with u | _ | _
  ·rw [hp] at h
   simp only at h
   split at h
   ·cases h
   ·split at h
    ·cases h
    ·rw [if_neg hc.1] at h
     injection h with h
     rw [← h,(Z23 _ _ _ hp).1]
  ·rw [hp] at h; cases h
  ·rw [hp] at h; cases h
theorem Zy8 {d : List UInt8} {v : Int} (h : Lib.atoiAll (45 :: d) = .ok v) : d ≠ [] ∧ v = - ((val d 0 : Nat) : Int) := by
 unfold Lib.atoiAll at h
 simp only at h
 rw [if_pos (.inr rfl)] at h
 unfold Lib.parseMag at h
 by_cases hd : d = []
 ·rw [if_pos hd] at h; cases h
 ·rw [if_neg hd] at h
  refine ⟨hd,?_⟩
  rcases hp : Lib.parseUint10 0 d with u | _ | _
  ·rw [hp] at h
   simp only at h
   split at h
   ·cases h
   ·split at h
    ·cases h
    ·rw [if_pos (show UInt8.toNat 45 = 45 from rfl)] at h
     injection h with h
     rw [← h,(Z23 _ _ _ hp).1]
  ·rw [hp] at h; cases h
  ·rw [hp] at h; cases h
theorem Zfv (u : Nat) : Lib.itoa (u : Int) = Lib.decDigits u := by
 unfold Lib.itoa; rw [if_neg (by omega),Int.toNat_natCast]
theorem Zmr {u : Nat} (h : 1 ≤ u) : Lib.itoa (-(u : Int)) = 45 :: Lib.decDigits u := by
 unfold Lib.itoa; rw [if_pos (by omega)]; congr 2; omega
theorem Zob {below : Bool} {e : UInt8} {l r : List UInt8} {v : Int} (h : num below e l = some (v,r)) : l = Lib.itoa v ++ e :: r := by
 obtain ⟨hl,hb,hv⟩ := Zg9 h
 have key : numS below l = Lib.itoa v := by
  obtain ⟨d,hd,hs | ⟨hs,_⟩⟩ := Zh1 below l
  ·rw [hs] at hb hv ⊢
   obtain ⟨h0,rfl⟩ := Zst hd hv
   rw [Zfv]
   refine (Zqo (d.length - 1) d (by have := List.length_pos_iff.2 h0; omega) hd ?_).symm
   by_cases h1 : d.length - 1 = 0
   ·exact .inr h1
   ·refine .inl fun hh => hb ?_
    exact .inr (.inr (.inr (.inl ⟨hh,by omega⟩)))
  ·rw [hs] at hb hv ⊢
   obtain ⟨h0,rfl⟩ := Zy8 hv
   have hh : d.head? ≠ some 48 := fun hh => by
    cases d with
    | nil => exact h0 rfl
    | cons c d =>
     obtain rfl : c = 48 := by simpa using hh
     cases d with
     | nil => exact hb (.inr (.inr (.inl rfl)))
     | cons x y => exact hb (.inr (.inr (.inr (.inr ⟨by simp,rfl⟩))))
   rw [Zmr (Zuh hd h0 hh),Zqo (d.length - 1) d (by have := List.length_pos_iff.2 h0; omega) hd (.inl hh)]
 rw [key] at hl
 exact hl
theorem Zlb {e : UInt8} {l r : List UInt8} {v : Int} (h : num false e l = some (v,r)) : 0 ≤ v := by
 obtain ⟨_,_,hv⟩ := Zg9 h
 obtain ⟨d,hd,hs | ⟨_,hs⟩⟩ := Zh1 false l
 ·rw [hs] at hv
  rw [(Zst hd hv).2]; omega
 ·cases hs
theorem Zu6 {below : Bool} {e : UInt8} {l r : List UInt8} {v : Int} (h : num below e l = some (v,r)) : r.length < l.length := by
 obtain ⟨hl,_,_⟩ := Zg9 h
 have := congrArg List.length hl
 simp at this; omega

theorem Zwl {v : Int} (h1 : -9223372036854775808 ≤ v) (h2 : v ≤ 9223372036854775807) : Lib.atoiAll (Lib.itoa v) = .ok v := by
 by_cases h : v < 0
 ·obtain ⟨u,rfl⟩ : ∃ u : Nat,v = -(u : Int) := ⟨v.natAbs,by omega⟩
  rw [Zmr (by omega)]
  obtain ⟨f1,f2,_,f4⟩ := Zfg u
  unfold Lib.atoiAll
  simp only
  rw [if_pos (.inr rfl)]
  unfold Lib.parseMag
  rw [if_neg f2,Z04 _ _ f1 (by rw [f4]; omega),f4]
  simp only
  rw [if_neg (by intro h; exact h.1 rfl),if_neg (by omega),if_pos (show UInt8.toNat 45 = 45 from rfl)]
 ·obtain ⟨u,rfl⟩ : ∃ u : Nat,v = (u : Int) := ⟨v.toNat,by omega⟩
  rw [Zfv]
  obtain ⟨f1,f2,_,f4⟩ := Zfg u
  cases hd : Lib.decDigits u with
  | nil => exact absurd hd f2
  | cons c d =>
   have hc := Z1a (f1 c (by rw [hd]; exact List.mem_cons_self ..))
   unfold Lib.atoiAll
   simp only
   rw [if_neg hc.2,← hd]
   unfold Lib.parseMag
   rw [if_neg f2,Z04 _ _ f1 (by rw [f4]; omega),f4]
   simp only
   rw [if_neg (by omega),if_neg (by intro h; exact hc.1 h.1),if_neg hc.1]
theorem Zro {below : Bool} {e : UInt8} {r : List UInt8} {v : Int} (h1 : -9223372036854775808 ≤ v) (h2 : v ≤ 9223372036854775807) (hs : below = true ∨ 0 ≤ v) (he : dig e = false) : num below e (Lib.itoa v ++ e :: r) = some (v,r) := by
 have key : numS below (Lib.itoa v ++ e :: r) = Lib.itoa v ∧ ¬ badN (Lib.itoa v) := by
  by_cases h : v < 0
  ·obtain ⟨u,rfl⟩ : ∃ u : Nat,v = -(u : Int) := ⟨v.natAbs,by omega⟩
   rw [Zmr (by omega)]
   obtain ⟨f1,f2,f3,f4⟩ := Zfg u
   obtain rfl : below = true := hs.resolve_right (by omega)
   constructor
   ·unfold numS
    rw [show sgn true (45 :: Lib.decDigits u ++ e :: r) = [45] by simp [sgn]]
    simp only [List.length_cons,List.length_nil,Nat.zero_add,List.cons_append,List.drop_succ_cons,List.drop_zero,List.nil_append]
    rw [Zer f1 he]
   ·rintro (h | h | h | ⟨h,_⟩ | ⟨h,h'⟩)
    ·cases h
    ·injection h with _ h; exact f2 h
    ·injection h with _ h
     have := f3 (by rw [h]; rfl)
     omega
    ·cases h
    ·cases hd : Lib.decDigits u with
     | nil => exact f2 hd
     | cons x y =>
      rw [hd] at h' f3
      have hx : x = 48 := by simpa using h'
      have := f3 (by rw [hx]; rfl)
      omega
  ·obtain ⟨u,rfl⟩ : ∃ u : Nat,v = (u : Int) := ⟨v.toNat,by omega⟩
   rw [Zfv]
   obtain ⟨f1,f2,f3,f4⟩ := Zfg u
   have hne : (Lib.decDigits u).head? ≠ some 45 := fun hh => by
    cases hd : Lib.decDigits u with
    | nil => exact f2 hd
    | cons x y =>
     rw [hd] at hh f1
     have := dig_iff.1 (f1 x (List.mem_cons_self ..))
     obtain rfl : x = 45 := by simpa using hh
     exact absurd this (by decide)
   constructor
   ·unfold numS
    rw [show sgn below (Lib.decDigits u ++ e :: r) = [] by
     unfold sgn; rw [if_neg]; rintro ⟨_,hh⟩
     cases hd : Lib.decDigits u with
     | nil => exact f2 hd
     | cons x y => rw [hd] at hh hne; exact hne (by simpa using hh)]
    simp only [List.length_nil,List.drop_zero,List.nil_append]
    rw [Zer f1 he]
   ·rintro (h | h | h | ⟨h,h'⟩ | ⟨h,h'⟩)
    ·exact f2 h
    ·exact hne (by rw [h]; rfl)
    ·exact hne (by rw [h]; rfl)
    ·have h0 := f3 h
     subst h0
     rw [Lib.decDigits_one (by omega)] at h'
     simp at h'
    ·refine hne ?_
     cases hd : Lib.decDigits u with
     | nil => exact absurd hd f2
     | cons x y => rw [hd] at h'; simp at h'; simp [h'.1]
 unfold num
 rw [key.1,List.drop_left]
 simp only
 rw [if_neg (by rintro (h | h); exact key.2 h; exact h rfl),Zwl h1 h2]

/-! ### values -/
mutual
def pv : Nat → Nat → List UInt8 → Option (Top × List UInt8)
 | 0,_,_ => none
 | _ + 1,_,[] => none
 | f + 1,deep,c :: r =>
  if c = 40 then
   if 8 < deep then none else
   match pl f deep r with
   | some (x,r') => some (.list x,r')
   | none => none
  else if c = 105 then
   match num true 59 r with
   | some (v,r') => some (.leaf (.num v),r')
   | none => none
  else
   match num false 58 (c :: r) with
   | some (v,r') => if v.toNat ≤ r'.length then some (.leaf (.txt (r'.take v.toNat)),r'.drop v.toNat) else none
   | none => none
def pl : Nat → Nat → List UInt8 → Option (List Leaf × List UInt8)
 | 0,_,_ => none
 | _ + 1,_,[] => none
 | f + 1,deep,c :: r =>
  if c = 41 then some ([],r) else
  match pv f (deep + 1) (c :: r) with
  | none => none
  | some (t,r') =>
   match pl f deep r' with
   | none => none
   | some (x,r'') => some (t.shut :: x,r'')
end
theorem Zoo {u : Nat} : ∃ c r,Lib.itoa (u : Int) = c :: r ∧ dig c = true := by
 rw [Zfv]
 obtain ⟨f1,f2,_,_⟩ := Zfg u
 cases hd : Lib.decDigits u with
 | nil => exact absurd hd f2
 | cons c r => exact ⟨c,r,rfl,f1 c (by rw [hd]; exact List.mem_cons_self ..)⟩
end Cr
namespace Cr
open Go

def z0 : Value := .slice none 0 0
/-! ### laying together,taking apart -/
theorem Zyy : emp (fun _ => none) := fun _ => rfl
/-! ### reading -/
theorem Zsd : ∀ {rows : List (List Value)} {i : Nat} {cs : List Value},(∀ r ∈ rows,r.length = 4) → rows[i]? = some cs → (rows.flatten.drop (i * 4)).take 4 = cs
 | [],_,_,_,h => by cases h
 | r :: rs,i,cs,hl,h => by
  have h4 := hl r (List.mem_cons_self ..)
  cases i with
  | zero =>
   obtain rfl : r = cs := by simpa using h
   simp [← h4]
  | succ i =>
   have ih := Zsd (fun z hz => hl z (List.mem_cons_of_mem _ hz)) (show rs[i]? = some cs by simpa using h)
   rw [List.flatten_cons,List.drop_append,h4,show (i + 1) * 4 - 4 = i * 4 by omega,List.drop_of_length_le (by omega),List.nil_append]
   exact ih
theorem Zio : ∀ {rows : List (List Value)},(∀ r ∈ rows,r.length = 4) → rows.flatten.length = rows.length * 4
 | [],_ => rfl
 | r :: rs,hl => by
  have h4 := hl r (List.mem_cons_self ..)
  have := Zio (fun z hz => hl z (List.mem_cons_of_mem _ hz)) (rows := rs)
  simp only [List.flatten_cons,List.length_append,List.length_cons]; omega
end Cr
