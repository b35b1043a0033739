/-
  Layer 2 (digest): bytes,one.
  The wrap of laws whose rows list the tables of digest,bits and strconv: a world for a witness; what the row lists gives the digest's tables.
  Layer 1 (block): what each function of package block does to a disk in memory.
  Layer 1 (block): New,Write,Flush.
  Layer 1 (block): Write,Flush.
  slices.Backward: what the function that it hands back does,round by round.
  Layer 1 (block): lay,Flush,Read.
  A law's arguments,opened: bytes,lists of writes. What is read of them,by the reading that the row gives.
  A law's argument,opened: a slice of structs,whatever their fields; an array of bytes.
  Layer 2 (digest): Write,Fork,Sum.
  An argument of layer 11's laws,opened: a slice of slices of bytes.
  Arguments of layer 11's laws,opened: a mark.
  Two more rules of the walk: a join behind a test (the rest is walked once),and an assertion in the middle.
  The document's digest: numbers of digits to the base 2^16,roots.
-/
import Derived.Test.YtfoigjehifalpaaGreatDoorCqa3
import Derived.Deep.DeepWitnessRowRef
import Derived.Lib.ItoaNum
import Derived.Deep.SlicePairs
import Derived.Carry
import Derived.OpenShut
import Derived.Test.YtfoigjehifalpaaGreatDoorCqa2
namespace Cr
open Go Go.Proofs
set_option maxRecDepth 100000
set_option maxHeartbeats 64000000
attribute [local irreducible] Calls

/-! ### bytes -/
def Z4c (H : List Int) (i : Nat) : UInt8 := b8 (ishr .u32 (H.getD (i / 4) 0) (24 - i % 4 * 8))
def Zk6 (H : List Int) : Nat → List UInt8
 | 0 => List.replicate 32 0
 | i + 1 => (Zk6 H i).set i (Z4c H i)
theorem Zdq (H : List Int) : ∀ i,(Zk6 H i).length = 32
 | 0 => by simp [Zk6]
 | i + 1 => by simp [Zk6,Zdq H i]
def outB (H : List Int) : List UInt8 := Zk6 H 32
theorem Zc8 (H : List Int) : (outB H).length = 32 := Zdq H 32
theorem Z9d (s : Nat) (H : List Int) (r : List Value) (T : TypeId) (W : World) (hH : H.length = 8) (hs : Rd W (pts s (.cells (ints .u32 H ++ r).toArray T))) :
  Calls Tryz.prog 172 #[.pointer (some ⟨s,0,none⟩)] W (Ret fun v w => v = .agg (bv (outB H)).toArray ∧ St W noF [] w) := by
 have hS := St.start W
 have hg : Ro W noF (row (some ⟨s,0,none⟩) (ints .u32 H)) := hs.ro.mono fun h hh => ⟨h,Zgs (n := 8) (by rw [List.drop_zero,List.take_append_of_le_length (by rw [ints_length]; omega),List.take_of_length_le (by rw [ints_length]; omega)]) h hh,fun _ _ e => e⟩
 refine Zab Tryz.func172 rfl Tryz.ntmps172 rfl ?_
 repeat (first|refine Yeg ?_|refine Yaf ?_|refine Yar (fun _ _ hS _ => ?_)|refine Yej ?_|refine Yab ?_)
 rename_i b2 _ _ _ b3 _ _
 rw [Zf2] at hS
 refine Zaj (α := Nat) (fun i => [(0,.pointer (some ⟨s,0,none⟩)),(2,.pointer (some ⟨b2,0,none⟩)),(3,.pointer (some ⟨b3,0,none⟩)),(5,.int .i64 (i : Nat))])
  (fun i w => i ≤ 32 ∧ St W noF [pts b3 (.cells (bv (Zk6 H i)).toArray 56),pts b2 (.cells (bv (List.replicate 32 0)).toArray 56)] w) (fun i => 32 - i) 0 ⟨rfl,rfl,rfl,rfl,trivial⟩ ⟨Nat.zero_le _,hS⟩ ?_
 clear hS
 rintro i w ⟨hi,hS⟩
 obtain ⟨L,hLe⟩ : ∃ L,L = Zk6 H i := ⟨_,rfl⟩
 have hL : L.length = 32 := by rw [hLe]; exact Zdq H i
 rw [← hLe] at hS
 by_cases h32 : i < 32
 ·repeat (first|refine Yeg ?_|(refine X_id ?_;first|refine Yaf ?_|refine Yag ?_|refine Yav ?_|refine Ya1 ?_|refine Ycn ?_|refine Yay ?_|refine Ybw ?_|refine Yb8 ?_|refine Ycp ?_|refine Ycj ?_|refine Ydf ?_|refine Ycb ?_|refine Ydx ?_|refine Zkl rfl rfl rfl rfl hS (by omega) (fun _ hS => ?_))|refine Yek ?_|refine Yeo ?_)
  refine Zaf (i + 1) ⟨rfl,rfl,rfl,rfl,trivial⟩ ⟨by omega,?_⟩ (by omega)
  rw [show 0 + (i : Int).toNat * 1 = i by omega,show ((i : Int) / 4).toNat * 1 = i / 4 by omega,show (24 - (i : Int) % 4 * 8).toNat = 24 - i % 4 * 8 by omega,hLe] at hS
  exact hS
 ·obtain rfl : i = 32 := by omega
  have hlen : LenO (bv L) 32 := ⟨by simp [hL]⟩
  repeat (first|refine Yeg ?_|refine Yaz ?_|refine Ybf ?_|refine Yb6 (fun _ hS => ?_)|refine Yep ?_|refine Yeq ?_)
  exact ⟨by rw [hLe]; rfl,hS.drops⟩

/-! ### one -/
structure StrM where
 H : List Int
 R : List UInt8
 n : Nat
structure StrM.ok (S : StrM) : Prop where
 h8 : S.H.length = 8
 r64 : S.R.length = 64
def StrM.cells (S : StrM) : List Value := ints .u32 S.H ++ (bv S.R ++ [.int .i64 (S.n : Nat)])
def Zbv (fs H : List Int) (n : Nat) : List Int := if n = 0 then fs else H
def StrM.one (rd fs : List Int) (S : StrM) (c : UInt8) : StrM :=
 ⟨if (S.n + 1) % 64 = 0 then Zsl rd (Zbv fs S.H S.n) (S.R.set (S.n % 64) c) else Zbv fs S.H S.n,S.R.set (S.n % 64) c,S.n + 1⟩
structure Gl (W : World) (F : Nat → Prop) (rd fs : List Int) : Prop where
 round : Ro W F (row (some ⟨2,0,none⟩) (ints .u32 rd))
 first : Ro W F (row (some ⟨0,0,none⟩) (ints .u32 fs))
 round64 : rd.length = 64
 first8 : fs.length = 8
theorem Gl.mono {W w : World} {F F' : Nat → Prop} {rd fs : List Int} (h : Gl W F rd fs) (hw : ∀ r,Ro W F r → Ro w F' r) : Gl w F' rd fs := ⟨hw _ h.round,hw _ h.first,h.round64,h.first8⟩
theorem Zf0 {fs H : List Int} (n : Nat) (h : fs.length = 8) (h' : H.length = 8) : (Zbv fs H n).length = 8 := by unfold Zbv; split <;> assumption
theorem StrM.one_ok {rd fs : List Int} {S : StrM} {c : UInt8} (h : S.ok) (hf : fs.length = 8) : (S.one rd fs c).ok := by
 refine ⟨?_,by simp [StrM.one,h.r64]⟩
 simp only [StrM.one]
 split
 ·rw [Zqx]; exact Zf0 _ hf h.h8
 ·exact Zf0 _ hf h.h8
theorem one_ (s : Nat) (S : StrM) (c : UInt8) (rd fs : List Int) (T : TypeId) (W : World) (F : Nat → Prop) (hok : S.ok) (hn : S.n < 2305843009213693951) (hG : Gl W F rd fs) (hS : St W F [pts s (.cells S.cells.toArray T)] W) :
  Calls Tryz.prog 170 #[.pointer (some ⟨s,0,none⟩),.int .u8 (c.toNat : Int)] W (Ret fun _ w => True ∧ St W F [pts s (.cells (S.one rd fs c).cells.toArray T)] w) := by
 obtain ⟨H,R,n⟩ := S
 obtain ⟨h8,r64⟩ := hok
 unfold StrM.cells at hS
 simp only at h8 r64 hn hS
 have hl1 : LenO (ints .u32 H) 8 := ⟨by rw [ints_length]; exact h8⟩
 have hl2 : LenO (bv R) 64 := ⟨by simp [r64]⟩
 have hl3 : LenO (ints .u32 fs) 8 := ⟨by rw [ints_length]; exact hG.first8⟩
 refine Zab Tryz.func170 rfl Tryz.ntmps170 rfl ?_
 have hc1 : ∀ H',Zbv fs H n = H' → H'.length = 8 := fun H' e => e ▸ Zf0 n hG.first8 h8
 have hend : ∀ H' w,Zbv fs H n = H' → St W F [pts s (.cells (ints .u32 (if (n + 1) % 64 = 0 then Zsl rd H' (R.set (n % 64) c) else H') ++ (bv (R.set (n % 64) c) ++ [Value.int .i64 ((n + 1 : Nat) : Int)])).toArray T)] w →
   St W F [pts s (.cells (StrM.one rd fs ⟨H,R,n⟩ c).cells.toArray T)] w := fun H' w e h => by
  unfold StrM.one StrM.cells; simp only [e]; exact h
 have ei : ((n : Int) % 64).toNat * 1 = n % 64 := by omega
 by_cases h0 : n = 0
 all_goals by_cases h64 : (n + 1) % 64 = 0
 ·repeat (first|refine Yeg ?_|(refine X_id ?_;first|refine Yaf ?_|refine Yav ?_|refine Yan ?_|refine Ybh ?_|refine Yap ?_)|refine Yer ?_|refine Yab ?_)
  refine X_yl (Zdh rfl rfl ((hG.first.rd hS).cellsAt rfl) (by rw [ints_length]; exact hG.first8)) rfl rfl ?_
  repeat (first|refine Yeg ?_|refine Yav ?_|refine Yan ?_|refine Yao (fun _ hS _ => ?_)|refine Yae ?_|refine Yab ?_)
  have e1 : Zbv fs H n = fs := by simp [Zbv,h0]
  refine Zan (.s 0 (.s 1 (.s 2 (.s 3 (.s 4 (.s 5 (.s 6 (.s 7 (.s 8 (.s 9 (.h 10 .nil .no))))))))))) mixed (by kernel_rfl) rfl ?_
  have hS := hS.drew
  repeat (first|refine Yeg ?_|(refine X_id ?_;first|refine Yaf ?_|refine Yav ?_|refine Yan ?_|refine Ybh ?_|refine Yay ?_|refine Ycb ?_|refine Yap ?_|refine Ydm (fun _ hS => ?_)|refine Yao (fun _ hS _ => ?_))|refine Yer ?_|refine Yab ?_|(refine Zae ?_;first|refine Yaw ?_|refine Ya0 ?_|refine Ybo ?_|refine Ybg ?_|refine Yb5 ?_|refine Ydn ?_|refine Ybm ?_|refine Yas ?_)|(refine Zac ?_;first|refine Yax ?_))
  rw [ei] at hS
  refine Zan (.s 0 (.s 1 (.s 2 (.s 3 (.s 4 (.s 5 (.s 6 (.h 7 .nil .no)))))))) mixed (by kernel_rfl) rfl ?_
  have hS := hS.drew
  repeat (first|(refine Zae ?_;first|refine Ya0 ?_|refine Ybo ?_|refine Ybg ?_|refine Yc5 ?_|refine Yas ?_))
  obtain ⟨_,hc,hr,hw,hbk⟩ := hS.call [true]
  refine Zaa _ rfl rfl rfl rfl rfl (mix_ s fs rd (R.set (n % 64) c) (↑n + 1) T _ _ (hc1 _ e1) (by simp [r64]) hG.round64 (hw _ hG.round) hc) ?_
  rintro _ w ⟨_,hS⟩
  replace hS := hbk hS
  clear hc hr hw hbk
  repeat (first|refine Ybt ?_|(refine Zae ?_;first|refine Yaw ?_)|(refine Zac ?_;first|refine Yax ?_))
  refine ⟨trivial,hend _ _ e1 ?_⟩
  rw [if_pos h64]
  exact hS
 ·repeat (first|refine Yeg ?_|(refine X_id ?_;first|refine Yaf ?_|refine Yav ?_|refine Yan ?_|refine Ybh ?_|refine Yap ?_)|refine Yer ?_|refine Yab ?_)
  refine X_yl (Zdh rfl rfl ((hG.first.rd hS).cellsAt rfl) (by rw [ints_length]; exact hG.first8)) rfl rfl ?_
  repeat (first|refine Yeg ?_|refine Yav ?_|refine Yan ?_|refine Yao (fun _ hS _ => ?_)|refine Yae ?_|refine Yab ?_)
  have e1 : Zbv fs H n = fs := by simp [Zbv,h0]
  refine Zan (.s 0 (.s 1 (.s 2 (.s 3 (.s 4 (.s 5 (.s 6 (.s 7 (.s 8 (.s 9 (.h 10 .nil .no))))))))))) mixed (by kernel_rfl) rfl ?_
  have hS := hS.drew
  repeat (first|refine Yeg ?_|(refine X_id ?_;first|refine Yaf ?_|refine Yav ?_|refine Yan ?_|refine Ybi ?_|refine Yay ?_|refine Ycb ?_|refine Yap ?_|refine Ydm (fun _ hS => ?_)|refine Yao (fun _ hS _ => ?_))|refine Yes ?_|refine Yab ?_|refine Ybt ?_|(refine Zae ?_;first|refine Yaw ?_|refine Ya0 ?_|refine Ybo ?_|refine Ybg ?_|refine Yb5 ?_|refine Ydn ?_|refine Ybm ?_|refine Yas ?_)|(refine Zac ?_;first|refine Yax ?_))
  rw [ei] at hS
  refine ⟨trivial,hend _ _ e1 ?_⟩
  rw [if_neg h64]
  exact hS
 ·have e1 : Zbv fs H n = H := by simp [Zbv,h0]
  repeat (first|refine Yeg ?_|(refine X_id ?_;first|refine Yaf ?_|refine Yav ?_|refine Yan ?_|refine Ybi ?_|refine Yap ?_)|refine Yes ?_|refine Yab ?_)
  refine Zan (.s 0 (.s 1 (.s 2 (.s 3 (.s 4 (.s 5 (.s 6 (.s 7 (.s 8 (.s 9 (.h 10 .nil .no))))))))))) mixed (by kernel_rfl) rfl ?_
  have hS := hS.drew
  repeat (first|refine Yeg ?_|(refine X_id ?_;first|refine Yaf ?_|refine Yav ?_|refine Yan ?_|refine Ybh ?_|refine Yay ?_|refine Ycb ?_|refine Yap ?_|refine Ydm (fun _ hS => ?_)|refine Yao (fun _ hS _ => ?_))|refine Yer ?_|refine Yab ?_|(refine Zae ?_;first|refine Yaw ?_|refine Ya0 ?_|refine Ybo ?_|refine Ybg ?_|refine Yb5 ?_|refine Ydn ?_|refine Ybm ?_|refine Yas ?_)|(refine Zac ?_;first|refine Yax ?_))
  rw [ei] at hS
  refine Zan (.s 0 (.s 1 (.s 2 (.s 3 (.s 4 (.s 5 (.s 6 (.h 7 .nil .no)))))))) mixed (by kernel_rfl) rfl ?_
  have hS := hS.drew
  repeat (first|(refine Zae ?_;first|refine Ya0 ?_|refine Ybo ?_|refine Ybg ?_|refine Yc5 ?_|refine Yas ?_))
  obtain ⟨_,hc,hr,hw,hbk⟩ := hS.call [true]
  refine Zaa _ rfl rfl rfl rfl rfl (mix_ s H rd (R.set (n % 64) c) (↑n + 1) T _ _ (hc1 _ e1) (by simp [r64]) hG.round64 (hw _ hG.round) hc) ?_
  rintro _ w ⟨_,hS⟩
  replace hS := hbk hS
  clear hc hr hw hbk
  repeat (first|refine Ybt ?_|(refine Zae ?_;first|refine Yaw ?_)|(refine Zac ?_;first|refine Yax ?_))
  refine ⟨trivial,hend _ _ e1 ?_⟩
  rw [if_pos h64]
  exact hS
 ·have e1 : Zbv fs H n = H := by simp [Zbv,h0]
  repeat (first|refine Yeg ?_|(refine X_id ?_;first|refine Yaf ?_|refine Yav ?_|refine Yan ?_|refine Ybi ?_|refine Yap ?_)|refine Yes ?_|refine Yab ?_)
  refine Zan (.s 0 (.s 1 (.s 2 (.s 3 (.s 4 (.s 5 (.s 6 (.s 7 (.s 8 (.s 9 (.h 10 .nil .no))))))))))) mixed (by kernel_rfl) rfl ?_
  have hS := hS.drew
  repeat (first|refine Yeg ?_|(refine X_id ?_;first|refine Yaf ?_|refine Yav ?_|refine Yan ?_|refine Ybi ?_|refine Yay ?_|refine Ycb ?_|refine Yap ?_|refine Ydm (fun _ hS => ?_)|refine Yao (fun _ hS _ => ?_))|refine Yes ?_|refine Yab ?_|refine Ybt ?_|(refine Zae ?_;first|refine Yaw ?_|refine Ya0 ?_|refine Ybo ?_|refine Ybg ?_|refine Yb5 ?_|refine Ydn ?_|refine Ybm ?_|refine Yas ?_)|(refine Zac ?_;first|refine Yax ?_))
  rw [ei] at hS
  refine ⟨trivial,hend _ _ e1 ?_⟩
  rw [if_neg h64]
  exact hS
end Cr
namespace Go.Proofs.YtfoigjehifalpaaGreatDoor
open Go.ChangeShapes Go.WideShapes Go.ChangeAt Go.RowKit
set_option maxRecDepth 100000
def Z95 : List Int := [0,1,28,2,29,14,24,3,30,22,20,15,25,17,4,8,31,27,13,23,21,19,16,7,26,12,18,6,11,5,10,9]
def Z94 : List Int := [0,1,56,2,57,49,28,3,61,58,42,50,38,29,17,4,62,47,59,36,45,43,51,22,53,39,33,30,24,18,12,5,63,55,48,27,60,41,37,16,46,35,44,21,52,32,23,11,54,26,40,15,34,20,31,10,25,14,19,9,13,8,7,6]
def Zxk : List UInt8 := [118,97,108,117,101,32,111,117,116,32,111,102,32,114,97,110,103,101]
def Zu5 : List UInt8 := [105,110,118,97,108,105,100,32,115,121,110,116,97,120]
theorem Zyq : "*" ++ "errors.errorString" = "*errors.errorString" := by decide
theorem Z8w (u : TypeId) (h : Tryz.prog.typeName? 3 u = some "*errors.errorString") : u = 417 :=
 typeName_ptr_named (nm := "errors.errorString") (by rw [Zyq]; kernel_rfl) (by kernel_rfl) (by decide) u (by rw [Zyq]; exact h)
noncomputable def Ztt : Nat := (World.holding Tryz.prog default ⟨#[],#[],[]⟩).heap.size
def u8s (l : List Int) : List Value := l.map fun n => Value.int .u8 n
noncomputable def Zlc (os : Os) : World :=
 let w0 := World.holding Tryz.prog os ⟨#[.cells #[.string (Cr.str Zxk)] 419,.cells #[.string (Cr.str Zu5)] 419],#[],[]⟩
 { w0 with heap := ((((((w0.heap.modify 4 (tabOf (u8s Z95))).modify 5 (tabOf (u8s Z94))).modify 3 (tabOf (Lib.pow10Tab.map fun z => Value.int .u64 z))).modify 7 (tabOf [.iface 417 (.pointer (some ⟨Ztt,0,none⟩))])).modify 6 (tabOf [.iface 417 (.pointer (some ⟨Ztt + 1,0,none⟩))])).modify 2 (tabOf (Cr.ints .u32 Cr.roundL))).modify 0 (tabOf (Cr.ints .u32 Cr.firstL)) }
theorem Zsb {W : World} (h1 : Lib.TabIs Tryz.prog W "creel/digest.round" .u32 Cr.roundL) (h2 : Lib.TabIs Tryz.prog W "creel/digest.first" .u32 Cr.firstL) : Cr.Gl W Cr.noF Cr.roundL Cr.firstL := by
 refine ⟨(Cr.Rd.ofCells (fun i v hv => ?_) (by simp [Cr.ints,Cr.roundL])).ro,(Cr.Rd.ofCells (fun i v hv => ?_) (by simp [Cr.ints,Cr.firstL])).ro,rfl,rfl⟩
 ·have hi : i < Cr.roundL.length := by
   rcases Nat.lt_or_ge i Cr.roundL.length with h | h
   ·exact h
   ·rw [List.getElem?_eq_none (by rw [Cr.ints_length]; omega)] at hv; cases hv
  rw [Cr.ints_get hi] at hv
  rw [← Option.some.inj hv]
  exact h1.cell (by kernel_rfl) i hi
 ·have hi : i < Cr.firstL.length := by
   rcases Nat.lt_or_ge i Cr.firstL.length with h | h
   ·exact h
   ·rw [List.getElem?_eq_none (by rw [Cr.ints_length]; omega)] at hv; cases hv
  rw [Cr.ints_get hi] at hv
  rw [← Option.some.inj hv]
  exact h2.cell (by kernel_rfl) i hi
end Go.Proofs.YtfoigjehifalpaaGreatDoor
namespace Cr
open Go Go.Proofs
set_option maxRecDepth 100000
set_option maxHeartbeats 64000000

structure DiskM where
 off : Bool
 armed : Bool
 left : Int
 laid : List (List UInt8)
 line : List (Int × List UInt8)
 writes : Int
 flushes : Int
structure DiskM.ok (D : DiskM) : Prop where
 laid64 : ∀ s ∈ D.laid,s.length = 64
 line64 : ∀ x ∈ D.line,x.2.length = 64 ∧ 0 ≤ x.1 ∧ x.1 < D.laid.length
 some_ : 1 ≤ D.laid.length
 most : D.laid.length ≤ 4096
 left0 : 0 ≤ D.left
 left1 : D.left ≤ 9223372036854775807
def Zbe (l : List (List UInt8)) : List Value := l.flatMap bv
def Zba (l : List (Int × List UInt8)) : List Value := l.flatMap fun x => .int .i64 x.1 :: bv x.2
def disk (p : Nat) (D : DiskM) : Res := fun h => D.ok ∧ ∃ al cl ai ci,D.laid.length ≤ cl ∧ D.line.length ≤ ci ∧
 Sep [pts p (.cells #[.bool D.off,.bool D.armed,.int .i64 D.left,.slice al D.laid.length cl,.slice ai D.line.length ci,.int .i64 D.writes,.int .i64 D.flushes] 162),
  own 324 64 al cl (Zbe D.laid),own 326 65 ai ci (Zba D.line)] h

theorem St.shutR {W : World} {F : Nat → Prop} {r : Res} {rs rs' : List Res} {w : World} (hS : St W F (rs' ++ rs) w) (hr : ∀ h,Sep rs' h → r h) : St W F (r :: rs) w :=
 hS.imp fun h hh => by
  obtain ⟨h1,h2,a,b,c,d⟩ := Sep.append hh
  exact ⟨h1,h2,hr _ a,b,c,d⟩
/-! ### On,Sectors,has,use -/
theorem Rd.disk {w : World} {p : Nat} {D : DiskM} (h : Rd w (disk p D)) : D.ok ∧ ∃ al cl ai ci,D.laid.length ≤ cl ∧ D.line.length ≤ ci ∧
  w.heap[p]? = some (.cells #[.bool D.off,.bool D.armed,.int .i64 D.left,.slice al D.laid.length cl,.slice ai D.line.length ci,.int .i64 D.writes,.int .i64 D.flushes] 162) ∧
  Rd w (row al (Zbe D.laid)) ∧ Rd w (row ai (Zba D.line)) := by
 obtain ⟨f,⟨hok,al,cl,ai,ci,h1,h2,hs⟩,ha⟩ := h
 have hr := Rd.sep ⟨f,hs,ha⟩
 exact ⟨hok,al,cl,ai,ci,h1,h2,(hr _ (by simp)).pts,(hr _ (List.mem_cons_of_mem _ (List.mem_cons_self ..))).own_row,(hr _ (List.mem_cons_of_mem _ (List.mem_cons_of_mem _ (List.mem_cons_self ..)))).own_row⟩
theorem on_ (p : Nat) (D : DiskM) (W : World) (hd : Rd W (disk p D)) :
  Calls Tryz.prog 76 #[.pointer (some ⟨p,0,none⟩)] W (Ret fun v w => v = .bool (!D.off) ∧ W = w) := by
 obtain ⟨_,al,cl,ai,ci,_,_,hc,_,_⟩ := hd.disk
 have hS := St.start W
 refine Zab Tryz.func76 rfl Tryz.ntmps76 rfl ?_
 repeat (first|refine Yex ?_|(refine X_id ?_;first|refine Yaf ?_|refine Yag ?_|refine Yav ?_|refine Yan ?_|refine Ybe ?_|refine X_yl (Zoy rfl rfl) rfl rfl ?_|refine X_yl (Zg9 rfl rfl rfl) rfl rfl ?_|refine Yb3 ?_)|refine Yeu ?_|refine Yei ?_)
 exact ⟨rfl,rfl⟩
theorem Zn5 (p : Nat) (D : DiskM) (W : World) (hd : Rd W (disk p D)) :
  Calls Tryz.prog 77 #[.pointer (some ⟨p,0,none⟩)] W (Ret fun v w => v = .int .i64 (D.laid.length : Nat) ∧ W = w) := by
 obtain ⟨_,al,cl,ai,ci,_,_,hc,_,_⟩ := hd.disk
 have hS := St.start W
 refine Zab Tryz.func77 rfl Tryz.ntmps77 rfl ?_
 repeat (first|refine Yeg ?_|(refine X_id ?_;first|refine Yaf ?_|refine Yag ?_|refine Yav ?_|refine Yan ?_|refine Yau ?_|refine Ybu ?_|refine Yb3 ?_)|refine Ye6 ?_|refine Yei ?_)
 exact ⟨rfl,rfl⟩
def Zdt (D : DiskM) (no : Int) : Bool := decide (0 ≤ no ∧ no < D.laid.length)
theorem has_ (p : Nat) (D : DiskM) (no : Int) (W : World) (hd : Rd W (disk p D)) :
  Calls Tryz.prog 187 #[.pointer (some ⟨p,0,none⟩),.int .i64 no] W (Ret fun v w => v = .bool (Zdt D no) ∧ W = w) := by
 by_cases h : 0 ≤ no
 ·refine Zab Tryz.func187 rfl Tryz.ntmps187 rfl ?_
  repeat (first|refine Yex ?_|refine Yaf ?_|refine Yag ?_|refine Yb2 ?_|refine Yeh ?_|refine Yab ?_)
  refine Zaa _ rfl rfl rfl rfl rfl (Zn5 p D W hd) ?_
  rintro _ _ ⟨rfl,rfl⟩
  repeat (first|refine Yex ?_|(refine X_id ?_;first|refine Yag ?_|refine Ybe ?_|refine X_yl (Zq7 rfl rfl rfl) rfl rfl ?_)|refine Yah ?_|refine Yei ?_)
  exact ⟨by simp [Zdt,h],rfl⟩
 ·refine Zab Tryz.func187 rfl Tryz.ntmps187 rfl ?_
  repeat (first|refine Ye0 ?_|refine Yaf ?_|refine Yag ?_|refine Ya9 ?_|refine Yb4 ?_|refine Yeu ?_|refine Yei ?_)
  exact ⟨by simp [Zdt,h],rfl⟩

/-! ### power -/
def useB (off armed : Bool) (left : Int) : Bool := !off && (!armed || decide (¬ left = 0))
def Zpi (off armed : Bool) (left : Int) : Bool := off || (armed && decide (left = 0))
def Znu (off armed : Bool) (left : Int) : Int := if off = false ∧ armed = true ∧ ¬ left = 0 then left - 1 else left
theorem use_ (p : Nat) (off armed : Bool) (left : Int) (r : List Value) (T : TypeId) (W : World) (F : Nat → Prop) (h0 : 0 ≤ left) (h1 : left ≤ 9223372036854775807)
  (hS : St W F [pts p (.cells (.bool off :: .bool armed :: .int .i64 left :: r).toArray T)] W) :
  Calls Tryz.prog 227 #[.pointer (some ⟨p,0,none⟩)] W (Ret fun v w => v = .bool (useB off armed left) ∧
   St W F [pts p (.cells (.bool (Zpi off armed left) :: .bool armed :: .int .i64 (Znu off armed left) :: r).toArray T)] w) := by
 cases off
 ·cases armed
  ·refine Zab Tryz.func227 rfl Tryz.ntmps227 rfl ?_
   repeat (first|refine Yeg ?_|(refine X_id ?_;first|refine Yaf ?_|refine Yag ?_|refine Yav ?_|refine Yan ?_|refine Ybq ?_|refine Yap ?_)|refine Ye1 ?_|refine Ye2 ?_)
   exact ⟨rfl,hS⟩
  ·by_cases h : left = 0
   ·subst h
    refine Zab Tryz.func227 rfl Tryz.ntmps227 rfl ?_
    repeat (first|refine Yeg ?_|(refine X_id ?_;first|refine Yaf ?_|refine Yag ?_|refine Yav ?_|refine Yan ?_|refine Ybc ?_|refine Ybh ?_|refine Yap ?_|refine Yao (fun _ hS _ => ?_))|refine Ye1 ?_|refine Ye2 ?_)
    exact ⟨rfl,hS⟩
   ·refine Zab Tryz.func227 rfl Tryz.ntmps227 rfl ?_
    repeat (first|refine Yeg ?_|(refine X_id ?_;first|refine Yaf ?_|refine Yag ?_|refine Yav ?_|refine Yan ?_|refine Ybc ?_|refine Ybi ?_|refine Ybw ?_|refine Yap ?_|refine Yao (fun _ hS _ => ?_))|refine Ye7 ?_|refine Yab ?_|refine Yat ?_|refine Yam ?_)
    exact ⟨by simp [useB,h],by simpa [Zpi,Znu,h] using hS⟩
 ·refine Zab Tryz.func227 rfl Tryz.ntmps227 rfl ?_
  repeat (first|refine Yeg ?_|(refine X_id ?_;first|refine Yaf ?_|refine Yag ?_|refine Yav ?_|refine Yan ?_|refine Yap ?_)|refine Ye4 ?_|refine Ye2 ?_)
  exact ⟨rfl,hS⟩
/-! ### New -/
def zero64 : List UInt8 := List.replicate 64 0
def Zbh (n : Nat) : DiskM := { off := false,armed := false,left := 0,laid := List.replicate n zero64,line := [],writes := 0,flushes := 0 }
theorem Zvp {n : Nat} (h : 1 ≤ n) (h' : n ≤ 4096) : (Zbh n).ok := by
 refine ⟨fun s hs => ?_,fun x hx => by simp [Zbh] at hx,by simpa [Zbh] using h,by simpa [Zbh] using h',by simp [Zbh],by simp [Zbh]⟩
 simp [Zbh] at hs; rw [hs.2]; simp [zero64]
theorem Zej (n : Nat) : Zbe (List.replicate n zero64) = List.replicate (n * 64) (.int .u8 0) := by
 induction n with
 | zero => rfl
 | succ n ih =>
  have e : bv zero64 = List.replicate 64 (.int .u8 0) := by simp [bv,zero64]
  have : Zbe (List.replicate (n + 1) zero64) = bv zero64 ++ Zbe (List.replicate n zero64) := by simp [Zbe,List.replicate_succ]
  rw [this,ih,e,List.replicate_append_replicate]
  congr 1; omega
theorem Zla (m n : Nat) : madeCells (List.replicate m (Value.int .u8 0)).toArray n = (List.replicate n (if m = 0 then default else Value.int .u8 0)).toArray := by
 apply Array.ext
 ·simp [madeCells]
 ·intro i h1 h2
  simp only [madeCells,Array.getElem_map,Array.getElem_range,List.size_toArray,List.length_replicate]
  by_cases hm : m = 0
  ·subst hm; simp
  ·have : i % m < m := Nat.mod_lt _ (by omega)
   simp [hm,this]
theorem new_ (n : Nat) (W : World) (h1 : 1 ≤ n) (h2 : n ≤ 4096) : Calls Tryz.prog 37 #[.int .i64 (n : Int)] W (Ret fun v w => ∃ p,v = .tuple #[.pointer (some ⟨p,0,none⟩),.int .i64 0] ∧ St W noF [disk p (Zbh n)] w) := by
 have hS := St.start W
 refine Zab Tryz.func37 rfl Tryz.ntmps37 rfl ?_
 repeat (first|refine Yex ?_|(refine X_id ?_;first|refine Yaf ?_|refine Yag ?_|refine Ya9 ?_|refine Yaz ?_|refine Ybs ?_)|refine Yes ?_|refine Yab ?_)
 refine Zzn rfl rfl rfl (by omega) (by omega) (by omega) (by omega) rfl rfl hS (fun al w hS _ => ?_)
 repeat (first|refine Yeg ?_|refine Yag ?_|refine Ybn ?_|refine Ya7 (fun _ _ hS _ => ?_)|refine Yah ?_|refine Ye5 ?_)
 refine ⟨_,rfl,?_⟩
 have e : madeCells (Value.agg (List.replicate 64 (Value.int .u8 0)).toArray).cells ((n : Int).toNat * 64) = (Zbe (Zbh n).laid).toArray := by
  show madeCells (List.replicate 64 (Value.int .u8 0)).toArray _ = _
  rw [Zla,Zbh,Zej]; simp
 rw [e] at hS
 have hl : (Zbe (Zbh n).laid).length = n * 64 := by rw [Zbh,Zej]; simp
 have hS := ((hS.second (Zbc (c := n) (cs := Zbe (Zbh n).laid) hl (by simp only [maxLen]; omega) (by simp))).own_none 326 65 none).sel [false,true,true]
 refine St.shutR (rs' := [_,_,_]) (rs := []) hS fun h hh => ⟨Zvp h1 h2,some ⟨al,0,none⟩,n,none,0,by simp [Zbh],by simp [Zbh],?_⟩
 have el : (Zbh n).laid.length = n := by simp [Zbh]
 rw [el]
 exact hh

/-! ### slices.Clone at bytes -/
theorem Z86 (a : Option Addr) (n c : Nat) (s : List UInt8) (W : World) (hs : Rd W (bytes a s)) (hn : s.length = n) (hlim : n ≤ 1073741824) :
  Calls Tryz.prog 189 #[.slice a n c] W (Ret fun v w => ∃ a' c',v = .slice a' n c' ∧ (a' = none ↔ a = none) ∧ n ≤ c' ∧ St W noF [own 5 1 a' c' (bv s)] w) := by
 have hS := St.start W
 cases a with
 | none =>
  have h0 : bv s = [] := hs.none_nil
  obtain rfl : n = 0 := by rw [← hn,← Zag s,h0]; rfl
  refine Zab Tryz.func189 rfl Tryz.ntmps189 rfl ?_
  repeat (first|refine Yeg ?_|refine Yaf ?_|refine Yag ?_|refine Ycy ?_|refine Yey ?_|refine Yez ?_)
  refine ⟨none,0,rfl,by simp,by omega,?_⟩
  rw [h0]
  exact hS.own_none _ _ _
 | some ad =>
  refine Zab Tryz.func189 rfl Tryz.ntmps189 rfl ?_
  repeat (first|refine Yeg ?_|refine Yaf ?_|refine Yag ?_|refine Ycy ?_|refine Ybd (fun _ _ hS _ => ?_)|refine Yes ?_|refine Yab ?_)
  rename_i b w hb
  have hs := hs.below hb
  repeat (first|fail)
  refine Zap rfl rfl rfl rfl rfl hS rfl (by omega) hs (by simp [hn]) Zc6 (by omega) (by simp only [maxLen]; omega) (fun a' c' w hS hc hnil => ?_)
  repeat (first|refine Yeg ?_|refine Yag ?_|refine Yah ?_|refine Yei ?_)
  refine ⟨a',c',by rw [Nat.zero_add],by rw [hnil]; simp,by omega,hS⟩
theorem Z28 (b off : Nat) (x y : Int) (l l' : List Value) (T : TypeId) (W : World) (F : Nat → Prop) [hn : Nth l off (.int .i64 x)] [hs : Spl l off [.int .i64 (IntKind.i64.wrap (x + y))] l'] (hS : St W F [pts b (.cells l.toArray T)] W) :
  Calls Tryz.prog 228 #[.pointer (some ⟨b,off,none⟩),.int .i64 y] W (Ret fun v w => v = .int .i64 (IntKind.i64.wrap (x + y)) ∧ St W F [pts b (.cells l'.toArray T)] w) := by
 refine Zab Tryz.func228 rfl Tryz.ntmps228 rfl ?_
 repeat (first|refine Yeg ?_|(refine X_id ?_;first|refine Yaf ?_|refine Yag ?_|refine Yav ?_|refine Yb0 ?_|refine Z3b rfl rfl rfl rfl rfl rfl hS (fun _ hS => ?_))|refine Yeu ?_|refine Yei ?_)
 exact ⟨rfl,hS⟩

def DiskM.used (D : DiskM) : DiskM := { D with off := Zpi D.off D.armed D.left,left := Znu D.off D.armed D.left }
def DiskM.write (D : DiskM) (no : Int) (b : List UInt8) : Int × DiskM :=
 if D.off then (9,D) else if Zdt D no = false ∨ b.length ≠ 64 then (1,D) else if useB D.off D.armed D.left = false then (9,D.used)
 else (0,{ D.used with line := D.line ++ [(no,b)],writes := IntKind.i64.wrap (D.writes + 1) })
theorem DiskM.write_use {D : DiskM} {no : Int} {b : List UInt8} (h : D.off = false) (hin : Zdt D no = true) (hb : b.length = 64) (hu : useB D.off D.armed D.left = false) : D.write no b = (9,D.used) := by
 unfold DiskM.write
 rw [if_neg (by simp [h]),if_neg (by simp [hin,hb]),if_pos hu]
theorem DiskM.write_yes {D : DiskM} {no : Int} {b : List UInt8} (h : D.off = false) (hin : Zdt D no = true) (hb : b.length = 64) (hu : useB D.off D.armed D.left = true) : D.write no b = (0,{ D.used with line := D.line ++ [(no,b)],writes := IntKind.i64.wrap (D.writes + 1) }) := by
 unfold DiskM.write
 rw [if_neg (by simp [h]),if_neg (by simp [hin,hb]),if_neg (by simp [hu])]
theorem DiskM.used_ok {D : DiskM} (h : D.ok) : D.used.ok := by
 obtain ⟨h1,h2,h3,h4,h5,h6⟩ := h
 refine ⟨h1,h2,h3,h4,?_,?_⟩ <;> simp only [DiskM.used,Znu] <;> split <;> omega
theorem DiskM.line_ok {D : DiskM} (h : D.ok) {no : Int} {b : List UInt8} {wr : Int} (hn : Zdt D no = true) (hb : b.length = 64) : ({ D with line := D.line ++ [(no,b)],writes := wr } : DiskM).ok := by
 obtain ⟨h1,h2,h3,h4,h5,h6⟩ := h
 refine ⟨h1,fun x hx => ?_,h3,h4,h5,h6⟩
 simp only [List.mem_append,List.mem_singleton] at hx
 rcases hx with hx | rfl
 ·exact h2 x hx
 ·have : 0 ≤ no ∧ no < D.laid.length := by simpa [Zdt] using hn
  exact ⟨hb,this.1,this.2⟩
theorem St.openDisk {W : World} {F : Nat → Prop} {p : Nat} {D : DiskM} {rs : List Res} {w : World} (hS : St W F (disk p D :: rs) w) : D.ok ∧ ∃ al cl ai ci,D.laid.length ≤ cl ∧ D.line.length ≤ ci ∧
  St W F (pts p (.cells #[.bool D.off,.bool D.armed,.int .i64 D.left,.slice al D.laid.length cl,.slice ai D.line.length ci,.int .i64 D.writes,.int .i64 D.flushes] 162) ::
   own 324 64 al cl (Zbe D.laid) :: own 326 65 ai ci (Zba D.line) :: rs) w := by
 obtain ⟨h,⟨h1,h2,⟨hok,al,cl,ai,ci,c1,c2,hs⟩,hr,hd,hu⟩,s⟩ := hS
 exact ⟨hok,al,cl,ai,ci,c1,c2,h,Sep.append_mk (rs := [_,_,_]) hs hr hd hu,s⟩
theorem St.shutDisk {W : World} {F : Nat → Prop} {p : Nat} {D : DiskM} {rs : List Res} {w : World} {al ai : Option Addr} {cl ci : Nat} (hok : D.ok) (c1 : D.laid.length ≤ cl) (c2 : D.line.length ≤ ci)
  (hS : St W F (pts p (.cells #[.bool D.off,.bool D.armed,.int .i64 D.left,.slice al D.laid.length cl,.slice ai D.line.length ci,.int .i64 D.writes,.int .i64 D.flushes] 162) ::
   own 324 64 al cl (Zbe D.laid) :: own 326 65 ai ci (Zba D.line) :: rs) w) : St W F (disk p D :: rs) w :=
 St.shutR (rs' := [_,_,_]) (rs := rs) hS fun _ hh => ⟨hok,al,cl,ai,ci,c1,c2,hh⟩
theorem Zjz (l m : List (Int × List UInt8)) : Zba (l ++ m) = Zba l ++ Zba m := by simp [Zba]
theorem Zdv {l : List (Int × List UInt8)} (h : ∀ x ∈ l,x.2.length = 64) : (Zba l).length = l.length * 65 := by
 induction l with
 | nil => rfl
 | cons x l ih =>
  have := ih fun y hy => h y (List.mem_cons_of_mem _ hy)
  have h0 := h x (List.mem_cons_self ..)
  simp only [Zba,List.flatMap_cons,List.length_append,List.length_cons,Zag,h0] at this ⊢
  omega
theorem Zdw {l : List (List UInt8)} (h : ∀ x ∈ l,x.length = 64) : (Zbe l).length = l.length * 64 := by
 induction l with
 | nil => rfl
 | cons x l ih =>
  have := ih fun y hy => h y (List.mem_cons_of_mem _ hy)
  have h0 := h x (List.mem_cons_self ..)
  simp only [Zbe,List.flatMap_cons,List.length_append,List.length_cons,Zag,h0] at this ⊢
  omega

theorem Z4e {k : IntKind} {n : Int} {l : List Value} (h : ∀ u ∈ l,u.oneCell' = true) : ∀ u ∈ Value.int k n :: l,u.oneCell' = true := fun u hu => by
 rcases List.mem_cons.mp hu with rfl | hu
 ·rfl
 ·exact h u hu
theorem Z51 (p : Nat) (D : DiskM) (no : Int) (a : Option Addr) (n c : Nat) (b : List UInt8) (W : World) (F : Nat → Prop) (hS : St W F [disk p D] W) (hb : Ro W F (bytes a b)) (hn : b.length = n) (hline : D.line.length < 1073741824) :
  Calls Tryz.prog 194 #[.pointer (some ⟨p,0,none⟩),.int .i64 no,.slice a n c] W (Ret fun v w => v = .int .i64 (D.write no b).1 ∧ St W F [disk p (D.write no b).2] w) := by
 have hd := hS.rd (List.mem_cons_self ..)
 cases hoff : D.off
 ·have hon := on_ p D W hd
  rw [hoff] at hon
  cases hin : Zdt D no
  ·have hhas := has_ p D no W hd
   rw [hin] at hhas
   refine Zab Tryz.func194 rfl Tryz.ntmps194 rfl ?_
   repeat (first|refine Ye0 ?_|(refine X_id ?_;first|(refine Zaa 76 rfl rfl rfl rfl rfl hon ?_;rintro _ _ ⟨rfl,rfl⟩)|(refine Zaa 187 rfl rfl rfl rfl rfl hhas ?_;rintro _ _ ⟨rfl,rfl⟩)|refine Yaf ?_|refine Yag ?_|refine Ybe ?_|refine Ybc ?_|refine Ybq ?_)|refine Ye1 ?_|refine Ye2 ?_)
   refine ⟨by simp [DiskM.write,hoff,hin],by simpa [DiskM.write,hoff,hin] using hS⟩
  ·have hhas := has_ p D no W hd
   rw [hin] at hhas
   by_cases hb64 : b.length = 64
   ·have hn64 : n = 64 := by omega
    subst hn64
    obtain ⟨hok,al,cl,ai,ci,c1,c2,hS⟩ := hS.openDisk
    have hbr := hb.start
    obtain ⟨bb,bo,rfl⟩ := hbr.base (fun e => by rw [← Zag,e] at hb64; cases hb64)
    have hcells := hbr.cellsAt rfl
    have hlc : LenIs (bv b) 64 := ⟨by simp [hb64]⟩
    cases huse : useB D.off D.armed D.left
    ·refine Zab Tryz.func194 rfl Tryz.ntmps194 rfl ?_
     repeat (first|refine Yex ?_|(refine X_id ?_;first|(refine Zaa 76 rfl rfl rfl rfl rfl hon ?_;rintro _ _ ⟨rfl,rfl⟩)|(refine Zaa 187 rfl rfl rfl rfl rfl hhas ?_;rintro _ _ ⟨rfl,rfl⟩)|refine Yaf ?_|refine Yag ?_|refine Yav ?_|refine Yan ?_|refine Ya9 ?_|refine Ybc ?_|refine Yau ?_|refine Ybb ?_)|refine Ye3 ?_|refine Yab ?_)
     obtain ⟨_,hc,hr,hw,hbk⟩ := hS.call [true,false,false]
     refine Zaa _ rfl rfl rfl rfl rfl (use_ p D.off D.armed D.left _ _ _ _ hok.left0 hok.left1 hc) ?_
     rintro _ w ⟨rfl,hS⟩
     replace hS := hbk hS
     clear hc hr hw hbk
     rw [huse]
     repeat (first|refine Yeg ?_|refine Yag ?_|refine Ybq ?_|refine Yey ?_|refine Ye2 ?_)
     rw [DiskM.write_use hoff hin hb64 huse]
     exact ⟨rfl,St.shutDisk (DiskM.used_ok hok) c1 c2 hS⟩
    ·refine Zab Tryz.func194 rfl Tryz.ntmps194 rfl ?_
     repeat (first|refine Yex ?_|(refine X_id ?_;first|(refine Zaa 76 rfl rfl rfl rfl rfl hon ?_;rintro _ _ ⟨rfl,rfl⟩)|(refine Zaa 187 rfl rfl rfl rfl rfl hhas ?_;rintro _ _ ⟨rfl,rfl⟩)|refine Yaf ?_|refine Yag ?_|refine Yav ?_|refine Yan ?_|refine Ya9 ?_|refine Ybc ?_|refine Yau ?_|refine Ybb ?_)|refine Ye3 ?_|refine Yab ?_)
     obtain ⟨_,hc,hr,hw,hbk⟩ := hS.call [true,false,false]
     refine Zaa _ rfl rfl rfl rfl rfl (use_ p D.off D.armed D.left _ _ _ _ hok.left0 hok.left1 hc) ?_
     rintro _ w ⟨rfl,hS⟩
     replace hS := hbk hS
     clear hc hr hw hbk
     rw [huse]
     repeat (first|refine Yeg ?_|refine Yag ?_|refine Ybc ?_|refine Yae ?_|refine Yal ?_|refine Yai ?_|refine Yeo ?_)
     have hcells : CellsAt w.drew ⟨bb,bo,none⟩ (bv b) := (hb.rd hS).cellsAt rfl
     refine Zan (.s 0 (.s 1 (.s 2 (.s 3 (.s 4 (.s 5 (.s 6 (.s 7 (.s 8 (.s 9 (.h 10 (.h 11 (.s 12 (.s 13 (.h 14 .nil .no))) .no) .no))))))))))) mixed (by kernel_rfl) rfl ?_
     have hS := hS.drew
     repeat (first|refine Ybd (fun _ _ hS _ => ?_)|(refine Zae ?_;first|refine Ya0 ?_|refine Ybo ?_|refine Ybg ?_|refine Yce ?_|refine Zak rfl rfl (fun _ => Znm rfl rfl (by omega)) rfl rfl ?_|refine Ybm ?_|refine Za6 (fun w' => CellsAt w' _ _) rfl rfl (by assumption) (fun _ hc => Zdh rfl rfl hc (by simp;omega)) rfl rfl ?_|refine Yas ?_)|(refine Zac ?_;first|refine Yax ?_))
     refine Zap rfl rfl rfl rfl rfl hS (Zdv fun x hx => (hok.line64 x hx).1) c2 (hS.rd (List.mem_cons_self ..)).own_row (by simp [hb64]) (Z4e Zc6) (by omega) (by simp only [maxLen]; omega) (fun a' c' w hS hc hnil => ?_)
     repeat (first|refine Yaa ?_|refine Yaf ?_|refine Yav ?_|refine Yan ?_|refine Yao (fun _ hS _ => ?_)|refine Yeh ?_|refine Yab ?_|(refine Zae ?_;first|refine Yaw ?_|refine Ybo ?_|refine Ybg ?_|refine Yas ?_)|(refine Zac ?_;first|refine Yax ?_))
     obtain ⟨_,hc,hr,hw,hbk⟩ := hS.call [false,false,true,false]
     refine Zaa _ rfl rfl rfl rfl rfl (Z28 p 5 D.writes 1 _ _ _ _ _ hc) ?_
     rintro _ w ⟨rfl,hS⟩
     replace hS := hbk hS
     clear hc hr hw hbk
     repeat (first|refine Yeg ?_|refine Yag ?_|refine Yeu ?_|refine Yei ?_)
     rw [DiskM.write_yes hoff hin hb64 huse]
     have hok' := DiskM.line_ok (wr := IntKind.i64.wrap (D.writes + 1)) (DiskM.used_ok hok) (no := no) (b := b) hin hb64
     refine ⟨rfl,St.shutDisk (al := al) (ai := a') hok' c1 (show (D.line ++ [(no,b)]).length ≤ c' by simpa using hc) ?_⟩
     have hS := hS.pick [0,2,0]
     show St W F [pts p (.cells #[_,_,_,_,.slice a' ((D.line ++ [(no,b)]).length : Nat) c',_,_] 162),_,own _ _ _ _ (Zba (D.line ++ [(no,b)]))] w
     rw [Zjz,List.length_append]
     simpa [Zba,DiskM.used] using hS
   ·refine Zab Tryz.func194 rfl Tryz.ntmps194 rfl ?_
    repeat (first|refine Yex ?_|(refine X_id ?_;first|(refine Zaa 76 rfl rfl rfl rfl rfl hon ?_;rintro _ _ ⟨rfl,rfl⟩)|(refine Zaa 187 rfl rfl rfl rfl rfl hhas ?_;rintro _ _ ⟨rfl,rfl⟩)|refine Yaf ?_|refine Yag ?_|refine Ya9 ?_|refine Ybc ?_|refine Yau ?_|refine Ybl ?_)|refine Ye1 ?_|refine Ye2 ?_)
    refine ⟨by simp [DiskM.write,hoff,hin,hb64],by simpa [DiskM.write,hoff,hin,hb64] using hS⟩
 ·have hon := on_ p D W hd
  rw [hoff] at hon
  refine Zab Tryz.func194 rfl Tryz.ntmps194 rfl ?_
  repeat (first|refine Yeg ?_|(refine X_id ?_;first|(refine Zaa 76 rfl rfl rfl rfl rfl hon ?_;rintro _ _ ⟨rfl,rfl⟩)|refine Yaf ?_|refine Yag ?_|refine Ybq ?_)|refine Ye4 ?_|refine Ye2 ?_)
  exact ⟨by simp [DiskM.write,hoff],by simpa [DiskM.write,hoff] using hS⟩
theorem Zj4 (l bx n c : Nat) (a : Option Addr) (cs : List Value) (w : World) (T : TypeId) (hn : n ≤ 4611686018427387904) (hcs : cs.length = n * 65) (Inv : Nat → World → Prop) (Stop : World → Prop)
  (hbx : ∀ k w,Inv k w → w.heap[bx]? = some (.cells #[.slice a n c] T)) (hrow : ∀ k w,Inv k w → Rd w (row a cs)) (hl : ∀ k w,Inv k w → ∃ r : Loop,r.params.size = 2 ∧ w.heap[l]? = some (.loop r) ∧ (k ≠ 0 →
   RoundIn Fence.wide 0 Tryz.prog l r.fn ((r.params.zip #[.int .i64 ((k - 1 : Nat) : Int),.agg ((cs.drop ((k - 1) * 65)).take 65).toArray]).foldl (fun tmps (t,a) => tmps.setIfInBounds t a) r.tmps) r.assign r.body w
    (Ret fun v w' => (v = .bool true ∧ Inv (k - 1) w') ∨ (v = .bool false ∧ Stop w')))) (h0 : Inv n w) :
  CallsIn Fence.wide 0 Tryz.prog 226 #[.func (.yield l) #[] #[],.pointer (some ⟨bx,0,none⟩)] w (Ret fun _ w' => Inv 0 w' ∨ Stop w') := by
 refine callsIn_wide.2 ?_
 have hb := hbx _ _ h0
 refine Zab Tryz.func226 rfl Tryz.ntmps226 rfl ?_
 repeat (first|refine Yeg ?_|refine Yag ?_|refine Yau ?_|refine Ybw ?_|refine Yb3 ?_|refine Yej ?_|refine Yab ?_)
 refine Zaj (α := Nat) (fun k => [(0,.func (.yield l) #[] #[]),(1,.pointer (some ⟨bx,0,none⟩)),(3,.int .i64 ((k : Int) - 1))]) (fun k w => k ≤ n ∧ Inv k w) (fun k => k) n ⟨rfl,rfl,rfl,trivial⟩ ⟨Nat.le_refl _,h0⟩ ?_
 clear hb h0
 rintro k w ⟨hk,hi⟩
 have hb := hbx _ _ hi
 by_cases h0 : k = 0
 ·subst h0
  repeat (first|refine Yeg ?_|refine Yaf ?_|refine Yb4 ?_|refine Yet ?_|refine Yab ?_|refine Ya5 ?_|refine Ya6 ?_|refine Ybt ?_)
  exact .inl hi
 ·obtain ⟨r,hp,hlr,hr⟩ := hl _ _ hi
  have hr := hr h0
  have hcs0 : cs ≠ [] := by intro e; rw [e] at hcs; simp at hcs; omega
  have ha := (hrow _ _ hi).base hcs0
  have hseg := (hrow _ _ hi).seg ((k - 1) * 65) 65
  have e1 : ((k : Int) - 1).toNat = k - 1 := by omega
  have e2 : ((k - 1 : Nat) : Int) = (k : Int) - 1 := by omega
  rw [e2] at hr
  repeat (first|refine Yeg ?_|refine Yaf ?_|refine Yb2 ?_|refine Yba ?_|refine Yb3 ?_|refine Yek ?_|refine Yab ?_)
  rw [e1]
  refine X_yl (Zdh rfl rfl hseg (by simp; omega)) rfl rfl ?_
  refine Zsu rfl rfl rfl rfl rfl rfl hlr (by rw [hp]; rfl) hr ?_
  rintro v w' (⟨rfl,hi'⟩ | ⟨rfl,hs⟩)
  ·repeat (first|refine Yeg ?_|refine Yaf ?_|refine Yag ?_|refine Ybc ?_|refine Ybw ?_|refine Ye8 ?_|refine Yeo ?_)
   refine Zaf (k - 1) ⟨rfl,rfl,?_,trivial⟩ ⟨by omega,hi'⟩ (by omega)
   rw [e2]; rfl
  ·repeat (first|refine Yeg ?_|refine Ybq ?_|refine Yah ?_|refine Yak ?_|refine Yab ?_|refine Yaq ?_|refine Ya8 ?_|refine Z3d rfl (Ret.mk ?_))
   exact .inr hs
theorem Zfx {α β : Type} {f : α → List β} {n : Nat} {l : List α} (h : ∀ x ∈ l,(f x).length = n) : (l.flatMap f).length = l.length * n := by
 induction l with
 | nil => simp
 | cons x l ih =>
  have := ih fun y hy => h y (List.mem_cons_of_mem _ hy)
  have h0 := h x (List.mem_cons_self ..)
  simp only [List.flatMap_cons,List.length_append,List.length_cons,h0,this,Nat.succ_mul]
  omega
theorem Zcr {α β : Type} {f : α → List β} {n : Nat} {l : List α} (h : ∀ x ∈ l,(f x).length = n) {k : Nat} {x : α} (hx : l[k]? = some x) : ((l.flatMap f).drop (k * n)).take n = f x := by
 induction l generalizing k with
 | nil => simp at hx
 | cons y l ih =>
  have h0 := h y (List.mem_cons_self ..)
  cases k with
  | zero =>
   have e : y = x := by simpa using hx
   subst e
   simp [List.flatMap_cons,← h0]
  | succ k =>
   have hx' : l[k]? = some x := by simpa using hx
   have := ih (fun z hz => h z (List.mem_cons_of_mem _ hz)) hx'
   rw [List.flatMap_cons,List.drop_append,h0,show (k + 1) * n - n = k * n by rw [Nat.succ_mul]; omega,List.drop_of_length_le (by rw [h0,Nat.succ_mul]; omega)]
   simpa using this
theorem Zse {α : Type} {f : α → List Value} {n : Nat} {l : List α} (h : ∀ x ∈ l,(f x).length = n) {k : Nat} {y : α} (hy : (f y).length = n) (hk : k < l.length) : Zai (l.flatMap f) (k * n) (f y) = (l.set k y).flatMap f := by
 induction l generalizing k with
 | nil => simp at hk
 | cons x l ih =>
  have h0 := h x (List.mem_cons_self ..)
  cases k with
  | zero =>
   simp only [List.flatMap_cons,List.set_cons_zero,Nat.zero_mul,Zai]
   simp [hy,← h0]
  | succ k =>
   have := ih (fun z hz => h z (List.mem_cons_of_mem _ hz)) (k := k) (by simpa using hk)
   simp only [List.flatMap_cons,List.set_cons_succ]
   rw [← this]
   unfold Zai
   rw [List.take_append,List.drop_append,h0,show (k + 1) * n - n = k * n by rw [Nat.succ_mul]; omega,List.take_of_length_le (by rw [h0,Nat.succ_mul]; omega),List.drop_of_length_le (by rw [h0,Nat.succ_mul]; omega),
    show (k + 1) * n + (f y).length - n = k * n + (f y).length by rw [Nat.succ_mul]; omega]
   simp

def Zca (l : List (List UInt8)) (xs : List (Int × List UInt8)) : List (List UInt8) := xs.foldl (fun l x => l.set x.1.toNat x.2) l
theorem Zax (xs : List (Int × List UInt8)) : ∀ l,(Zca l xs).length = l.length := by
 induction xs with
 | nil => intro l; rfl
 | cons x xs ih => intro l; simp [Zca,List.foldl_cons] at ih ⊢; rw [ih]; simp
theorem Ztu (xs : List (Int × List UInt8)) (hx : ∀ x ∈ xs,x.2.length = 64) : ∀ l,(∀ s ∈ l,s.length = 64) → ∀ s ∈ Zca l xs,s.length = 64 := by
 induction xs with
 | nil => intro l h; exact h
 | cons x xs ih =>
  intro l h
  refine ih (fun y hy => hx y (List.mem_cons_of_mem _ hy)) _ fun s hs => ?_
  rcases List.mem_or_eq_of_mem_set hs with h' | rfl
  ·exact h s h'
  ·exact hx x (List.mem_cons_self ..)
theorem Zvt {l : List (List UInt8)} {xs : List (Int × List UInt8)} {k : Nat} {x : Int × List UInt8} (hx : xs[k]? = some x) : Zca l (xs.take (k + 1)) = (Zca l (xs.take k)).set x.1.toNat x.2 := by
 have : xs.take (k + 1) = xs.take k ++ [x] := by
  rw [List.take_add_one,hx]; rfl
 rw [this,Zca,List.foldl_append]; rfl

theorem Z5l (x : Value) (W : World) : Calls Tryz.prog 231 #[x] W (Ret fun v w => v = .bool true ∧ W = w) := by
 refine Zab Tryz.func231 rfl Tryz.ntmps231 rfl ?_
 repeat (first|refine Yeg ?_|refine Yag ?_|refine Yeu ?_|refine Yei ?_)
 exact ⟨rfl,rfl⟩
def DiskM.flushed (D : DiskM) : DiskM := { D with laid := Zca D.laid D.line,line := [] }
theorem DiskM.flushed_ok {D : DiskM} (h : D.ok) : D.flushed.ok := by
 obtain ⟨h1,h2,h3,h4,h5,h6⟩ := h
 refine ⟨Ztu _ (fun x hx => (h2 x hx).1) _ h1,fun x hx => (by cases hx),?_,?_,h5,h6⟩ <;> simpa [DiskM.flushed,Zax] using (by assumption)
theorem lay_ (p : Nat) (D : DiskM) (W : World) (F : Nat → Prop) (hS : St W F [disk p D] W) (hline : D.line.length < 1073741824) :
  Calls Tryz.prog 230 #[.pointer (some ⟨p,0,none⟩),.func (.func 231) #[] #[]] W (Ret fun _ w => True ∧ St W F [disk p D.flushed] w) := by
 obtain ⟨hok,al,cl,ai,ci,c1,c2,hS⟩ := hS.openDisk
 refine Zab Tryz.func230 rfl Tryz.ntmps230 rfl ?_
 repeat (first|refine Yeg ?_|(refine X_id ?_;first|refine Yaf ?_|refine Yag ?_|refine Yav ?_|refine Yan ?_|refine Yau ?_|refine Yap ?_)|refine Yae ?_|refine Zhu ?_|refine Ycl ?_|refine Yad ?_|refine Yaj ?_|refine Yab ?_)
 refine Zaj (α := Nat) (fun k => [(0,.pointer (some ⟨p,0,none⟩)),(1,.func (.func 231) #[] #[]),(5,.int .i64 (k : Nat)),(11,.slice ai D.line.length ci),(12,.int .i64 (D.line.length : Nat)),(13,.int .i64 (k : Nat))])
  (fun k w => k ≤ D.line.length ∧ St W F [pts p (.cells #[.bool D.off,.bool D.armed,.int .i64 D.left,.slice al D.laid.length cl,.slice ai D.line.length ci,.int .i64 D.writes,.int .i64 D.flushes] 162),
   own 324 64 al cl (Zbe (Zca D.laid (D.line.take k))),own 326 65 ai ci (Zba D.line)] w) (fun k => D.line.length - k) 0 ⟨rfl,rfl,rfl,rfl,rfl,rfl,trivial⟩ ⟨Nat.zero_le _,hS⟩ ?_
 clear hS
 rintro k w ⟨hk,hS⟩
 by_cases hlt : k < D.line.length
 ·obtain ⟨x,hx⟩ : ∃ x,D.line[k]? = some x := ⟨_,List.getElem?_eq_getElem hlt⟩
  have hxm := List.mem_of_getElem? hx
  have hln : ∀ x ∈ D.line,(Value.int .i64 x.1 :: bv x.2).length = 65 := fun x hx => by simp [(hok.line64 x hx).1]
  have hseg : CellsAt w (adr ai (k * 65)) (.int .i64 x.1 :: bv x.2) := by
   have := (hS.rd (List.mem_cons_of_mem _ (List.mem_cons_of_mem _ (List.mem_cons_self ..)))).own_row.seg (k * 65) 65
   rwa [show ((Zba D.line).drop (k * 65)).take 65 = _ from Zcr hln hx] at this
  obtain ⟨ab,ao,hae⟩ := (hS.rd (List.mem_cons_of_mem _ (List.mem_cons_of_mem _ (List.mem_cons_self ..)))).own_row.base (by intro e; have h := Zdv fun x hx => (hok.line64 x hx).1; rw [e] at h; simp at h; omega)
  subst hae
  have hx64 := (hok.line64 x hxm).1
  have hx0 := (hok.line64 x hxm).2.1
  have hx1 := (hok.line64 x hxm).2.2
  have hl64 := Ztu (D.line.take k) (fun y hy => (hok.line64 y (List.mem_of_mem_take hy)).1) _ hok.laid64
  have hlay := Zdw hl64
  rw [Zax] at hlay
  obtain ⟨lb,lo,rfl⟩ := (hS.rd (List.mem_cons_of_mem _ (List.mem_cons_self ..))).own_row.base (by intro e; rw [e] at hlay; simp at hlay; omega)
  have hlen : LenIs (bv x.2) 64 := ⟨by simp [(hok.line64 x hxm).1]⟩
  repeat (first|refine Yeg ?_|refine Yaf ?_|refine Ya1 ?_|refine Yba ?_|refine Yek ?_|refine Yab ?_)
  refine X_yl (Zdh rfl rfl hseg (by simp [(hok.line64 x hxm).1])) rfl rfl ?_
  repeat (first|refine Yeg ?_|refine Yev ?_|refine Yao (fun _ hS _ => ?_)|refine Yar (fun _ _ hS _ => ?_)|refine Yeh ?_|refine Yab ?_)
  refine Zaa 231 rfl rfl rfl rfl rfl (Z5l _ _) ?_
  rintro _ _ ⟨rfl,rfl⟩
  repeat (first|refine Yeg ?_|refine Ybc ?_|refine Yae ?_|refine Yal ?_|refine Yai ?_|refine Yab ?_)
  refine Zan (.s 0 (.s 1 (.s 2 (.s 3 (.s 4 (.s 5 (.s 6 (.s 7 (.s 8 (.h 9 .nil .no)))))))))) mixed (by kernel_rfl) rfl ?_
  have hS := hS.drew
  repeat (first|(refine Zae ?_;first|refine Ya0 ?_|refine Ybo ?_|refine Ybg ?_|refine Yb9 ?_|refine Ybm ?_|refine Ybx ?_|refine Yas ?_))
  refine Zss (a := some ⟨lb,lo,none⟩) (i := x.1.toNat * 64) rfl rfl ?_ rfl (Zc6) (by simp [hx64]) rfl hS (by simp [hx64,hlay]; omega) (by omega) (fun w hS => ?_)
  ·rfl
  repeat (first|refine Yeg ?_|refine Yew ?_|refine Yad ?_|refine Yeo ?_|(refine Zae ?_;first|refine Yaw ?_)|(refine Zac ?_;first|refine Yax ?_))
  refine Zaf (k + 1) ⟨rfl,rfl,rfl,rfl,rfl,rfl,trivial⟩ ⟨hlt,?_⟩ (by omega)
  rw [Zvt hx]
  have hS := hS.pick [2,0,1]
  rwa [show Zai (Zbe (Zca D.laid (D.line.take k))) (x.1.toNat * 64) (bv x.2) = _ from Zse (fun y hy => by simp [hl64 y hy]) (by simp [hx64]) (by rw [Zax]; omega)] at hS
 ·obtain rfl : k = D.line.length := by omega
  repeat (first|refine Yeg ?_|(refine X_id ?_;first|refine Yaf ?_|refine Yag ?_|refine Yav ?_|refine Yan ?_|refine Yaz ?_|refine Yao (fun _ hS _ => ?_))|refine Yep ?_|refine Yab ?_|refine Yb7 ?_|refine Ya5 ?_|refine Ya6 ?_|refine Yam ?_)
  refine ⟨trivial,?_⟩
  refine St.shutDisk (D := D.flushed) (al := al) (ai := none) (cl := cl) (ci := 0) (DiskM.flushed_ok hok) (by simpa [DiskM.flushed,Zax]) (by simp [DiskM.flushed]) ?_
  have hS := ((hS.pick [0,0]).own_none 326 65 none).pick [1,1,0]
  rw [List.take_length] at hS
  simpa [DiskM.flushed,Zax,Zba] using hS
/-! ### Flush -/
def DiskM.flush (D : DiskM) : Int × DiskM :=
 if D.off then (9,D) else if useB D.off D.armed D.left = false then (9,D.used)
 else (0,{ D.used.flushed with flushes := IntKind.i64.wrap (D.flushes + 1) })
theorem DiskM.flush_use {D : DiskM} (h : D.off = false) (hu : useB D.off D.armed D.left = false) : D.flush = (9,D.used) := by
 unfold DiskM.flush
 rw [if_neg (by simp [h]),if_pos hu]
theorem DiskM.flush_yes {D : DiskM} (h : D.off = false) (hu : useB D.off D.armed D.left = true) : D.flush = (0,{ D.used.flushed with flushes := IntKind.i64.wrap (D.flushes + 1) }) := by
 unfold DiskM.flush
 rw [if_neg (by simp [h]),if_neg (by simp [hu])]
theorem Z8t (p : Nat) (D : DiskM) (W : World) (F : Nat → Prop) (hS : St W F [disk p D] W) (hline : D.line.length < 1073741824) :
  Calls Tryz.prog 196 #[.pointer (some ⟨p,0,none⟩)] W (Ret fun v w => v = .int .i64 D.flush.1 ∧ St W F [disk p D.flush.2] w) := by
 have hd := hS.rd (List.mem_cons_self ..)
 have hon := on_ p D W hd
 have hok := hd.disk.1
 cases hoff : D.off
 ·rw [hoff] at hon
  refine Zab Tryz.func196 rfl Tryz.ntmps196 rfl ?_
  repeat (first|refine Yex ?_|(refine X_id ?_;first|(refine Zaa 76 rfl rfl rfl rfl rfl hon ?_;rintro _ _ ⟨rfl,rfl⟩)|refine Yaf ?_|refine Yag ?_|refine Yav ?_|refine Yan ?_|refine Ybc ?_)|refine Yeh ?_|refine Yab ?_)
  obtain ⟨hok,al,cl,ai,ci,c1,c2,hS⟩ := hS.openDisk
  cases huse : useB D.off D.armed D.left
  ·skip
   obtain ⟨_,hc,hr,hw,hbk⟩ := hS.call [true,false,false]
   refine Zaa _ rfl rfl rfl rfl rfl (use_ p D.off D.armed D.left _ _ _ _ hok.left0 hok.left1 hc) ?_
   rintro _ w ⟨rfl,hS⟩
   replace hS := hbk hS
   clear hc hr hw hbk
   rw [huse]
   repeat (first|refine Yex ?_|refine Yag ?_|refine Ya9 ?_|refine Ybq ?_|refine Yey ?_|refine Yez ?_)
   rw [DiskM.flush_use hoff huse]
   exact ⟨rfl,St.shutDisk (DiskM.used_ok hok) c1 c2 hS⟩
  ·skip
   obtain ⟨_,hc,hr,hw,hbk⟩ := hS.call [true,false,false]
   refine Zaa _ rfl rfl rfl rfl rfl (use_ p D.off D.armed D.left _ _ _ _ hok.left0 hok.left1 hc) ?_
   rintro _ w ⟨rfl,hS⟩
   replace hS := hbk hS
   clear hc hr hw hbk
   rw [huse]
   replace hS : St W F [disk p D.used] w := St.shutDisk (DiskM.used_ok hok) c1 c2 hS
   repeat (first|refine Yex ?_|refine Yaf ?_|refine Ya9 ?_|refine Ybc ?_|refine Yes ?_|refine Yab ?_)
   obtain ⟨_,hc,hr,hw,hbk⟩ := hS.call [true]
   refine Zaa _ rfl rfl rfl rfl rfl (lay_ p D.used _ _ hc hline) ?_
   rintro _ w ⟨_,hS⟩
   replace hS := hbk hS
   clear hc hr hw hbk
   obtain ⟨hok2,al2,cl2,ai2,ci2,d1,d2,hS⟩ := hS.openDisk
   repeat (first|refine Yeg ?_|refine Yaf ?_|refine Yav ?_|refine Yan ?_|refine Yeh ?_|refine Yab ?_)
   obtain ⟨_,hc,hr,hw,hbk⟩ := hS.call [true,false,false]
   refine Zaa _ rfl rfl rfl rfl rfl (Z28 p 6 D.flushes 1 _ _ _ _ _ hc) ?_
   rintro _ w ⟨rfl,hS⟩
   replace hS := hbk hS
   clear hc hr hw hbk
   repeat (first|refine Yeg ?_|refine Yag ?_|refine Yeu ?_|refine Yei ?_)
   rw [DiskM.flush_yes hoff huse]
   exact ⟨rfl,St.shutDisk (D := { D.used.flushed with flushes := IntKind.i64.wrap (D.flushes + 1) }) ⟨hok2.1,hok2.2,hok2.3,hok2.4,hok2.5,hok2.6⟩ d1 d2 hS⟩
 ·rw [hoff] at hon
  refine Zab Tryz.func196 rfl Tryz.ntmps196 rfl ?_
  repeat (first|refine Ye0 ?_|(refine X_id ?_;first|(refine Zaa 76 rfl rfl rfl rfl rfl hon ?_;rintro _ _ ⟨rfl,rfl⟩)|refine Yaf ?_|refine Yag ?_|refine Ybe ?_|refine Ybq ?_)|refine Yey ?_|refine Yez ?_)
  exact ⟨by simp [DiskM.flush,hoff],by simpa [DiskM.flush,hoff] using hS⟩

/-! ### Read -/
theorem Zk4 {b : Nat} {l : List Value} {T : TypeId} : ∀ h,pts b (.cells l.toArray T (0,0)) h → row (some ⟨b,0,none⟩) l h := fun _ hg => .inr ⟨b,0,l.toArray,T,(0,0),rfl,hg,fun j v hv => by simpa using hv⟩
theorem Zrx {b off n : Nat} {l cs : List Value} {T : TypeId} (hs : (l.drop off).take n = cs) : ∀ h,pts b (.cells l.toArray T (0,0)) h → row (some ⟨b,off,none⟩) cs h := fun _ hg => .inr ⟨b,off,l.toArray,T,(0,0),rfl,hg,fun j v hv => by
 subst hs
 rw [List.getElem?_take] at hv
 split at hv
 ·rw [List.getElem?_drop] at hv
  simpa using hv
 ·cases hv⟩
theorem St.row_none {W : World} {F : Nat → Prop} {rs : List Res} {w : World} (hS : St W F rs w) : St W F (row none [] :: rs) w :=
 hS.imp fun h hh => ⟨fun _ => none,h,.inl ⟨rfl,fun _ => rfl⟩,hh,fun _ => .inl rfl,fun _ => by simp⟩
theorem St.more {W : World} {F : Nat → Prop} {rs : List Res} {w : World} (hS : St W noF rs w) : St W F rs w := by
 obtain ⟨h,hs,s⟩ := hS
 exact ⟨h,hs,s.agrees,fun b o e => (s.foot b o e).elim (fun h => h.elim) .inr,s.size,s.os,s.tape,s.output,fun k hk _ => s.kept k hk (fun h => h)⟩
theorem St.kept {W : World} {rs : List Res} {w : World} {b : Nat} {o : Obj} (hS : St W noF rs w) (h : W.heap[b]? = some o) : w.heap[b]? = some o := by
 have : Rd W (pts b o) := ⟨Zcn b o,rfl,fun k o' e => by obtain ⟨rfl,rfl⟩ := Zh6 e; exact h⟩
 exact (this.ro.rd hS).pts
theorem on_b (p : Nat) (D : DiskM) (b : Bool) (hb : D.off = b) (W : World) (hd : Rd W (disk p D)) : Calls Tryz.prog 76 #[.pointer (some ⟨p,0,none⟩)] W (Ret fun v w => v = .bool (!b) ∧ W = w) := by
 subst hb; exact on_ p D W hd
theorem Z8m (p : Nat) (D : DiskM) (no : Int) (b : Bool) (hb : Zdt D no = b) (W : World) (hd : Rd W (disk p D)) : Calls Tryz.prog 187 #[.pointer (some ⟨p,0,none⟩),.int .i64 no] W (Ret fun v w => v = .bool b ∧ W = w) := by
 subst hb; exact has_ p D no W hd
theorem Zsn (a : Option Addr) (n c : Nat) (W : World) : Calls Tryz.prog 188 #[.slice a n c] W
  (Ret fun v w => ∃ bx,v = .func (.func 226) #[] #[.pointer (some ⟨bx,0,none⟩)] ∧ St W noF [pts bx (.cells #[.slice a n c] 160)] w) := by
 have hS := St.start W
 refine Zab Tryz.func188 rfl Tryz.ntmps188 rfl ?_
 repeat (first|refine Yeg ?_|refine Yag ?_|refine Ycg ?_|refine Ya7 (fun _ _ hS _ => ?_)|refine Yeu ?_|refine Yei ?_)
 exact ⟨_,rfl,hS⟩
def DiskM.find (D : DiskM) (no : Int) : List UInt8 := match D.line.reverse.find? (fun x => x.1 == no) with | some x => x.2 | none => D.laid.getD no.toNat []
def DiskM.read (D : DiskM) (no : Int) : Int × List UInt8 := if D.off then (9,[]) else if Zdt D no = false then (1,[]) else (0,D.find no)
end Cr
namespace Cr
open Go Go.Proofs Go.ChangeShapes Go.WideShapes Go.Deep
set_option maxHeartbeats 64000000
section
variable {H : Type} {enc : TypeId × Value → H} {P : Program} {w : World} {base : Nat} {sp : Nat → Bool} {held : Bool}
theorem Rd.ofCellsA {a : Addr} {l : List Value} (h : ∀ i v,l[i]? = some v → w.cell? (a.add i) = some v) : Rd w (row (some a) l) := by
 cases l with
 | nil => exact Zno w _
 | cons x r =>
  have h0 := h 0 x rfl
  have hsp : a.spot = none := by
   have := World.cell?_spot h0
   simpa [Addr.add] using this
  obtain ⟨b,off,spot⟩ := a
  obtain rfl : spot = none := hsp
  unfold World.cell? at h0
  split at h0
  ·rename_i c t fz hb
   have hb : w.heap[b]? = some (.cells c t fz) := by simpa [Addr.add] using hb
   refine ⟨Zcn b (.cells c t fz),.inr ⟨b,off,c,t,fz,rfl,rfl,fun i v hv => ?_⟩,fun k o e => ?_⟩
   ·have := h i v hv
    have e : (⟨b,off,none⟩ : Addr).add i = ⟨b,off + i,none⟩ := by
     unfold Addr.add; split
     ·rename_i h; subst h; rfl
     ·rfl
    rw [e,cell_of_row w b (off + i) c t fz hb] at this
    exact this
   ·obtain ⟨rfl,rfl⟩ := Zh6 e
    exact hb
  ·cases h0
theorem Zw0 {n : Int} (h : (Lit.int .u8 n).wf = true) : Value.int .u8 n = .int .u8 ((UInt8.ofNat n.toNat).toNat : Int) := by
 simp only [Lit.wf,Bool.and_eq_true,decide_eq_true_eq] at h
 have h1 : 0 ≤ n := h.1
 have h2 : n ≤ 255 := h.2
 congr 1
 have : (UInt8.ofNat n.toNat).toNat = n.toNat := by rw [UInt8.toNat_ofNat']; omega
 rw [this]; omega
theorem Zvm {t e : TypeId} {fuel : Nat} {cs : List Value} {x : DataW H × List MemPlace} (ht : P.underlying t = some (.slice e)) (he : P.underlying e = some (.int .u8)) (hc : P.cellsOf e = 1)
  (h : DataW.trod enc P w base sp held fuel t cs = some x) : ∃ a s c,cs = [.slice a s.length c] ∧ s.length ≤ c ∧ c ≤ maxLen ∧ Rd w (bytes a s) := by
 rcases open_ints ht he hc h with ⟨rfl,_⟩ | ⟨a,len,cap,zs,rfl,_,hl,hm,hz,_,hcell,hwf⟩
 ·exact ⟨none,[],0,rfl,Nat.le_refl _,Nat.zero_le _,Zno w _⟩
 ·have hlz : len ≤ zs.length := by rw [hz]; split <;> omega
  have e1 : bv ((zs.take len).map fun n => UInt8.ofNat n.toNat) = (zs.take len).map fun n => Value.int .u8 n := by
   unfold bv
   rw [List.map_map]
   refine List.map_congr_left fun n hn => ?_
   exact (Zw0 (hwf n (List.mem_of_mem_take hn))).symm
  have e2 : ((zs.take len).map fun n => UInt8.ofNat n.toNat).length = len := by simp; omega
  refine ⟨some a,(zs.take len).map fun n => UInt8.ofNat n.toNat,cap,by rw [e2],by rw [e2]; exact hl,hm,?_⟩
  unfold bytes
  rw [e1]
  refine Rd.ofCellsA fun i v hv => ?_
  rw [List.getElem?_map,List.getElem?_take] at hv
  split at hv
  ·rename_i hi
   rw [hcell i (by omega)]
   have h3 : zs[i]? = some zs[i] := List.getElem?_eq_getElem (by omega)
   rw [h3] at hv
   rw [List.getD_eq_getElem?_getD,h3]
   exact hv
  ·cases hv
end
section
variable {H : Type} {enc : TypeId × Value → H} {P : Program} {w : World} {base : Nat} {sp : Nat → Bool} {held : Bool}
theorem Zr2 {α : Type} [Inhabited α] (f : α → List Value) (Ok : α → Prop) {t e : TypeId} {fuel : Nat} {cs : List Value} {x : DataW H × List MemPlace} (n : Nat) (ht : P.underlying t = some (.slice e)) (ce : P.cellsOf e = n) (hpos : 0 < n)
  (hopen : ∀ (fuel : Nat) (cs : List Value) (y : DataW H × List MemPlace),DataW.trod enc P w base sp held fuel e cs = some y → ∃ a : α,cs = f a ∧ Ok a)
  (h : DataW.trod enc P w base sp held fuel t cs = some x) : ∃ (a : Option Addr) (l : List α) (c : Nat),cs = [.slice a l.length c] ∧ l.length ≤ c ∧ c ≤ maxLen ∧ Rd w (row a (l.flatMap f)) ∧ ∀ y ∈ l,Ok y ∧ (f y).length = n := by
 rcases DataW.trod_slice ht h with ⟨rfl,_⟩ | ⟨a,len,cap,elems,rest,m,_,rfl,_,_,hl,hm,hel,hx,_⟩
 ·exact ⟨none,[],0,rfl,Nat.le_refl _,Nat.zero_le _,Zno w _,fun _ h => (List.not_mem_nil h).elim⟩
 ·have each : ∀ i,i < len → ∃ q : α,Ok q ∧ (f q).length = n ∧ ∀ k,k < n → w.cell? (a.add (i * n + k)) = (f q)[k]? := fun i hi => by
   have h1 := hx i hi
   rw [List.getElem?_eq_getElem (by omega),ce,Option.bind_eq_some_iff] at h1
   obtain ⟨cs',h2,h3⟩ := h1
   obtain ⟨_,hlen,hcell⟩ := World.cells?_some h2
   obtain ⟨q,rfl,hq⟩ := hopen _ _ _ h3
   exact ⟨q,hq,hlen,fun k hk => by rw [← add_add]; exact hcell k hk⟩
  obtain ⟨q,hq⟩ := choose_lt each
  have hlen : ((List.range len).map q).length = len := by simp
  have hall : ∀ y ∈ (List.range len).map q,Ok y ∧ (f y).length = n := fun y hy => by
   obtain ⟨i,hi,rfl⟩ := List.mem_map.1 hy
   have := hq i (List.mem_range.1 hi)
   exact ⟨this.1,this.2.1⟩
  refine ⟨some a,(List.range len).map q,cap,by rw [hlen],by rw [hlen]; exact hl,hm,Rd.ofCellsA fun k v hv => ?_,hall⟩
  have hfl := Zfx (n := n) fun y hy => (hall y hy).2
  have hk : k / n < len := by
   have := (List.getElem?_eq_some_iff.1 hv).1
   rw [hfl,hlen] at this
   exact (Nat.div_lt_iff_lt_mul hpos).2 this
  have hget : ((List.range len).map q)[k / n]? = some (q (k / n)) := by simp [hk]
  have hsg := Zcr (f := f) (fun y hy => (hall y hy).2) hget
  have hmod : k % n < n := Nat.mod_lt _ hpos
  have hk2 : k / n * n + k % n = k := by rw [Nat.mul_comm]; exact Nat.div_add_mod k n
  have hv3 := congrArg (fun l => l[k % n]?) hsg
  simp only [List.getElem?_take,List.getElem?_drop] at hv3
  rw [if_pos hmod,hk2,hv] at hv3
  have := (hq (k / n) hk).2.2 (k % n) hmod
  rw [hk2] at this
  rw [this]; exact hv3.symm
theorem Zxq {n : Nat} {t e : TypeId} {fuel : Nat} {cs : List Value} {x : DataW H × List MemPlace} (ht : P.underlying t = some (.array n e)) (he : P.underlying e = some (.int .u8)) (ce : P.cellsOf e = 1) (ct : P.cellsOf t = n)
  (h : DataW.trod enc P w base sp held fuel t cs = some x) : ∃ s : List UInt8,cs = bv s ∧ s.length = n := by
 obtain ⟨xs,m,_,_,hl,hxl,hf⟩ := DataW.trod_array ht h
 rw [ct] at hl
 have each : ∀ i,i < n → ∃ b : UInt8,cs[i]? = some (.int .u8 (b.toNat : Int)) := fun i hi => by
  have h1 := hf i hi
  rw [ce,Nat.mul_one,List.getElem?_eq_getElem (by omega)] at h1
  obtain ⟨k,hk,_,hw⟩ := DataW.trod_int he h1
  have h2 := congrArg (fun l => l[0]?) hk
  simp only [List.getElem?_take,List.getElem?_drop] at h2
  refine ⟨UInt8.ofNat k.toNat,?_⟩
  rw [← Zw0 hw]
  simpa using h2
 obtain ⟨q,hq⟩ := choose_lt each
 refine ⟨(List.range n).map q,?_,by simp⟩
 apply List.ext_getElem?
 intro i
 by_cases hi : i < n
 ·rw [hq i hi]; simp [bv,hi]
 ·rw [List.getElem?_eq_none (by omega),List.getElem?_eq_none (by simp; omega)]
end
end Cr
namespace Cr
open Go Go.Proofs
set_option maxRecDepth 100000
set_option maxHeartbeats 64000000
attribute [local irreducible] Calls

structure Bs where
 a : Option Addr
 c : Nat
 s : List UInt8
def Bs.val (x : Bs) : Value := .slice x.a x.s.length x.c
structure Bss (W : World) (F : Nat → Prop) (a : Option Addr) (l : List Bs) : Prop where
 row : Ro W F (row a (l.map Bs.val))
 all : ∀ x ∈ l,Ro W F (bytes x.a x.s)
theorem Bss.mono {W w : World} {F F' : Nat → Prop} {a : Option Addr} {l : List Bs} (h : Bss W F a l) (hw : ∀ r,Ro W F r → Ro w F' r) : Bss w F' a l := ⟨hw _ h.row,fun x hx => hw _ (h.all x hx)⟩
def StrM.more (rd fs : List Int) (S : StrM) (l : List UInt8) : StrM := l.foldl (StrM.one rd fs) S
theorem StrM.more_ok {rd fs : List Int} (hf : fs.length = 8) : ∀ {l : List UInt8} {S : StrM},S.ok → (S.more rd fs l).ok
 | [],_,h => h
 | c :: l,S,h => by
  show (StrM.more rd fs (S.one rd fs c) l).ok
  exact StrM.more_ok (rd := rd) hf (StrM.one_ok (rd := rd) h hf)
theorem StrM.more_n {rd fs : List Int} : ∀ {l : List UInt8} {S : StrM},(S.more rd fs l).n = S.n + l.length
 | [],_ => rfl
 | c :: l,S => by
  have := StrM.more_n (rd := rd) (fs := fs) (l := l) (S := S.one rd fs c)
  simp only [StrM.more,List.foldl_cons,List.length_cons] at this ⊢
  rw [this]; simp only [StrM.one]; omega
theorem StrM.more_append {rd fs : List Int} {S : StrM} {l m : List UInt8} : S.more rd fs (l ++ m) = (S.more rd fs l).more rd fs m := by simp [StrM.more]
theorem StrM.more_snoc {rd fs : List Int} {S : StrM} {l : List UInt8} {i : Nat} (h : i < l.length) : S.more rd fs (l.take (i + 1)) = (S.more rd fs (l.take i)).one rd fs (l.getD i 0) := by
 rw [List.take_succ_eq_append_getElem h,StrM.more_append]
 simp [StrM.more,List.getD_eq_getElem?_getD,h]
def Zal (l : List Bs) : List UInt8 := l.flatMap Bs.s
theorem Zda {l : List Bs} {i : Nat} {x : Bs} (h : l[i]? = some x) : Zal (l.take (i + 1)) = Zal (l.take i) ++ x.s := by
 obtain ⟨hi,rfl⟩ := List.getElem?_eq_some_iff.1 h
 rw [List.take_succ_eq_append_getElem hi]
 simp only [Zal,List.flatMap_append,List.flatMap_cons,List.flatMap_nil,List.append_nil]
theorem Zbp (l : List Bs) (i : Nat) : (Zal (l.take i)).length ≤ (Zal l).length := by
 have : Zal l = Zal (l.take i) ++ Zal (l.drop i) := by unfold Zal; rw [← List.flatMap_append,List.take_append_drop]
 rw [this]; simp

theorem Zyv (s : Nat) (S : StrM) (a : Option Addr) (c : Nat) (l : List Bs) (rd fs : List Int) (T : TypeId) (W : World) (F : Nat → Prop) (hok : S.ok) (hn : S.n + (Zal l).length < 2305843009213693951) (hl : l.length < 2305843009213693951) (hG : Gl W F rd fs)
  (hB : Bss W F a l) (hS : St W F [pts s (.cells S.cells.toArray T)] W) :
  Calls Tryz.prog 112 #[.pointer (some ⟨s,0,none⟩),.slice a l.length c] W (Ret fun v w => v = .pointer (some ⟨s,0,none⟩) ∧ St W F [pts s (.cells (S.more rd fs (Zal l)).cells.toArray T)] w) := by
 refine Zab Tryz.func112 rfl Tryz.ntmps112 rfl ?_
 repeat (first|refine Yeg ?_|refine Yaf ?_|refine Yag ?_|refine Yau ?_|refine Ybu ?_|refine Ye9 ?_|refine Yab ?_)
 refine Zaj (α := Nat) (fun i => [(0,.pointer (some ⟨s,0,none⟩)),(11,.slice a l.length c),(12,.int .i64 (l.length : Nat)),(13,.int .i64 (i : Nat))])
  (fun i w => i ≤ l.length ∧ St W F [pts s (.cells (S.more rd fs (Zal (l.take i))).cells.toArray T)] w) (fun i => l.length - i) 0 ⟨rfl,rfl,rfl,rfl,trivial⟩ ⟨Nat.zero_le _,hS⟩ ?_
 clear hS
 rintro i w ⟨hi,hS⟩
 by_cases hlt : i < l.length
 ·have hx : l[i]? = some l[i] := List.getElem?_eq_getElem hlt
  generalize l[i] = x at hx
  have hxm := List.mem_of_getElem? hx
  have hbx := hB.all x hxm
  have hj := Zda hx
  have hle := Zbp l (i + 1)
  rw [hj,List.length_append] at hle
  obtain ⟨ab,ao,rfl⟩ := (hB.row.rd hS).base (by intro e; simp at e; subst e; simp at hlt)
  have hr := hB.row
  replace hx : (l.map Bs.val)[i]? = some (.slice x.a x.s.length x.c) := by simp [hx,Bs.val]
  repeat (first|refine Yeg ?_|(refine X_id ?_;first|refine Yaf ?_|refine Yag ?_|refine Yau ?_|refine Ya1 ?_|refine Yba ?_|refine Yb1 ?_)|refine Yek ?_|refine Yab ?_)
  refine Zaj (α := Nat) (fun j => [(0,.pointer (some ⟨s,0,none⟩)),(11,.slice (some ⟨ab,ao,none⟩) l.length c),(12,.int .i64 (l.length : Nat)),(13,.int .i64 (i : Nat)),(17,.slice x.a x.s.length x.c),(18,.int .i64 (x.s.length : Nat)),(19,.int .i64 (j : Nat))])
   (fun j w => j ≤ x.s.length ∧ St W F [pts s (.cells (S.more rd fs (Zal (l.take i) ++ x.s.take j)).cells.toArray T)] w) (fun j => x.s.length - j) 0 ⟨rfl,rfl,rfl,rfl,rfl,rfl,rfl,trivial⟩ ⟨Nat.zero_le _,by simpa using hS⟩ ?_
  clear hS
  rintro j w ⟨hj',hS⟩
  by_cases hjl : j < x.s.length
  ·obtain ⟨xb,xo,hxa⟩ := (hbx.rd hS).base (by intro e; have := Zag x.s; rw [e] at this; simp at this; omega)
   have hb : Ro W F (bytes (some ⟨xb,xo,none⟩) x.s) := hxa ▸ hbx
   rw [hxa]
   repeat (first|refine Yeg ?_|(refine X_id ?_;first|refine Yaf ?_|refine Yag ?_|refine Ya1 ?_|refine Yba ?_|refine X_yl (Zav rfl rfl ((hb.rd hS).cellB' (by omega))) rfl rfl ?_)|refine Yek ?_|refine Yab ?_)
   obtain ⟨S',hSe⟩ : ∃ S',S' = S.more rd fs (Zal (l.take i) ++ x.s.take j) := ⟨_,rfl⟩
   have hok' : S'.ok := hSe ▸ StrM.more_ok hG.first8 hok
   have hn' : S'.n < 2305843009213693951 := by rw [hSe,StrM.more_n]; simp; omega
   rw [← hSe] at hS
   obtain ⟨_,hc,hr,hw,hbk⟩ := hS.call [true]
   refine Zaa _ rfl rfl rfl rfl rfl (one_ s S' _ rd fs T _ _ hok' hn' (hG.mono hw) hc) ?_
   rintro _ w ⟨_,hS⟩
   replace hS := hbk hS
   clear hc hr hw hbk
   repeat (first|refine Yeg ?_|refine Yel ?_|refine Yad ?_|refine Yeo ?_)
   refine Zaf (j + 1) ⟨rfl,rfl,rfl,rfl,rfl,rfl,rfl,trivial⟩ ⟨by omega,?_⟩ (by omega)
   rw [StrM.more_append,StrM.more_snoc hjl,← StrM.more_append,← hSe]
   rw [show (j : Int).toNat * 1 = j by omega] at hS
   exact hS
  ·obtain rfl : j = x.s.length := by omega
   repeat (first|refine Yeg ?_|refine Yaf ?_|refine Yaz ?_|refine Yay ?_|refine Yet ?_|refine Yfa ?_)
   refine Zaf (i + 1) ⟨rfl,rfl,rfl,rfl,trivial⟩ ⟨by omega,?_⟩ (by omega)
   rw [hj]
   rw [List.take_length] at hS
   exact hS
 ·obtain rfl : i = l.length := by omega
  rw [List.take_length] at hS
  repeat (first|refine Yeg ?_|refine Yfb ?_|refine Yep ?_|refine Yfc ?_)
  exact ⟨rfl,hS⟩

/-! ### Fork -/
def StrM.init : StrM := ⟨List.replicate 8 0,List.replicate 64 0,0⟩
theorem StrM.init_ok : StrM.init.ok := ⟨by simp [init],by simp [init]⟩
theorem Qbi (s : Nat) (S : StrM) (T : TypeId) (W : World) (hok : S.ok) (hs : Rd W (pts s (.cells S.cells.toArray T))) :
  Calls Tryz.prog 171 #[.pointer (some ⟨s,0,none⟩)] W (Ret fun v w => ∃ p,v = .pointer (some ⟨p,0,none⟩) ∧ St W noF [pts p (.cells S.cells.toArray 236)] w) := by
 obtain ⟨H,R,n⟩ := S
 obtain ⟨h8,r64⟩ := hok
 unfold StrM.cells at hs ⊢
 simp only at h8 r64 hs ⊢
 have hl1 : LenO (ints .u32 H) 8 := ⟨by rw [ints_length]; exact h8⟩
 have hl2 : LenO (bv R) 64 := ⟨by simp [r64]⟩
 have hc := hs.ro
 have hS := St.start W
 refine Zab Tryz.func171 rfl Tryz.ntmps171 rfl ?_
 repeat (first|refine Yeg ?_|(refine X_id ?_;first|refine Yaf ?_|refine Yag ?_|refine Yav ?_|refine Ybn ?_|refine X_yl (Zg9 rfl rfl rfl) rfl rfl ?_|refine Ya7 (fun _ _ hS _ => ?_))|refine Yer ?_|refine Yab ?_)
 rename_i bx wx _
 replace hS : St W noF [pts bx (.cells (ints .u32 (List.replicate 8 0) ++ (bv (List.replicate 64 0) ++ [Value.int .i64 0])).toArray 236)] wx := hS
 have hl3 : LenO (ints .u32 (List.replicate 8 0)) 8 := ⟨by rw [ints_length]; simp⟩
 refine X_yl (Zdh rfl rfl (CellsAt.of_block (hc.rd hS).pts) (by simp [ints_length,h8,r64])) rfl rfl ?_
 repeat (first|refine Yeg ?_|refine Yaf ?_|refine Yag ?_|refine Yav ?_|refine Yb6 (fun _ hS => ?_)|refine Yeu ?_|refine Yei ?_)
 exact ⟨_,rfl,hS⟩
end Cr
namespace Cr
open Go Go.Proofs Go.ChangeShapes Go.WideShapes Go.Deep
set_option maxRecDepth 100000
set_option maxHeartbeats 64000000
instance : Inhabited Bs := ⟨⟨none,0,[]⟩⟩
theorem fmBs : ∀ o : List Bs,o.flatMap (fun e : Bs => [e.val]) = o.map Bs.val
 | [] => rfl
 | y :: o => by rw [List.flatMap_cons,fmBs o]; rfl
theorem Z5f : Tryz.prog.cellsOf 35 = 1 := by kernel_rfl
theorem Zul : Tryz.prog.cellsOf 5 = 1 := by kernel_rfl
theorem arg_bss {H : Type} {enc : TypeId × Value → H} {W : World} {p : List MemPlace} {d : DataW H} {v : Value} {base : Nat}
  (hok : Value.okWide Tryz.prog W .any base 55 v) (h : DataW.Trod enc Tryz.prog W 0 (fun _ => true) true 55 v d p) :
  ∃ (a : Option Addr) (l : List Bs) (ca : Nat),v = .slice a l.length ca ∧ Bss W noF a l ∧ ∀ x ∈ l,x.s.length ≤ x.c := by
 obtain ⟨a0,n0,c0,rfl⟩ := okWide_slice Tryz.underlying55 hok
 obtain ⟨fuel,hf⟩ := h
 obtain ⟨a,l,c,e,_,_,hr,hall⟩ := Zr2 (fun e : Bs => [e.val]) (fun e => e.s.length ≤ e.c ∧ Rd W (bytes e.a e.s)) 1 Tryz.underlying55 Z5f (by omega) (fun fuel cs y hh => by
  obtain ⟨a1,s1,c1,e1,hl1,_,hb1⟩ := Zvm Tryz.underlying35 Tryz.underlying5 Zul hh
  exact ⟨⟨a1,c1,s1⟩,e1,hl1,hb1⟩) hf
 have e : [Value.slice a0 n0 c0] = [.slice a l.length c] := e
 simp only [List.cons.injEq,Value.slice.injEq,and_true] at e
 obtain ⟨rfl,rfl,rfl⟩ := e
 rw [fmBs] at hr
 exact ⟨_,l,_,rfl,⟨hr.ro,fun x hx => (hall x hx).1.2.ro⟩,fun x hx => (hall x hx).1.1⟩
theorem Zoc {P : Program} {w : World} {r : Reach} {base n : Nat} {t e : TypeId} {v : Value} (ht : P.underlying t = some (.array n e)) (h : Value.okWide P w r base t v) : ∃ cs,v = .agg cs ∧ cs.size = P.cellsOf t := by
 simp only [Value.okWide,ht] at h
 obtain ⟨cs,h1,h2,_⟩ := h
 exact ⟨cs,h1,h2⟩
theorem Z5e : Tryz.prog.cellsOf 56 = 32 := by kernel_rfl
theorem arg_mark {H : Type} {enc : TypeId × Value → H} {W : World} {p : List MemPlace} {d : DataW H} {v : Value} {base : Nat}
  (hok : Value.okWide Tryz.prog W .any base 56 v) (h : DataW.Trod enc Tryz.prog W 0 (fun _ => true) true 56 v d p) :
  ∃ s : List UInt8,v = .agg (bv s).toArray ∧ s.length = 32 := by
 obtain ⟨cs,rfl,hsz⟩ := Zoc Tryz.underlying56 hok
 obtain ⟨fuel,hf⟩ := h
 obtain ⟨s,hs,hl⟩ := Zxq Tryz.underlying56 Tryz.underlying5 Zul Z5e hf
 refine ⟨s,?_,hl⟩
 have e : cs.toList = bv s := hs
 rw [← e]
end Cr
namespace Cr
open Go
set_option maxHeartbeats 64000000
section
variable {P : Program} {Q : Exit → Act → World → Prop} {N : Nat} {ds : Md} {σ : Env} {w : World} {x y : Code}
theorem Zko {F : Fence} {n : Nat} {c : Code} {Q Q' : Exit → Act → World → Prop} {a : Act} (hq : ∀ e a w,Q e a w → Q' e a w) (h : c.wpIn F n P Q a w) : c.wpIn F n P Q' a w := by
 intro b k cs hro hb hr
 obtain ⟨e,a',w',hQ,harr⟩ := h b k cs hro hb hr
 exact ⟨e,a',w',hq _ _ _ hQ,harr⟩
def Mid {α : Type} (S : α → Env) (R : α → World → Prop) (N : Nat) (ds : Md) : Act → World → Prop := fun a w => ∃ z,Fr (S z) N ds a ∧ R z w
theorem Znq {α : Type} (S : α → Env) (R : α → World → Prop) (h1 : C P x (Exit.then (Mid S R N ds) Q) N ds σ w) (h2 : ∀ z w,R z w → C P y Q N ds (S z) w) : C P x (Exit.then (y.wpIn (Fc ds) 0 P Q) Q) N ds σ w := ⟨fun a ha =>
 Zko (fun e a w hh => by
  cases e with
  | normal => obtain ⟨z,hF,hR⟩ := hh; exact (h2 z w hR).run a hF
  | exit id => exact hh
  | goto l => exact hh
  | ret => exact hh
  | panic ch => exact hh
  | outgrown => exact hh) (h1.run a ha)⟩
theorem Zqd {Q1 Q2 : Exit → Act → World → Prop} {id : Nat} (hq : ∀ e a w,Q1 e a w → Q2 e a w) : ∀ e a w,Exit.inBlock id Q1 e a w → Exit.inBlock id Q2 e a w := fun e a w h => by
 cases e with
 | exit id' =>
  by_cases he : id' = id
  ·simp only [Exit.inBlock,if_pos he] at h ⊢; exact hq _ _ _ h
  ·simp only [Exit.inBlock,if_neg he] at h ⊢; exact hq _ _ _ h
 | _ => exact hq _ _ _ h
theorem Zbk {α : Type} {id : Nat} (S : α → Env) (R : α → World → Prop) (h1 : C P x (Exit.inBlock id (Exit.then (Mid S R N ds) Q)) N ds σ w) (h2 : ∀ z w,R z w → C P y Q N ds (S z) w) : C P x (Exit.inBlock id (Exit.then (y.wpIn (Fc ds) 0 P Q) Q)) N ds σ w := ⟨fun a ha =>
 Zko (Zqd fun e a w hh => by
  cases e with
  | normal => obtain ⟨z,hF,hR⟩ := hh; exact (h2 z w hR).run a hF
  | exit id => exact hh
  | goto l => exact hh
  | ret => exact hh
  | panic ch => exact hh
  | outgrown => exact hh) (h1.run a ha)⟩
theorem Zbj {α : Type} {S : α → Env} {R : α → World → Prop} (z : α) (hσ : subs σ (S z)) (hR : R z w) : E (Exit.then (Mid S R N ds) Q) .normal N ds σ w := ⟨fun _ ha => ⟨z,ha.sub hσ,hR⟩⟩
theorem Rd.cellF {b off o' i : Nat} {cs : List Value} {v : Value} (H : Rd w (row (some ⟨b,off,none⟩) cs)) (hi : o' = off + i) (h : cs[i]? = some v) : w.cell? ⟨b,o',none⟩ = some v := by
 subst hi; exact H.cells i v h
end
section
variable {P : Program} {o : Oper} {σ : Env} {w : World} {t e : TypeId}
theorem Zhs {z : Value} {n size N m : Nat} {xs : List (Nat × Operand)} {parts : List (Nat × Value)} {l : List Value} (ho : o.op = .build t xs.toArray) (hx : evps σ xs = some parts) [h : Und P t (.array n e)] [hs : Siz P e size] [hi : Inf P t z N m] (hn : parts.length = n) (hN : N = n * size)
  (hidx : parts.map (·.1) = List.range' 0 parts.length) [hl : CellsAll parts size l] : Yl P o σ w (.agg l.toArray) := ⟨fun N' ds a ha => by
 obtain ⟨i,hi',hz',hsz,_⟩ := info_parts hi.inf
 obtain ⟨ls,h1,h2,h3⟩ := hl.all
 have hzl : z.cells.size = parts.length * size := by rw [hn,← hN]; exact hi.zs
 have hq := Zoo (size := size) parts ls 0 [] z.cells.toList h1 h2 hidx (by simp) (by simpa using hzl)
 simp only [List.nil_append,Array.toArray_toList,h3] at hq
 have hze : (zeroValue t).run P w = .ok z w := by simp [zeroValue,typeInfo,hi',hz']
 have e := ha.evalps hx
 have hb : (Instr.build t parts.toArray).run P w = .ok (.agg l.toArray) w := by
  unfold Instr.build
  rw [Sem.run_bind,hze]
  show (underlying t >>= _ : Sem _).run P w = _
  rw [Sem.run_bind,run_underlying h.und]
  show (Go.sizeOf _ >>= _ : Sem _).run P w = _
  rw [Sem.run_bind,Zbn]
  simp [Result.andThen,hq]
 simp [execOp,ho,e,hb]⟩
end
theorem St.cellO (k : Nat) {W : World} {F : Nat → Prop} {rs : List Res} {w : World} {b off : Nat} {l : List Value} {T : TypeId} {v : Value} (hS : St W F rs w) (hk : off = k) [hh : Has rs b (.cells l.toArray T (0,0))] [hn : Nth l k v] : w.cell? ⟨b,off,none⟩ = some v := by
 subst hk
 rw [cell_of_row w b off _ T (0,0) hS.has]
 simpa using hn.nth
theorem St.ownRd {W : World} {F : Nat → Prop} {rs rest : List Res} {w : World} {a : Option Addr} {T e c : Nat} {cs : List Value} (hS : St W F rs w) [hh : HasOwn rs a T e c cs rest] : Rd w (row a cs) := ((hS.perm hh.has).rd (List.mem_cons_self ..)).own_row
/-! ### resources in another order -/
class Take1 (rs : List Res) (r : Res) (rest : outParam (List Res)) : Prop where
 perm : rs.Perm (r :: rest)
instance Take1.there (q r : Res) (rs rest : List Res) [h : Take1 rs r rest] : Take1 (q :: rs) r (q :: rest) := ⟨(List.Perm.cons q h.perm).trans (.swap ..)⟩
instance Take1.here (r : Res) (rs : List Res) : Take1 (r :: rs) r rs := ⟨.refl _⟩
class Takes (rs out : List Res) : Prop where
 took : ∀ {W F w},St W F rs w → St W F out w
instance Takes.nil (rs : List Res) : Takes rs [] := ⟨fun h => h.drops⟩
instance Takes.cons (rs rest out : List Res) (r : Res) [h : Take1 rs r rest] [h2 : Takes rest out] : Takes rs (r :: out) := ⟨fun hS => (hS.perm h.perm).under h2.took⟩
theorem St.took {W : World} {F : Nat → Prop} {rs out : List Res} {w : World} (hS : St W F rs w) [h : Takes rs out] : St W F out w := h.took hS
end Cr
namespace Cr
open Go Go.Proofs
set_option maxRecDepth 100000
set_option maxHeartbeats 64000000
attribute [local irreducible] Calls

def u64 (x : Int) : Int := IntKind.u64.wrap x
section
variable {P : Program} {o : Oper} {σ : Env} {w : World} {x y : Operand} {t : TypeId} {N : Nat} {ds : Md} {K : Env → World → Prop}
theorem Z5r (n : Nat) {T bytes d : Nat} {k k' kk : IntKind} {l c : Int} {W : World} {F : Nat → Prop} {rs : List Res} (ho : o.op = .makeSlice t x y) (hx : ev σ x = some (.int k l)) (hy : ev σ y = some (.int k' c))
  [h : Und P t (.slice T)] [hi : Inf P T (.int kk 0) 1 bytes] (hl : l = n) (hc : c = n) (hb : bytes * n ≤ 281474976710656) (hm : n ≤ 9223372036854775807) (hd : o.dst = some d) (hN : Nat.blt d N = true) (hS : St W F rs w)
  (hk : ∀ b w',St W F (pts b (.cells (ints kk (List.replicate n 0)).toArray T) :: rs) w' → K ((d,.slice (some ⟨b,0,none⟩) n n) :: σ) w') : X P o N ds σ w K := by
 subst hl hc
 exact Zzn ho hx hy (by omega) (Int.le_refl _) (by rw [← Int.natCast_mul]; omega) (by omega) hd hN hS fun b w' hS' _ => hk b w' (by
  have e1 : (Value.int kk 0).cells = #[Value.int kk 0] := rfl
  rw [e1,Zif,Int.toNat_natCast,Nat.mul_one,Zog] at hS'
  exact hS')
end
section
variable {P : Program} {o : Oper} {σ : Env} {w : World} {x y : Operand} {t : TypeId} {N : Nat} {ds : Md} {K : Env → World → Prop}
theorem St.cellIA {W : World} {F : Nat → Prop} {rs : List Res} {b off j : Nat} {k : IntKind} {L : List Int} {T : TypeId} (hS : St W F rs w) [hh : Has rs b (.cells (ints k L).toArray T (0,0))] (h : off + j < L.length) : w.cell? (adr (some ⟨b,off,none⟩) j) = some (.int k (L.getD (off + j) 0)) := hS.cellI h
theorem Zrf {b off j : Nat} {k : IntKind} {n : Int} {L : List Int} {T : TypeId} {W : World} {F : Nat → Prop} {rs rs' : List Res} (ho : o.op = .store t x y) (hx : ev σ x = some (.pointer (some (adr (some ⟨b,off,none⟩) j)))) (hy : ev σ y = some (.int k n)) [hs : Siz P t 1]
  (hd : o.dst = none) (hS : St W F rs w) [hh : Has rs b (.cells (ints k L).toArray T (0,0))] (hfit : off + j < L.length) [hu : Upd rs b (.cells (ints k (L.set (off + j) n)).toArray T (0,0)) rs']
  (h : ∀ w',St W F rs' w' → K σ w') : X P o N ds σ w K := Zuw (off := off + j) ho hx hy hd hS hfit h
end
def Zg5 (a b : List Int) (i : Nat) (o : List Int) : Nat → List Int × Int
 | 0 => (o,0)
 | k + 1 =>
  let p := Zg5 a b i o k
  let n := u64 (u64 (p.1.getD (i + k) 0 + u64 (a.getD i 0 * b.getD k 0)) + p.2)
  (p.1.set (i + k) (n.tmod 65536),u64 (n.tdiv 65536))
def Zjn (a b : List Int) : Nat → List Int
 | 0 => List.replicate (a.length + b.length) 0
 | i + 1 => (Zg5 a b i (Zjn a b i) b.length).1.set (i + b.length) (Zg5 a b i (Zjn a b i) b.length).2
def Zvk (a b : List Int) : List Int := Zjn a b a.length
theorem Zd2 (a b : List Int) (i : Nat) (o : List Int) : ∀ k,(Zg5 a b i o k).1.length = o.length
 | 0 => rfl
 | k + 1 => by simp [Zg5,Zd2 a b i o k]
theorem Zd1 (a b : List Int) : ∀ i,(Zjn a b i).length = a.length + b.length
 | 0 => by simp [Zjn]
 | i + 1 => by simp [Zjn,Zd2,Zd1 a b i]
theorem Zjo (a b : List Int) : (Zvk a b).length = a.length + b.length := Zd1 a b _
theorem Z02 (ab bb : Nat) (ca cb : Nat) (a b : List Int) (W : World) (ha : Rd W (row (some ⟨ab,0,none⟩) (ints .u64 a))) (hb : Rd W (row (some ⟨bb,0,none⟩) (ints .u64 b))) (hla : a.length ≤ 1000) (hlb : b.length ≤ 1000) :
  Calls Tryz.prog 110 #[.slice (some ⟨ab,0,none⟩) a.length ca,.slice (some ⟨bb,0,none⟩) b.length cb] W (Ret fun v w => ∃ p,v = .slice (some ⟨p,0,none⟩) (Zvk a b).length (Zvk a b).length ∧ St W noF [row (some ⟨p,0,none⟩) (ints .u64 (Zvk a b))] w) := by
 have hS := St.start W
 have hg := ha.ro
 have hg2 := hb.ro
 have hlen := Zd1 a b
 refine Zab Tryz.func110 rfl Tryz.ntmps110 rfl ?_
 repeat (first|refine Yeg ?_|refine Yaf ?_|refine Yag ?_|refine Yau ?_|refine Yay ?_|refine Yeh ?_|refine Yab ?_)
 refine Z5r (a.length + b.length) rfl rfl rfl (by omega) (by omega) (by omega) (by omega) rfl rfl hS (fun p w hS => ?_)
 repeat (first|refine Yeg ?_|refine Yag ?_|refine Yej ?_|refine Yab ?_)
 refine Zaj (α := Nat) (fun i => [(0,.slice (some ⟨ab,0,none⟩) a.length ca),(1,.slice (some ⟨bb,0,none⟩) b.length cb),(5,.slice (some ⟨p,0,none⟩) (a.length + b.length) (a.length + b.length)),(6,.int .i64 (i : Nat))])
  (fun i w => i ≤ a.length ∧ St W noF [pts p (.cells (ints .u64 (Zjn a b i)).toArray 45)] w) (fun i => a.length - i) 0 ⟨rfl,rfl,rfl,rfl,trivial⟩ ⟨Nat.zero_le _,hS⟩ ?_
 clear hS
 rintro i w ⟨hi,hS⟩
 have hlen := Zd1 a b i
 obtain ⟨O,hO⟩ : ∃ O,O = Zjn a b i := ⟨_,rfl⟩
 rw [← hO] at hS hlen
 by_cases h1 : i < a.length
 ·repeat (first|refine Yeg ?_|refine Yaf ?_|refine Yag ?_|refine Yau ?_|refine Ya1 ?_|refine Yek ?_|refine Yab ?_)
  refine Zbk (α := Unit) (fun _ => [(0,.slice (some ⟨ab,0,none⟩) a.length ca),(1,.slice (some ⟨bb,0,none⟩) b.length cb),(5,.slice (some ⟨p,0,none⟩) (a.length + b.length) (a.length + b.length)),(6,.int .i64 (i : Nat)),(7,.int .u64 (Zg5 a b i O b.length).2)])
   (fun _ w => St W noF [pts p (.cells (ints .u64 (Zg5 a b i O b.length).1).toArray 45)] w) ?_ ?_
  ·refine Zaj (α := Nat) (fun k => [(0,.slice (some ⟨ab,0,none⟩) a.length ca),(1,.slice (some ⟨bb,0,none⟩) b.length cb),(5,.slice (some ⟨p,0,none⟩) (a.length + b.length) (a.length + b.length)),(6,.int .i64 (i : Nat)),(7,.int .u64 (Zg5 a b i O k).2),(8,.int .i64 (k : Nat))])
    (fun k w => k ≤ b.length ∧ St W noF [pts p (.cells (ints .u64 (Zg5 a b i O k).1).toArray 45)] w) (fun k => b.length - k) 0 ⟨rfl,rfl,rfl,rfl,rfl,rfl,trivial⟩ ⟨Nat.zero_le _,hS⟩ ?_
   clear hS
   rintro k w ⟨hk,hS⟩
   have hpl := Zd2 a b i O k
   obtain ⟨q,hq⟩ : ∃ q,q = Zg5 a b i O k := ⟨_,rfl⟩
   rw [← hq] at hS hpl ⊢
   by_cases h2 : k < b.length
   ·repeat (first|refine Yeg ?_|refine Yaf ?_|refine Yau ?_|refine Ya1 ?_|refine Yek ?_|refine Yab ?_)
    refine Zan (.s 0 (.s 1 (.s 2 (.s 3 (.s 4 (.s 5 (.s 6 (.s 7 (.s 8 (.s 9 (.s 10 (.s 11 (.s 12 (.s 13 (.s 14 (.s 15 (.s 16 (.s 17 (.s 18 .nil))))))))))))))))))) mixed (by kernel_rfl) rfl ?_
    have hS := hS.drew
    repeat (first|refine Yeg ?_|(refine X_id ?_;first|refine Yaf ?_|refine Yag ?_|refine Yba ?_|refine Yay ?_|refine X_yl (Zq2 rfl rfl rfl (by omega) rfl) rfl rfl ?_|refine Ydq ?_|refine Zrf rfl rfl rfl rfl hS (by omega) (fun _ hS => ?_))|refine Yeh ?_|refine Yeo ?_|(refine Zae ?_;first|refine Yaw ?_|refine Ya0 ?_|refine Ybj ?_|refine Yb9 ?_|refine Ycw ?_|refine Yci ?_|refine Zak rfl rfl (fun _ => Zq5 rfl rfl rfl rfl) rfl rfl ?_|refine Yea ?_|refine Za6 (fun w' => w'.cell? _ = some _) rfl rfl ((hg2.rd hS).cellI (by omega)) (fun _ hc => Zav rfl rfl hc) rfl rfl ?_|refine Za6 (fun w' => w'.cell? _ = some _) rfl rfl (hS.cellIA (by omega)) (fun _ hc => Zav rfl rfl hc) rfl rfl ?_))
    rw [show 0 + ((i : Int) + (k : Int)).toNat * 1 = i + k by omega,show (i : Int).toNat * 1 = i by omega,show (k : Int).toNat * 1 = k by omega] at hS
    refine Zaf (k + 1) ⟨rfl,rfl,rfl,rfl,?_,rfl,trivial⟩ ⟨by omega,?_⟩ (by omega)
    ·show some _ = some _
     rw [show 0 + ((i : Int) + (k : Int)).toNat * 1 = i + k by omega,show (i : Int).toNat * 1 = i by omega,show (k : Int).toNat * 1 = k by omega,hq]
     rfl
    ·rw [hq] at hS; exact hS
   ·obtain rfl : k = b.length := by omega
    repeat (first|refine Yeg ?_|refine Yaf ?_|refine Yau ?_|refine Yaz ?_|refine Yet ?_|refine Yem ?_)
    exact Zbj () ⟨rfl,rfl,rfl,rfl,by rw [hq]; rfl,trivial⟩ (by rw [← hq]; exact hS)
  ·clear hS
   rintro _ w hS
   have hpl := Zd2 a b i O b.length
   repeat (first|refine Yeg ?_|(refine X_id ?_;first|refine Yaf ?_|refine Yag ?_|refine Yau ?_|refine Yba ?_|refine Yay ?_|refine Zrf rfl rfl rfl rfl hS (by omega) (fun _ hS => ?_))|refine Yad ?_|refine Yeo ?_)
   rw [show 0 + ((i : Int) + (b.length : Int)).toNat * 1 = i + b.length by omega,hO] at hS
   exact Zaf (i + 1) ⟨rfl,rfl,rfl,rfl,trivial⟩ ⟨by omega,hS⟩ (by omega)
 ·obtain rfl : i = a.length := by omega
  repeat (first|refine Yeg ?_|refine Yaf ?_|refine Yag ?_|refine Yau ?_|refine Yaz ?_|refine Yep ?_|refine Yfc ?_)
  refine ⟨p,?_,?_⟩
  ·rw [Zjo]
  ·rw [Zvk,← hO]; exact hS.head fun h hh => Zk4 h hh

/-! ### digits,root -/
def digM (n : Int) : List Int := [n.tmod 65536,(u64 (n.tdiv 65536)).tmod 65536,(u64 ((u64 (n.tdiv 65536)).tdiv 65536)).tmod 65536]
theorem Zmq (n : Int) (W : World) : Calls Tryz.prog 109 #[.int .u64 n] W (Ret fun v w => ∃ p,v = .slice (some ⟨p,0,none⟩) 3 3 ∧ St W noF [row (some ⟨p,0,none⟩) (ints .u64 (digM n))] w) := by
 have hS := St.start W
 refine Zab Tryz.func109 rfl Tryz.ntmps109 rfl ?_
 repeat (first|refine Yeg ?_|(refine X_id ?_;first|refine Yaf ?_|refine Yag ?_|refine X_yl (Zq2 rfl rfl rfl (by omega) rfl) rfl rfl ?_|refine Ydq ?_|refine Ybd (fun _ _ hS _ => ?_))|refine Yeu ?_|refine Yei ?_)
 exact ⟨_,rfl,(hS.pick [0]).head fun _ h => h.row⟩
def zTo (y : Int) : Nat → List Int
 | 0 => digM y
 | k + 1 => Zvk (zTo y k) (digM y)
theorem Ziv (y : Int) : ∀ k,(zTo y k).length = 3 * (k + 1)
 | 0 => rfl
 | k + 1 => by rw [zTo,Zjo,Ziv y k]; simp [digM]; omega
def Zi0 (z : List Int) (pw : Nat) : Nat → Int × Int
 | 0 => (0,0)
 | j + 1 =>
  let p := Zi0 z pw j
  let k := z.length - 1 - j
  if 2 * pw ≤ k then (u64 (u64 (65536 * p.1) + z.getD k 0),p.2) else (p.1,u64 (p.2 + z.getD k 0))
def lowM (prime : Int) (p : Int × Int) : Bool := decide (p.1 < prime) || (decide (p.1 = prime) && decide (p.2 = 0))
def Zk5 (prime : Int) (pw : Nat) : Nat → Int
 | 0 => 0
 | j + 1 =>
  let x := Zk5 prime pw j
  let y := u64 (x + ishl .u64 1 (36 - j))
  if lowM prime (Zi0 (zTo y (pw - 1)) pw (3 * pw)) then y else x
def Zau (prime : Int) (pw : Nat) : Int := IntKind.i64.wrap ((Zk5 prime pw 37).tmod 4294967296)
theorem Z33 (prime : Int) (pw : Nat) (W : World) (hpw : 1 ≤ pw) (hpw' : pw ≤ 3) : Calls Tryz.prog 60 #[.int .u64 prime,.int .i64 (pw : Nat)] W (Ret fun v w => v = .int .i64 (Zau prime pw) ∧ St W noF [] w) := by
 have hS := St.start W
 refine Zab Tryz.func60 rfl Tryz.ntmps60 rfl ?_
 repeat (first|refine Yeg ?_|refine Yag ?_|refine Yej ?_|refine Yab ?_)
 refine Zaj (α := Nat) (fun j => [(0,.int .u64 prime),(1,.int .i64 (pw : Nat)),(5,.int .u64 (Zk5 prime pw j)),(6,.int .i64 (36 - (j : Int)))])
  (fun j w => j ≤ 37 ∧ St W noF [] w) (fun j => 37 - j) 0 ⟨rfl,rfl,rfl,rfl,trivial⟩ ⟨Nat.zero_le _,hS⟩ ?_
 clear hS
 rintro j w ⟨hj,hS⟩
 obtain ⟨x,hx⟩ : ∃ x,x = Zk5 prime pw j := ⟨_,rfl⟩
 rw [← hx]
 by_cases h1 : j < 37
 ·repeat (first|refine Yeg ?_|(refine X_id ?_;first|refine Yaf ?_|refine Yag ?_|refine Yb2 ?_|refine Yck ?_|refine X_yl (Zza rfl rfl rfl (by omega)) rfl rfl ?_)|refine Yek ?_|refine Yab ?_)
  obtain ⟨y,hy⟩ : ∃ y,y = u64 (x + ishl .u64 1 (36 - j)) := ⟨_,rfl⟩
  have hy' : IntKind.u64.wrap (x + ishl .u64 1 (36 - (j : Int)).toNat) = y := by rw [hy,show (36 - (j : Int)).toNat = 36 - j by omega]; rfl
  rw [hy']
  refine Zaa _ rfl rfl rfl rfl rfl (Zmq y _) ?_
  rintro _ w ⟨q0,rfl,hS'⟩
  replace hS := hS.plus hS'
  clear hS'
  repeat (first|refine Yeg ?_|refine Yag ?_|refine Yej ?_|refine Yab ?_)
  refine Zbk (α := Nat × Nat) (fun z => [(0,.int .u64 prime),(1,.int .i64 (pw : Nat)),(5,.int .u64 x),(6,.int .i64 (36 - (j : Int))),(7,.int .u64 y),(8,.slice (some ⟨z.1,0,none⟩) (zTo y (pw - 1)).length z.2)])
   (fun z w => St W noF [row (some ⟨z.1,0,none⟩) (ints .u64 (zTo y (pw - 1)))] w) ?_ ?_
  ·refine Zaj (α := Nat × Nat × Nat) (fun z => [(0,.int .u64 prime),(1,.int .i64 (pw : Nat)),(5,.int .u64 x),(6,.int .i64 (36 - (j : Int))),(7,.int .u64 y),(8,.slice (some ⟨z.2.1,0,none⟩) (zTo y z.1).length z.2.2),(9,.int .i64 ((z.1 : Int) + 1))])
    (fun z w => z.1 + 1 ≤ pw ∧ St W noF [row (some ⟨z.2.1,0,none⟩) (ints .u64 (zTo y z.1))] w) (fun z => pw - z.1) (0,q0,3) ⟨rfl,rfl,rfl,rfl,rfl,rfl,rfl,trivial⟩ ⟨hpw,hS⟩ ?_
   clear hS
   rintro ⟨k,q,c⟩ w ⟨hk,hS⟩
   simp only at hk hS ⊢
   have hzl := Ziv y k
   by_cases h2 : k + 1 < pw
   ·repeat (first|refine Yeg ?_|refine Yaf ?_|refine Ya1 ?_|refine Yek ?_|refine Yab ?_)
    refine Zaa _ rfl rfl rfl rfl rfl (Zmq y _) ?_
    rintro _ w ⟨q1,rfl,hS'⟩
    replace hS := hS.plus hS'
    clear hS'
    refine Zeq rfl rfl ?_
    refine Zaa _ rfl rfl rfl rfl rfl (Z02 q q1 c 3 (zTo y k) (digM y) _ (hS.rd (by simp)) (hS.rd (by simp)) (by omega) (by simp [digM])) ?_
    rintro _ w ⟨q2,rfl,hS'⟩
    replace hS := hS.plus hS'
    clear hS'
    repeat (first|refine Yeg ?_|refine Yew ?_|refine Yad ?_|refine Yeo ?_)
    exact Zaf (z := (k,q,c)) (k + 1,q2,(zTo y (k + 1)).length) ⟨rfl,rfl,rfl,rfl,rfl,rfl,rfl,trivial⟩ ⟨by simp only; omega,hS.pick [0]⟩ (by simp only; omega)
   ·obtain rfl : k = pw - 1 := by omega
    repeat (first|refine Yeg ?_|refine Yaf ?_|refine Yaz ?_|refine Yet ?_|refine Yem ?_)
    exact Zbj (q,c) ⟨rfl,rfl,rfl,rfl,rfl,rfl,trivial⟩ hS
  ·clear hS
   rintro ⟨q,c⟩ w hS
   simp only at hS ⊢
   obtain ⟨z,hz⟩ : ∃ z,z = zTo y (pw - 1) := ⟨_,rfl⟩
   have hzl : z.length = 3 * pw := by rw [hz,Ziv]; omega
   rw [← hz] at hS ⊢
   repeat (first|refine Yeg ?_|refine Yaf ?_|refine Yag ?_|refine Yau ?_|refine Ybw ?_|refine Yej ?_|refine Yab ?_)
   obtain ⟨s,hs⟩ : ∃ s,s = Zi0 z pw (3 * pw) := ⟨_,rfl⟩
   refine Zbk (α := Unit) (fun _ => [(0,.int .u64 prime),(1,.int .i64 (pw : Nat)),(5,.int .u64 x),(6,.int .i64 (36 - (j : Int))),(7,.int .u64 y),(10,.int .u64 s.1),(11,.int .u64 s.2)])
    (fun _ w => St W noF [] w) ?_ ?_
   ·obtain ⟨F2,hS2,hro,_,hbk⟩ := hS.call []
    clear hS
    have hS := hS2
    clear hS2
    have hg := hro (row (some ⟨q,0,none⟩) (ints .u64 z)) (by simp)
    refine Zaj (α := Nat) (fun m => [(0,.int .u64 prime),(1,.int .i64 (pw : Nat)),(5,.int .u64 x),(6,.int .i64 (36 - (j : Int))),(7,.int .u64 y),(8,.slice (some ⟨q,0,none⟩) z.length c),(10,.int .u64 (Zi0 z pw m).1),(11,.int .u64 (Zi0 z pw m).2),(12,.int .i64 ((z.length : Int) - 1 - (m : Int)))])
     (fun m w' => m ≤ 3 * pw ∧ St w F2 [] w') (fun m => 3 * pw - m) 0 ⟨rfl,rfl,rfl,rfl,rfl,rfl,rfl,rfl,by show some _ = some _; simp,trivial⟩ ⟨Nat.zero_le _,hS⟩ ?_
    clear hS
    rintro m w2 ⟨hm,hS⟩
    by_cases h2 : m < 3 * pw
    ·have ek : ((z.length : Int) - 1 - (m : Int)).toNat * 1 = z.length - 1 - m := by omega
     by_cases h3 : 2 * (pw : Int) ≤ (z.length : Int) - 1 - (m : Int)
     ·have e : Zi0 z pw (m + 1) = (u64 (u64 (65536 * (Zi0 z pw m).1) + z.getD (z.length - 1 - m) 0),(Zi0 z pw m).2) := by rw [Zi0]; exact if_pos (by omega)
      repeat (first|refine Yeg ?_|(refine X_id ?_;first|refine Yaf ?_|refine Yag ?_|refine Yb2 ?_|refine Yba ?_|refine Ybw ?_|refine Yb8 ?_|refine Yck ?_|refine X_yl (Zq5 rfl rfl rfl rfl) rfl rfl ?_|refine Ydx ?_)|refine Yek ?_|refine Yeo ?_)
      refine Zaf (m + 1) ⟨rfl,rfl,rfl,rfl,rfl,rfl,?_,?_,?_,trivial⟩ ⟨by omega,hS⟩ (by omega)
      ·rw [e]; show some _ = some _; rw [ek]; rfl
      ·rw [e]; rfl
      ·show some _ = some _; congr 2; omega
     ·have e : Zi0 z pw (m + 1) = ((Zi0 z pw m).1,u64 ((Zi0 z pw m).2 + z.getD (z.length - 1 - m) 0)) := by rw [Zi0]; exact if_neg (by omega)
      repeat (first|refine Yeg ?_|(refine X_id ?_;first|refine Yaf ?_|refine Yag ?_|refine Yb2 ?_|refine Yb4 ?_|refine Yba ?_|refine Ybw ?_|refine Yb8 ?_|refine Yck ?_|refine Ydx ?_)|refine Yen ?_|refine Yeo ?_)
      refine Zaf (m + 1) ⟨rfl,rfl,rfl,rfl,rfl,rfl,?_,?_,?_,trivial⟩ ⟨by omega,hS⟩ (by omega)
      ·rw [e]; rfl
      ·rw [e]; show some _ = some _; rw [ek]; rfl
      ·show some _ = some _; congr 2; omega
    ·obtain rfl : m = 3 * pw := by omega
     repeat (first|refine Yeg ?_|refine Yaf ?_|refine Yb4 ?_|refine Yet ?_|refine Yem ?_)
     exact Zbj () ⟨rfl,rfl,rfl,rfl,rfl,by rw [hs]; rfl,by rw [hs]; rfl,trivial⟩ (hbk hS).drops
   ·clear hS
    rintro _ w hS
    have e : Zk5 prime pw (j + 1) = if lowM prime s then y else x := by rw [Zk5,← hx,← hy,← hz,← hs]
    have key : ∀ b : Bool,lowM prime s = b → Zk5 prime pw (j + 1) = if b then y else x := fun b hb => by rw [e,hb]
    by_cases c1 : s.1 < prime
    ·have e2 := key true (by simp [lowM,c1])
     repeat (first|refine Yac ?_|refine Yaa ?_|refine Ybk ?_|refine Ydb ?_|(refine X_id ?_;first|refine Yaf ?_|refine Yag ?_|refine Ybe ?_|refine Ya1 ?_|refine Ybw ?_)|refine Yer ?_|refine Yeo ?_)
     exact Zaf (j + 1) ⟨rfl,rfl,by rw [e2]; rfl,by show some _ = some _; congr 2; omega,trivial⟩ ⟨by omega,hS⟩ (by omega)
    ·by_cases c2 : s.1 = prime
     ·by_cases c3 : s.2 = 0
      ·have e2 := key true (by simp [lowM,c2,c3])
       repeat (first|refine Yex ?_|(refine X_id ?_;first|refine Yaf ?_|refine Yag ?_|refine Ybe ?_|refine Ya9 ?_|refine Ybh ?_|refine Yaz ?_|refine Ybw ?_)|refine Yer ?_|refine Yeo ?_)
       exact Zaf (j + 1) ⟨rfl,rfl,by rw [e2]; rfl,by show some _ = some _; congr 2; omega,trivial⟩ ⟨by omega,hS⟩ (by omega)
      ·have e2 := key false (by simp [lowM,c2,c3])
       repeat (first|refine Yex ?_|(refine X_id ?_;first|refine Yaf ?_|refine Yag ?_|refine Ybe ?_|refine Ya9 ?_|refine Ybh ?_|refine Ybi ?_|refine Yaz ?_|refine Ybw ?_)|refine Yes ?_|refine Yeo ?_)
       exact Zaf (j + 1) ⟨rfl,rfl,by rw [e2]; rfl,by show some _ = some _; congr 2; omega,trivial⟩ ⟨by omega,hS⟩ (by omega)
     ·have e2 := key false (by simp [lowM,c1,c2])
      repeat (first|refine Yfe ?_|(refine X_id ?_;first|refine Yaf ?_|refine Yag ?_|refine Ya9 ?_|refine Ybi ?_|refine Yaz ?_|refine Ybw ?_)|refine Yes ?_|refine Yeo ?_)
      exact Zaf (j + 1) ⟨rfl,rfl,by rw [e2]; rfl,by show some _ = some _; congr 2; omega,trivial⟩ ⟨by omega,hS⟩ (by omega)
 ·obtain rfl : j = 37 := by omega
  repeat (first|refine Yeg ?_|(refine X_id ?_;first|refine Yaf ?_|refine Yag ?_|refine Yb4 ?_|refine Ydc ?_|refine Ydq ?_)|refine Yep ?_|refine Yfc ?_)
  exact ⟨by rw [Zau,← hx],hS⟩
end Cr
