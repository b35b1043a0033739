/-
  Layer 2 (digest): bytes,one.
  The wrap of laws whose rows list the tables of digest,bits and strconv: a world for a witness; what the row lists gives the digest's tables.
  Layer 1 (block): what each function of package block does to a disk in memory.
  Layer 1 (block): New,Write,Flush.
  Layer 1 (block): Write,Flush.
  slices.Backward: what the function that it hands back does,round by round.
  Layer 1 (block): lay,Flush,Read.
  A law's arguments,opened: bytes,lists of writes. What is read of them,by the reading that the row gives.
  Two more rules of the walk: a join behind a test (the rest is walked once),and an assertion in the middle.
  Layer 2 (digest): Write,Fork,Sum.
  Bytes made; lists of byte slices as a resource. Over any program.
  Layer 2 (digest): Sum.
  Layer 2 (digest): Framed.
  bytes.Join (without a separator) and bytes.Equal.
-/
import Derived.Test.YtjpjbgkjfdhjjaaGreatDoorBsl3
import Derived.Deep.DeepWitnessRowRef
import Derived.Lib.ItoaNum
import Derived.Deep.SlicePairs
import Derived.Carry
import Derived.Test.YtjpjbgkjfdhjjaaGreatDoorBsl2
import Derived.Lib.MakeNoZero
import Derived.Laws.Externs
namespace Cr
open Go Go.Proofs
set_option maxRecDepth 100000
set_option maxHeartbeats 64000000
attribute [local irreducible] Calls

/-! ### bytes -/
def Z2v (H : List Int) (i : Nat) : UInt8 := b8 (ishr .u32 (H.getD (i / 4) 0) (24 - i % 4 * 8))
def Zkb (H : List Int) : Nat → List UInt8
 | 0 => List.replicate 32 0
 | i + 1 => (Zkb H i).set i (Z2v H i)
theorem Zc6 (H : List Int) : ∀ i,(Zkb H i).length = 32
 | 0 => by simp [Zkb]
 | i + 1 => by simp [Zkb,Zc6 H i]
def outB (H : List Int) : List UInt8 := Zkb H 32
theorem Ze0 (H : List Int) : (outB H).length = 32 := Zc6 H 32
theorem Z7a (s : Nat) (H : List Int) (r : List Value) (T : TypeId) (W : World) (hH : H.length = 8) (hs : Rd W (pts s (.cells (ints .u32 H ++ r).toArray T))) :
  Calls Tryz.prog 154 #[.pointer (some ⟨s,0,none⟩)] W (Ret fun v w => v = .agg (bv (outB H)).toArray ∧ St W noF [] w) := by
 have hS := St.start W
 have hg : Ro W noF (row (some ⟨s,0,none⟩) (ints .u32 H)) := hs.ro.mono fun h hh => ⟨h,Zf0 (n := 8) (by rw [List.drop_zero,List.take_append_of_le_length (by rw [ints_length]; omega),List.take_of_length_le (by rw [ints_length]; omega)]) h hh,fun _ _ e => e⟩
 refine Zab Tryz.func154 rfl Tryz.ntmps154 rfl ?_
 repeat (first|refine Yeb ?_|refine Yaf ?_|refine Yar (fun _ _ hS _ => ?_)|refine Yee ?_|refine Yab ?_)
 rename_i b2 _ _ _ b3 _ _;rw [Zfs] at hS;refine Zaj (α := Nat) (fun i => [(0,.pointer (some ⟨s,0,none⟩)),(2,.pointer (some ⟨b2,0,none⟩)),(3,.pointer (some ⟨b3,0,none⟩)),(5,.int .i64 (i : Nat))])
  (fun i w => i ≤ 32 ∧ St W noF [pts b3 (.cells (bv (Zkb H i)).toArray 54),pts b2 (.cells (bv (List.replicate 32 0)).toArray 54)] w) (fun i => 32 - i) 0 ⟨rfl,rfl,rfl,rfl,trivial⟩ ⟨Nat.zero_le _,hS⟩ ?_
 clear hS;rintro i w ⟨hi,hS⟩
 obtain ⟨L,hLe⟩ : ∃ L,L = Zkb H i := ⟨_,rfl⟩
 have hL : L.length = 32 := by rw [hLe]; exact Zc6 H i
 rw [← hLe] at hS;by_cases h32 : i < 32
 ·repeat (first|refine Yeb ?_|(refine X_id ?_;first|refine Yaf ?_|refine Yag ?_|refine Yau ?_|refine Ya1 ?_|refine Ycj ?_|refine Yaw ?_|refine Ybv ?_|refine Yb1 ?_|refine Ycs ?_|refine Ycp ?_|refine Yc6 ?_|refine Yb8 ?_|refine Ydq ?_|refine Zjr rfl rfl rfl rfl hS (by omega) (fun _ hS => ?_))|refine Yef ?_|refine Yej ?_)
  refine Zae (i + 1) ⟨rfl,rfl,rfl,rfl,trivial⟩ ⟨by omega,?_⟩ (by omega)
  rw [show 0 + (i : Int).toNat * 1 = i by omega,show ((i : Int) / 4).toNat * 1 = i / 4 by omega,show (24 - (i : Int) % 4 * 8).toNat = 24 - i % 4 * 8 by omega,hLe] at hS
  exact hS
 ·obtain rfl : i = 32 := by omega
  have hlen : LenO (bv L) 32 := ⟨by simp [hL]⟩
  repeat (first|refine Yeb ?_|refine Yaz ?_|refine Ybi ?_|refine Yb9 (fun _ hS => ?_)|refine Yek ?_|refine Yel ?_)
  exact ⟨by rw [hLe]; rfl,hS.drops⟩

/-! ### one -/
structure StrM where
 H : List Int
 R : List UInt8
 n : Nat
structure StrM.ok (S : StrM) : Prop where
 h8 : S.H.length = 8
 r64 : S.R.length = 64
def StrM.cells (S : StrM) : List Value := ints .u32 S.H ++ (bv S.R ++ [.int .i64 (S.n : Nat)])
def Zbo (fs H : List Int) (n : Nat) : List Int := if n = 0 then fs else H
def StrM.one (rd fs : List Int) (S : StrM) (c : UInt8) : StrM :=
 ⟨if (S.n + 1) % 64 = 0 then Zq8 rd (Zbo fs S.H S.n) (S.R.set (S.n % 64) c) else Zbo fs S.H S.n,S.R.set (S.n % 64) c,S.n + 1⟩
structure Gl (W : World) (F : Nat → Prop) (rd fs : List Int) : Prop where
 round : Ro W F (row (some ⟨2,0,none⟩) (ints .u32 rd))
 first : Ro W F (row (some ⟨1,0,none⟩) (ints .u32 fs))
 round64 : rd.length = 64
 first8 : fs.length = 8
theorem Gl.mono {W w : World} {F F' : Nat → Prop} {rd fs : List Int} (h : Gl W F rd fs) (hw : ∀ r,Ro W F r → Ro w F' r) : Gl w F' rd fs := ⟨hw _ h.round,hw _ h.first,h.round64,h.first8⟩
theorem Ze5 {fs H : List Int} (n : Nat) (h : fs.length = 8) (h' : H.length = 8) : (Zbo fs H n).length = 8 := by unfold Zbo; split <;> assumption
theorem StrM.one_ok {rd fs : List Int} {S : StrM} {c : UInt8} (h : S.ok) (hf : fs.length = 8) : (S.one rd fs c).ok := by
 refine ⟨?_,by simp [StrM.one,h.r64]⟩
 simp only [StrM.one]
 split
 ·rw [Zpi]; exact Ze5 _ hf h.h8
 ·exact Ze5 _ hf h.h8
theorem one_ (s : Nat) (S : StrM) (c : UInt8) (rd fs : List Int) (T : TypeId) (W : World) (F : Nat → Prop) (hok : S.ok) (hn : S.n < 2305843009213693951) (hG : Gl W F rd fs) (hS : St W F [pts s (.cells S.cells.toArray T)] W) :
  Calls Tryz.prog 152 #[.pointer (some ⟨s,0,none⟩),.int .u8 (c.toNat : Int)] W (Ret fun _ w => True ∧ St W F [pts s (.cells (S.one rd fs c).cells.toArray T)] w) := by
 obtain ⟨H,R,n⟩ := S
 obtain ⟨h8,r64⟩ := hok
 unfold StrM.cells at hS
 simp only at h8 r64 hn hS
 have hl1 : LenO (ints .u32 H) 8 := ⟨by rw [ints_length]; exact h8⟩
 have hl2 : LenO (bv R) 64 := ⟨by simp [r64]⟩
 have hl3 : LenO (ints .u32 fs) 8 := ⟨by rw [ints_length]; exact hG.first8⟩
 refine Zab Tryz.func152 rfl Tryz.ntmps152 rfl ?_
 have hc1 : ∀ H',Zbo fs H n = H' → H'.length = 8 := fun H' e => e ▸ Ze5 n hG.first8 h8
 have hend : ∀ H' w,Zbo fs H n = H' → St W F [pts s (.cells (ints .u32 (if (n + 1) % 64 = 0 then Zq8 rd H' (R.set (n % 64) c) else H') ++ (bv (R.set (n % 64) c) ++ [Value.int .i64 ((n + 1 : Nat) : Int)])).toArray T)] w →
   St W F [pts s (.cells (StrM.one rd fs ⟨H,R,n⟩ c).cells.toArray T)] w := fun H' w e h => by
  unfold StrM.one StrM.cells; simp only [e]; exact h
 have ei : ((n : Int) % 64).toNat * 1 = n % 64 := by omega
 by_cases h0 : n = 0
 all_goals by_cases h64 : (n + 1) % 64 = 0
 ·repeat (first|refine Yeb ?_|(refine X_id ?_;first|refine Yaf ?_|refine Yau ?_|refine Yan ?_|refine Ybg ?_|refine Yaq ?_)|refine Yem ?_|refine Yab ?_)
  refine X_yl (Zcy rfl rfl ((hG.first.rd hS).cellsAt rfl) (by rw [ints_length]; exact hG.first8)) rfl rfl ?_
  repeat (first|refine Yeb ?_|refine Yau ?_|refine Yan ?_|refine Yao (fun _ hS _ => ?_)|refine Yae ?_|refine Yab ?_)
  have e1 : Zbo fs H n = fs := by simp [Zbo,h0]
  refine Zao (.s 0 (.s 1 (.s 2 (.s 3 (.s 4 (.s 5 (.s 6 (.s 7 (.s 8 (.s 9 (.h 10 .nil .no))))))))))) mixed (by kernel_rfl) rfl ?_
  have hS := hS.drew
  repeat (first|refine Yeb ?_|(refine X_id ?_;first|refine Yaf ?_|refine Yau ?_|refine Yan ?_|refine Ybg ?_|refine Yaw ?_|refine Yb8 ?_|refine Yaq ?_|refine Ydf (fun _ hS => ?_)|refine Yao (fun _ hS _ => ?_))|refine Yem ?_|refine Yab ?_|(refine Zaf ?_;first|refine Ya2 ?_|refine Ya6 ?_|refine Ybs ?_|refine Ybk ?_|refine Yb3 ?_|refine Ydg ?_|refine Ybn ?_|refine Yax ?_)|(refine Zad ?_;first|refine Yay ?_))
  rw [ei] at hS;refine Zao (.s 0 (.s 1 (.s 2 (.s 3 (.s 4 (.s 5 (.s 6 (.h 7 .nil .no)))))))) mixed (by kernel_rfl) rfl ?_
  have hS := hS.drew
  repeat (first|(refine Zaf ?_;first|refine Ya6 ?_|refine Ybs ?_|refine Ybk ?_|refine Yc7 ?_|refine Yax ?_))
  obtain ⟨_,hc,hr,hw,hbk⟩ := hS.call [true]
  refine Zaa _ rfl rfl rfl rfl rfl (mix_ s fs rd (R.set (n % 64) c) (↑n + 1) T _ _ (hc1 _ e1) (by simp [r64]) hG.round64 (hw _ hG.round) hc) ?_
  rintro _ w ⟨_,hS⟩
  replace hS := hbk hS
  clear hc hr hw hbk;repeat (first|refine Ybu ?_|(refine Zaf ?_;first|refine Ya2 ?_)|(refine Zad ?_;first|refine Yay ?_))
  refine ⟨trivial,hend _ _ e1 ?_⟩
  rw [if_pos h64];exact hS
 ·repeat (first|refine Yeb ?_|(refine X_id ?_;first|refine Yaf ?_|refine Yau ?_|refine Yan ?_|refine Ybg ?_|refine Yaq ?_)|refine Yem ?_|refine Yab ?_)
  refine X_yl (Zcy rfl rfl ((hG.first.rd hS).cellsAt rfl) (by rw [ints_length]; exact hG.first8)) rfl rfl ?_
  repeat (first|refine Yeb ?_|refine Yau ?_|refine Yan ?_|refine Yao (fun _ hS _ => ?_)|refine Yae ?_|refine Yab ?_)
  have e1 : Zbo fs H n = fs := by simp [Zbo,h0]
  refine Zao (.s 0 (.s 1 (.s 2 (.s 3 (.s 4 (.s 5 (.s 6 (.s 7 (.s 8 (.s 9 (.h 10 .nil .no))))))))))) mixed (by kernel_rfl) rfl ?_
  have hS := hS.drew
  repeat (first|refine Yeb ?_|(refine X_id ?_;first|refine Yaf ?_|refine Yau ?_|refine Yan ?_|refine Ybh ?_|refine Yaw ?_|refine Yb8 ?_|refine Yaq ?_|refine Ydf (fun _ hS => ?_)|refine Yao (fun _ hS _ => ?_))|refine Yen ?_|refine Yab ?_|refine Ybu ?_|(refine Zaf ?_;first|refine Ya2 ?_|refine Ya6 ?_|refine Ybs ?_|refine Ybk ?_|refine Yb3 ?_|refine Ydg ?_|refine Ybn ?_|refine Yax ?_)|(refine Zad ?_;first|refine Yay ?_))
  rw [ei] at hS;refine ⟨trivial,hend _ _ e1 ?_⟩
  rw [if_neg h64];exact hS
 ·have e1 : Zbo fs H n = H := by simp [Zbo,h0]
  repeat (first|refine Yeb ?_|(refine X_id ?_;first|refine Yaf ?_|refine Yau ?_|refine Yan ?_|refine Ybh ?_|refine Yaq ?_)|refine Yen ?_|refine Yab ?_)
  refine Zao (.s 0 (.s 1 (.s 2 (.s 3 (.s 4 (.s 5 (.s 6 (.s 7 (.s 8 (.s 9 (.h 10 .nil .no))))))))))) mixed (by kernel_rfl) rfl ?_
  have hS := hS.drew
  repeat (first|refine Yeb ?_|(refine X_id ?_;first|refine Yaf ?_|refine Yau ?_|refine Yan ?_|refine Ybg ?_|refine Yaw ?_|refine Yb8 ?_|refine Yaq ?_|refine Ydf (fun _ hS => ?_)|refine Yao (fun _ hS _ => ?_))|refine Yem ?_|refine Yab ?_|(refine Zaf ?_;first|refine Ya2 ?_|refine Ya6 ?_|refine Ybs ?_|refine Ybk ?_|refine Yb3 ?_|refine Ydg ?_|refine Ybn ?_|refine Yax ?_)|(refine Zad ?_;first|refine Yay ?_))
  rw [ei] at hS;refine Zao (.s 0 (.s 1 (.s 2 (.s 3 (.s 4 (.s 5 (.s 6 (.h 7 .nil .no)))))))) mixed (by kernel_rfl) rfl ?_
  have hS := hS.drew
  repeat (first|(refine Zaf ?_;first|refine Ya6 ?_|refine Ybs ?_|refine Ybk ?_|refine Yc7 ?_|refine Yax ?_))
  obtain ⟨_,hc,hr,hw,hbk⟩ := hS.call [true]
  refine Zaa _ rfl rfl rfl rfl rfl (mix_ s H rd (R.set (n % 64) c) (↑n + 1) T _ _ (hc1 _ e1) (by simp [r64]) hG.round64 (hw _ hG.round) hc) ?_
  rintro _ w ⟨_,hS⟩
  replace hS := hbk hS
  clear hc hr hw hbk;repeat (first|refine Ybu ?_|(refine Zaf ?_;first|refine Ya2 ?_)|(refine Zad ?_;first|refine Yay ?_))
  refine ⟨trivial,hend _ _ e1 ?_⟩
  rw [if_pos h64];exact hS
 ·have e1 : Zbo fs H n = H := by simp [Zbo,h0]
  repeat (first|refine Yeb ?_|(refine X_id ?_;first|refine Yaf ?_|refine Yau ?_|refine Yan ?_|refine Ybh ?_|refine Yaq ?_)|refine Yen ?_|refine Yab ?_)
  refine Zao (.s 0 (.s 1 (.s 2 (.s 3 (.s 4 (.s 5 (.s 6 (.s 7 (.s 8 (.s 9 (.h 10 .nil .no))))))))))) mixed (by kernel_rfl) rfl ?_
  have hS := hS.drew
  repeat (first|refine Yeb ?_|(refine X_id ?_;first|refine Yaf ?_|refine Yau ?_|refine Yan ?_|refine Ybh ?_|refine Yaw ?_|refine Yb8 ?_|refine Yaq ?_|refine Ydf (fun _ hS => ?_)|refine Yao (fun _ hS _ => ?_))|refine Yen ?_|refine Yab ?_|refine Ybu ?_|(refine Zaf ?_;first|refine Ya2 ?_|refine Ya6 ?_|refine Ybs ?_|refine Ybk ?_|refine Yb3 ?_|refine Ydg ?_|refine Ybn ?_|refine Yax ?_)|(refine Zad ?_;first|refine Yay ?_))
  rw [ei] at hS;refine ⟨trivial,hend _ _ e1 ?_⟩
  rw [if_neg h64];exact hS
end Cr
namespace Go.Proofs.YtjpjbgkjfdhjjaaGreatDoor
open Go.ChangeShapes Go.WideShapes Go.ChangeAt Go.RowKit
set_option maxRecDepth 100000
def Z7z : List Int := [0,1,28,2,29,14,24,3,30,22,20,15,25,17,4,8,31,27,13,23,21,19,16,7,26,12,18,6,11,5,10,9]
def Z7y : List Int := [0,1,56,2,57,49,28,3,61,58,42,50,38,29,17,4,62,47,59,36,45,43,51,22,53,39,33,30,24,18,12,5,63,55,48,27,60,41,37,16,46,35,44,21,52,32,23,11,54,26,40,15,34,20,31,10,25,14,19,9,13,8,7,6]
def Zv2 : List UInt8 := [118,97,108,117,101,32,111,117,116,32,111,102,32,114,97,110,103,101]
def Ztn : List UInt8 := [105,110,118,97,108,105,100,32,115,121,110,116,97,120]
theorem Zxd : "*" ++ "errors.errorString" = "*errors.errorString" := by decide
theorem Z6z (u : TypeId) (h : Tryz.prog.typeName? 3 u = some "*errors.errorString") : u = 414 :=
 typeName_ptr_named (nm := "errors.errorString") (by rw [Zxd]; kernel_rfl) (by kernel_rfl) (by decide) u (by rw [Zxd]; exact h)
noncomputable def Zse : Nat := (World.holding Tryz.prog default ⟨#[],#[],[]⟩).heap.size
def u8s (l : List Int) : List Value := l.map fun n => Value.int .u8 n
noncomputable def Zwn (os : Os) : World :=
 let w0 := World.holding Tryz.prog os ⟨#[.cells #[.string (Cr.str Zv2)] 416,.cells #[.string (Cr.str Ztn)] 416],#[],[]⟩
 { w0 with heap := ((((((w0.heap.modify 4 (tabOf (u8s Z7z))).modify 5 (tabOf (u8s Z7y))).modify 3 (tabOf (Lib.pow10Tab.map fun z => Value.int .u64 z))).modify 7 (tabOf [.iface 414 (.pointer (some ⟨Zse,0,none⟩))])).modify 6 (tabOf [.iface 414 (.pointer (some ⟨Zse + 1,0,none⟩))])).modify 2 (tabOf (Cr.ints .u32 Cr.roundL))).modify 1 (tabOf (Cr.ints .u32 Cr.firstL)) }
theorem Zqw {W : World} (h1 : Lib.TabIs Tryz.prog W "creel/digest.round" .u32 Cr.roundL) (h2 : Lib.TabIs Tryz.prog W "creel/digest.first" .u32 Cr.firstL) : Cr.Gl W Cr.noF Cr.roundL Cr.firstL := by
 refine ⟨(Cr.Rd.ofCells (fun i v hv => ?_) (by simp [Cr.ints,Cr.roundL])).ro,(Cr.Rd.ofCells (fun i v hv => ?_) (by simp [Cr.ints,Cr.firstL])).ro,rfl,rfl⟩
 ·have hi : i < Cr.roundL.length := by
   rcases Nat.lt_or_ge i Cr.roundL.length with h | h
   ·exact h
   ·rw [List.getElem?_eq_none (by rw [Cr.ints_length]; omega)] at hv; cases hv
  rw [Cr.ints_get hi] at hv;rw [← Option.some.inj hv];exact h1.cell (by kernel_rfl) i hi
 ·have hi : i < Cr.firstL.length := by
   rcases Nat.lt_or_ge i Cr.firstL.length with h | h
   ·exact h
   ·rw [List.getElem?_eq_none (by rw [Cr.ints_length]; omega)] at hv; cases hv
  rw [Cr.ints_get hi] at hv;rw [← Option.some.inj hv];exact h2.cell (by kernel_rfl) i hi
end Go.Proofs.YtjpjbgkjfdhjjaaGreatDoor
namespace Cr
open Go Go.Proofs
set_option maxRecDepth 100000
set_option maxHeartbeats 64000000

structure DiskM where
 off : Bool
 armed : Bool
 left : Int
 laid : List (List UInt8)
 line : List (Int × List UInt8)
 writes : Int
 flushes : Int
structure DiskM.ok (D : DiskM) : Prop where
 laid64 : ∀ s ∈ D.laid,s.length = 64
 line64 : ∀ x ∈ D.line,x.2.length = 64 ∧ 0 ≤ x.1 ∧ x.1 < D.laid.length
 some_ : 1 ≤ D.laid.length
 most : D.laid.length ≤ 4096
 left0 : 0 ≤ D.left
 left1 : D.left ≤ 9223372036854775807
def Zba (l : List (List UInt8)) : List Value := l.flatMap bv
def Za8 (l : List (Int × List UInt8)) : List Value := l.flatMap fun x => .int .i64 x.1 :: bv x.2
def disk (p : Nat) (D : DiskM) : Res := fun h => D.ok ∧ ∃ al cl ai ci,D.laid.length ≤ cl ∧ D.line.length ≤ ci ∧
 Sep [pts p (.cells #[.bool D.off,.bool D.armed,.int .i64 D.left,.slice al D.laid.length cl,.slice ai D.line.length ci,.int .i64 D.writes,.int .i64 D.flushes] 136),
  own 285 64 al cl (Zba D.laid),own 287 65 ai ci (Za8 D.line)] h

theorem St.shutR {W : World} {F : Nat → Prop} {r : Res} {rs rs' : List Res} {w : World} (hS : St W F (rs' ++ rs) w) (hr : ∀ h,Sep rs' h → r h) : St W F (r :: rs) w :=
 hS.imp fun h hh => by
  obtain ⟨h1,h2,a,b,c,d⟩ := Sep.append hh
  exact ⟨h1,h2,hr _ a,b,c,d⟩
/-! ### On,Sectors,has,use -/
theorem Rd.disk {w : World} {p : Nat} {D : DiskM} (h : Rd w (disk p D)) : D.ok ∧ ∃ al cl ai ci,D.laid.length ≤ cl ∧ D.line.length ≤ ci ∧
  w.heap[p]? = some (.cells #[.bool D.off,.bool D.armed,.int .i64 D.left,.slice al D.laid.length cl,.slice ai D.line.length ci,.int .i64 D.writes,.int .i64 D.flushes] 136) ∧
  Rd w (row al (Zba D.laid)) ∧ Rd w (row ai (Za8 D.line)) := by
 obtain ⟨f,⟨hok,al,cl,ai,ci,h1,h2,hs⟩,ha⟩ := h
 have hr := Rd.sep ⟨f,hs,ha⟩
 exact ⟨hok,al,cl,ai,ci,h1,h2,(hr _ (by simp)).pts,(hr _ (List.mem_cons_of_mem _ (List.mem_cons_self ..))).own_row,(hr _ (List.mem_cons_of_mem _ (List.mem_cons_of_mem _ (List.mem_cons_self ..)))).own_row⟩
theorem on_ (p : Nat) (D : DiskM) (W : World) (hd : Rd W (disk p D)) :
  Calls Tryz.prog 56 #[.pointer (some ⟨p,0,none⟩)] W (Ret fun v w => v = .bool (!D.off) ∧ W = w) := by
 obtain ⟨_,al,cl,ai,ci,_,_,hc,_,_⟩ := hd.disk
 have hS := St.start W
 refine Zab Tryz.func56 rfl Tryz.ntmps56 rfl ?_
 repeat (first|refine Yes ?_|(refine X_id ?_;first|refine Yaf ?_|refine Yag ?_|refine Yau ?_|refine Yan ?_|refine Ya9 ?_|refine X_yl (Znr rfl rfl) rfl rfl ?_|refine X_yl (Zgh rfl rfl rfl) rfl rfl ?_|refine Yb5 ?_)|refine Yep ?_|refine Yed ?_)
 exact ⟨rfl,rfl⟩
theorem Zmu (p : Nat) (D : DiskM) (W : World) (hd : Rd W (disk p D)) :
  Calls Tryz.prog 57 #[.pointer (some ⟨p,0,none⟩)] W (Ret fun v w => v = .int .i64 (D.laid.length : Nat) ∧ W = w) := by
 obtain ⟨_,al,cl,ai,ci,_,_,hc,_,_⟩ := hd.disk
 have hS := St.start W
 refine Zab Tryz.func57 rfl Tryz.ntmps57 rfl ?_
 repeat (first|refine Yeb ?_|(refine X_id ?_;first|refine Yaf ?_|refine Yag ?_|refine Yau ?_|refine Yan ?_|refine Yat ?_|refine Ybt ?_|refine Yb5 ?_)|refine Ye1 ?_|refine Yed ?_)
 exact ⟨rfl,rfl⟩
def Zc9 (D : DiskM) (no : Int) : Bool := decide (0 ≤ no ∧ no < D.laid.length)
theorem has_ (p : Nat) (D : DiskM) (no : Int) (W : World) (hd : Rd W (disk p D)) :
  Calls Tryz.prog 159 #[.pointer (some ⟨p,0,none⟩),.int .i64 no] W (Ret fun v w => v = .bool (Zc9 D no) ∧ W = w) := by
 by_cases h : 0 ≤ no
 ·refine Zab Tryz.func159 rfl Tryz.ntmps159 rfl ?_
  repeat (first|refine Yes ?_|refine Yaf ?_|refine Yag ?_|refine Yb2 ?_|refine Yec ?_|refine Yab ?_)
  refine Zaa _ rfl rfl rfl rfl rfl (Zmu p D W hd) ?_
  rintro _ _ ⟨rfl,rfl⟩
  repeat (first|refine Yes ?_|(refine X_id ?_;first|refine Yag ?_|refine Ya9 ?_|refine X_yl (Zps rfl rfl rfl) rfl rfl ?_)|refine Yah ?_|refine Yed ?_)
  exact ⟨by simp [Zc9,h],rfl⟩
 ·refine Zab Tryz.func159 rfl Tryz.ntmps159 rfl ?_
  repeat (first|refine Yev ?_|refine Yaf ?_|refine Yag ?_|refine Ya7 ?_|refine Yb6 ?_|refine Yep ?_|refine Yed ?_)
  exact ⟨by simp [Zc9,h],rfl⟩

/-! ### power -/
def useB (off armed : Bool) (left : Int) : Bool := !off && (!armed || decide (¬ left = 0))
def Zoc (off armed : Bool) (left : Int) : Bool := off || (armed && decide (left = 0))
def Zmm (off armed : Bool) (left : Int) : Int := if off = false ∧ armed = true ∧ ¬ left = 0 then left - 1 else left
theorem use_ (p : Nat) (off armed : Bool) (left : Int) (r : List Value) (T : TypeId) (W : World) (F : Nat → Prop) (h0 : 0 ≤ left) (h1 : left ≤ 9223372036854775807)
  (hS : St W F [pts p (.cells (.bool off :: .bool armed :: .int .i64 left :: r).toArray T)] W) :
  Calls Tryz.prog 199 #[.pointer (some ⟨p,0,none⟩)] W (Ret fun v w => v = .bool (useB off armed left) ∧
   St W F [pts p (.cells (.bool (Zoc off armed left) :: .bool armed :: .int .i64 (Zmm off armed left) :: r).toArray T)] w) := by
 cases off
 ·cases armed
  ·refine Zab Tryz.func199 rfl Tryz.ntmps199 rfl ?_
   repeat (first|refine Yeb ?_|(refine X_id ?_;first|refine Yaf ?_|refine Yag ?_|refine Yau ?_|refine Yan ?_|refine Ybo ?_|refine Yaq ?_)|refine Yew ?_|refine Yex ?_)
   exact ⟨rfl,hS⟩
  ·by_cases h : left = 0
   ·subst h
    refine Zab Tryz.func199 rfl Tryz.ntmps199 rfl ?_
    repeat (first|refine Yeb ?_|(refine X_id ?_;first|refine Yaf ?_|refine Yag ?_|refine Yau ?_|refine Yan ?_|refine Ybb ?_|refine Ybg ?_|refine Yaq ?_|refine Yao (fun _ hS _ => ?_))|refine Yew ?_|refine Yex ?_)
    exact ⟨rfl,hS⟩
   ·refine Zab Tryz.func199 rfl Tryz.ntmps199 rfl ?_
    repeat (first|refine Yeb ?_|(refine X_id ?_;first|refine Yaf ?_|refine Yag ?_|refine Yau ?_|refine Yan ?_|refine Ybb ?_|refine Ybh ?_|refine Ybv ?_|refine Yaq ?_|refine Yao (fun _ hS _ => ?_))|refine Ye2 ?_|refine Yab ?_|refine Yas ?_|refine Yam ?_)
    exact ⟨by simp [useB,h],by simpa [Zoc,Zmm,h] using hS⟩
 ·refine Zab Tryz.func199 rfl Tryz.ntmps199 rfl ?_
  repeat (first|refine Yeb ?_|(refine X_id ?_;first|refine Yaf ?_|refine Yag ?_|refine Yau ?_|refine Yan ?_|refine Yaq ?_)|refine Yez ?_|refine Yex ?_)
  exact ⟨rfl,hS⟩
/-! ### New -/
def zero64 : List UInt8 := List.replicate 64 0
def Zbb (n : Nat) : DiskM := { off := false,armed := false,left := 0,laid := List.replicate n zero64,line := [],writes := 0,flushes := 0 }
theorem Zt5 {n : Nat} (h : 1 ≤ n) (h' : n ≤ 4096) : (Zbb n).ok := by
 refine ⟨fun s hs => ?_,fun x hx => by simp [Zbb] at hx,by simpa [Zbb] using h,by simpa [Zbb] using h',by simp [Zbb],by simp [Zbb]⟩
 simp [Zbb] at hs; rw [hs.2]; simp [zero64]
theorem Zdz (n : Nat) : Zba (List.replicate n zero64) = List.replicate (n * 64) (.int .u8 0) := by
 induction n with
 | zero => rfl
 | succ n ih =>
  have e : bv zero64 = List.replicate 64 (.int .u8 0) := by simp [bv,zero64]
  have : Zba (List.replicate (n + 1) zero64) = bv zero64 ++ Zba (List.replicate n zero64) := by simp [Zba,List.replicate_succ]
  rw [this,ih,e,List.replicate_append_replicate]
  congr 1; omega
theorem Zkf (m n : Nat) : madeCells (List.replicate m (Value.int .u8 0)).toArray n = (List.replicate n (if m = 0 then default else Value.int .u8 0)).toArray := by
 apply Array.ext
 ·simp [madeCells]
 ·intro i h1 h2
  simp only [madeCells,Array.getElem_map,Array.getElem_range,List.size_toArray,List.length_replicate]
  by_cases hm : m = 0
  ·subst hm; simp
  ·have : i % m < m := Nat.mod_lt _ (by omega)
   simp [hm,this]
theorem new_ (n : Nat) (W : World) (h1 : 1 ≤ n) (h2 : n ≤ 4096) : Calls Tryz.prog 23 #[.int .i64 (n : Int)] W (Ret fun v w => ∃ p,v = .tuple #[.pointer (some ⟨p,0,none⟩),.int .i64 0] ∧ St W noF [disk p (Zbb n)] w) := by
 have hS := St.start W
 refine Zab Tryz.func23 rfl Tryz.ntmps23 rfl ?_
 repeat (first|refine Yes ?_|(refine X_id ?_;first|refine Yaf ?_|refine Yag ?_|refine Ya7 ?_|refine Yaz ?_|refine Ybr ?_)|refine Yen ?_|refine Yab ?_)
 refine Zyc rfl rfl rfl (by omega) (by omega) (by omega) (by omega) rfl rfl hS (fun al w hS _ => ?_)
 repeat (first|refine Yeb ?_|refine Yag ?_|refine Ybm ?_|refine Yba (fun _ _ hS _ => ?_)|refine Yah ?_|refine Ye0 ?_)
 refine ⟨_,rfl,?_⟩
 have e : madeCells (Value.agg (List.replicate 64 (Value.int .u8 0)).toArray).cells ((n : Int).toNat * 64) = (Zba (Zbb n).laid).toArray := by
  show madeCells (List.replicate 64 (Value.int .u8 0)).toArray _ = _
  rw [Zkf,Zbb,Zdz]; simp
 rw [e] at hS;have hl : (Zba (Zbb n).laid).length = n * 64 := by rw [Zbb,Zdz]; simp
 have hS := ((hS.second (Zbi (c := n) (cs := Zba (Zbb n).laid) hl (by simp only [maxLen]; omega) (by simp))).own_none 287 65 none).sel [false,true,true]
 refine St.shutR (rs' := [_,_,_]) (rs := []) hS fun h hh => ⟨Zt5 h1 h2,some ⟨al,0,none⟩,n,none,0,by simp [Zbb],by simp [Zbb],?_⟩
 have el : (Zbb n).laid.length = n := by simp [Zbb]
 rw [el];exact hh

/-! ### slices.Clone at bytes -/
theorem Z64 (a : Option Addr) (n c : Nat) (s : List UInt8) (W : World) (hs : Rd W (bytes a s)) (hn : s.length = n) (hlim : n ≤ 1073741824) :
  Calls Tryz.prog 161 #[.slice a n c] W (Ret fun v w => ∃ a' c',v = .slice a' n c' ∧ (a' = none ↔ a = none) ∧ n ≤ c' ∧ St W noF [own 5 1 a' c' (bv s)] w) := by
 have hS := St.start W
 cases a with
 | none =>
  have h0 : bv s = [] := hs.none_nil
  obtain rfl : n = 0 := by rw [← hn,← Zak s,h0]; rfl
  refine Zab Tryz.func161 rfl Tryz.ntmps161 rfl ?_
  repeat (first|refine Yeb ?_|refine Yaf ?_|refine Yag ?_|refine Ycu ?_|refine Yet ?_|refine Yeu ?_)
  refine ⟨none,0,rfl,by simp,by omega,?_⟩
  rw [h0];exact hS.own_none _ _ _
 | some ad =>
  refine Zab Tryz.func161 rfl Tryz.ntmps161 rfl ?_
  repeat (first|refine Yeb ?_|refine Yaf ?_|refine Yag ?_|refine Ycu ?_|refine Ybe (fun _ _ hS _ => ?_)|refine Yen ?_|refine Yab ?_)
  rename_i b w hb;have hs := hs.below hb
  repeat (first|fail)
  refine Zas rfl rfl rfl rfl rfl hS rfl (by omega) hs (by simp [hn]) Zdb (by omega) (by simp only [maxLen]; omega) (fun a' c' w hS hc hnil => ?_)
  repeat (first|refine Yeb ?_|refine Yag ?_|refine Yah ?_|refine Yed ?_)
  refine ⟨a',c',by rw [Nat.zero_add],by rw [hnil]; simp,by omega,hS⟩
theorem Z1q (b off : Nat) (x y : Int) (l l' : List Value) (T : TypeId) (W : World) (F : Nat → Prop) [hn : Nth l off (.int .i64 x)] [hs : Spl l off [.int .i64 (IntKind.i64.wrap (x + y))] l'] (hS : St W F [pts b (.cells l.toArray T)] W) :
  Calls Tryz.prog 200 #[.pointer (some ⟨b,off,none⟩),.int .i64 y] W (Ret fun v w => v = .int .i64 (IntKind.i64.wrap (x + y)) ∧ St W F [pts b (.cells l'.toArray T)] w) := by
 refine Zab Tryz.func200 rfl Tryz.ntmps200 rfl ?_
 repeat (first|refine Yeb ?_|(refine X_id ?_;first|refine Yaf ?_|refine Yag ?_|refine Yau ?_|refine Yby ?_|refine Z1t rfl rfl rfl rfl rfl rfl hS (fun _ hS => ?_))|refine Yep ?_|refine Yed ?_)
 exact ⟨rfl,hS⟩

def DiskM.used (D : DiskM) : DiskM := { D with off := Zoc D.off D.armed D.left,left := Zmm D.off D.armed D.left }
def DiskM.write (D : DiskM) (no : Int) (b : List UInt8) : Int × DiskM :=
 if D.off then (9,D) else if Zc9 D no = false ∨ b.length ≠ 64 then (1,D) else if useB D.off D.armed D.left = false then (9,D.used)
 else (0,{ D.used with line := D.line ++ [(no,b)],writes := IntKind.i64.wrap (D.writes + 1) })
theorem DiskM.write_use {D : DiskM} {no : Int} {b : List UInt8} (h : D.off = false) (hin : Zc9 D no = true) (hb : b.length = 64) (hu : useB D.off D.armed D.left = false) : D.write no b = (9,D.used) := by
 unfold DiskM.write
 rw [if_neg (by simp [h]),if_neg (by simp [hin,hb]),if_pos hu]
theorem DiskM.write_yes {D : DiskM} {no : Int} {b : List UInt8} (h : D.off = false) (hin : Zc9 D no = true) (hb : b.length = 64) (hu : useB D.off D.armed D.left = true) : D.write no b = (0,{ D.used with line := D.line ++ [(no,b)],writes := IntKind.i64.wrap (D.writes + 1) }) := by
 unfold DiskM.write
 rw [if_neg (by simp [h]),if_neg (by simp [hin,hb]),if_neg (by simp [hu])]
theorem DiskM.used_ok {D : DiskM} (h : D.ok) : D.used.ok := by
 obtain ⟨h1,h2,h3,h4,h5,h6⟩ := h
 refine ⟨h1,h2,h3,h4,?_,?_⟩ <;> simp only [DiskM.used,Zmm] <;> split <;> omega
theorem DiskM.line_ok {D : DiskM} (h : D.ok) {no : Int} {b : List UInt8} {wr : Int} (hn : Zc9 D no = true) (hb : b.length = 64) : ({ D with line := D.line ++ [(no,b)],writes := wr } : DiskM).ok := by
 obtain ⟨h1,h2,h3,h4,h5,h6⟩ := h
 refine ⟨h1,fun x hx => ?_,h3,h4,h5,h6⟩
 simp only [List.mem_append,List.mem_singleton] at hx
 rcases hx with hx | rfl
 ·exact h2 x hx
 ·have : 0 ≤ no ∧ no < D.laid.length := by simpa [Zc9] using hn
  exact ⟨hb,this.1,this.2⟩
theorem St.openDisk {W : World} {F : Nat → Prop} {p : Nat} {D : DiskM} {rs : List Res} {w : World} (hS : St W F (disk p D :: rs) w) : D.ok ∧ ∃ al cl ai ci,D.laid.length ≤ cl ∧ D.line.length ≤ ci ∧
  St W F (pts p (.cells #[.bool D.off,.bool D.armed,.int .i64 D.left,.slice al D.laid.length cl,.slice ai D.line.length ci,.int .i64 D.writes,.int .i64 D.flushes] 136) ::
   own 285 64 al cl (Zba D.laid) :: own 287 65 ai ci (Za8 D.line) :: rs) w := by
 obtain ⟨h,⟨h1,h2,⟨hok,al,cl,ai,ci,c1,c2,hs⟩,hr,hd,hu⟩,s⟩ := hS
 exact ⟨hok,al,cl,ai,ci,c1,c2,h,Sep.append_mk (rs := [_,_,_]) hs hr hd hu,s⟩
theorem St.shutDisk {W : World} {F : Nat → Prop} {p : Nat} {D : DiskM} {rs : List Res} {w : World} {al ai : Option Addr} {cl ci : Nat} (hok : D.ok) (c1 : D.laid.length ≤ cl) (c2 : D.line.length ≤ ci)
  (hS : St W F (pts p (.cells #[.bool D.off,.bool D.armed,.int .i64 D.left,.slice al D.laid.length cl,.slice ai D.line.length ci,.int .i64 D.writes,.int .i64 D.flushes] 136) ::
   own 285 64 al cl (Zba D.laid) :: own 287 65 ai ci (Za8 D.line) :: rs) w) : St W F (disk p D :: rs) w :=
 St.shutR (rs' := [_,_,_]) (rs := rs) hS fun _ hh => ⟨hok,al,cl,ai,ci,c1,c2,hh⟩
theorem Zjc (l m : List (Int × List UInt8)) : Za8 (l ++ m) = Za8 l ++ Za8 m := by simp [Za8]
theorem Zdd {l : List (Int × List UInt8)} (h : ∀ x ∈ l,x.2.length = 64) : (Za8 l).length = l.length * 65 := by
 induction l with
 | nil => rfl
 | cons x l ih =>
  have := ih fun y hy => h y (List.mem_cons_of_mem _ hy)
  have h0 := h x (List.mem_cons_self ..)
  simp only [Za8,List.flatMap_cons,List.length_append,List.length_cons,Zak,h0] at this ⊢
  omega
theorem Zde {l : List (List UInt8)} (h : ∀ x ∈ l,x.length = 64) : (Zba l).length = l.length * 64 := by
 induction l with
 | nil => rfl
 | cons x l ih =>
  have := ih fun y hy => h y (List.mem_cons_of_mem _ hy)
  have h0 := h x (List.mem_cons_self ..)
  simp only [Zba,List.flatMap_cons,List.length_append,List.length_cons,Zak,h0] at this ⊢
  omega

theorem Z2x {k : IntKind} {n : Int} {l : List Value} (h : ∀ u ∈ l,u.oneCell' = true) : ∀ u ∈ Value.int k n :: l,u.oneCell' = true := fun u hu => by
 rcases List.mem_cons.mp hu with rfl | hu
 ·rfl
 ·exact h u hu
theorem Z4b (p : Nat) (D : DiskM) (no : Int) (a : Option Addr) (n c : Nat) (b : List UInt8) (W : World) (F : Nat → Prop) (hS : St W F [disk p D] W) (hb : Ro W F (bytes a b)) (hn : b.length = n) (hline : D.line.length < 1073741824) :
  Calls Tryz.prog 166 #[.pointer (some ⟨p,0,none⟩),.int .i64 no,.slice a n c] W (Ret fun v w => v = .int .i64 (D.write no b).1 ∧ St W F [disk p (D.write no b).2] w) := by
 have hd := hS.rd (List.mem_cons_self ..)
 cases hoff : D.off
 ·have hon := on_ p D W hd
  rw [hoff] at hon;cases hin : Zc9 D no
  ·have hhas := has_ p D no W hd
   rw [hin] at hhas;refine Zab Tryz.func166 rfl Tryz.ntmps166 rfl ?_
   repeat (first|refine Yev ?_|(refine X_id ?_;first|(refine Zaa 56 rfl rfl rfl rfl rfl hon ?_;rintro _ _ ⟨rfl,rfl⟩)|(refine Zaa 159 rfl rfl rfl rfl rfl hhas ?_;rintro _ _ ⟨rfl,rfl⟩)|refine Yaf ?_|refine Yag ?_|refine Ya9 ?_|refine Ybb ?_|refine Ybo ?_)|refine Yew ?_|refine Yex ?_)
   refine ⟨by simp [DiskM.write,hoff,hin],by simpa [DiskM.write,hoff,hin] using hS⟩
  ·have hhas := has_ p D no W hd
   rw [hin] at hhas;by_cases hb64 : b.length = 64
   ·have hn64 : n = 64 := by omega
    subst hn64
    obtain ⟨hok,al,cl,ai,ci,c1,c2,hS⟩ := hS.openDisk
    have hbr := hb.start
    obtain ⟨bb,bo,rfl⟩ := hbr.base (fun e => by rw [← Zak,e] at hb64; cases hb64)
    have hcells := hbr.cellsAt rfl
    have hlc : LenIs (bv b) 64 := ⟨by simp [hb64]⟩
    cases huse : useB D.off D.armed D.left
    ·refine Zab Tryz.func166 rfl Tryz.ntmps166 rfl ?_
     repeat (first|refine Yes ?_|(refine X_id ?_;first|(refine Zaa 56 rfl rfl rfl rfl rfl hon ?_;rintro _ _ ⟨rfl,rfl⟩)|(refine Zaa 159 rfl rfl rfl rfl rfl hhas ?_;rintro _ _ ⟨rfl,rfl⟩)|refine Yaf ?_|refine Yag ?_|refine Yau ?_|refine Yan ?_|refine Ya7 ?_|refine Ybb ?_|refine Yat ?_|refine Ybc ?_)|refine Yey ?_|refine Yab ?_)
     obtain ⟨_,hc,hr,hw,hbk⟩ := hS.call [true,false,false]
     refine Zaa _ rfl rfl rfl rfl rfl (use_ p D.off D.armed D.left _ _ _ _ hok.left0 hok.left1 hc) ?_
     rintro _ w ⟨rfl,hS⟩
     replace hS := hbk hS
     clear hc hr hw hbk;rw [huse];repeat (first|refine Yeb ?_|refine Yag ?_|refine Ybo ?_|refine Yet ?_|refine Yex ?_)
     rw [DiskM.write_use hoff hin hb64 huse];exact ⟨rfl,St.shutDisk (DiskM.used_ok hok) c1 c2 hS⟩
    ·refine Zab Tryz.func166 rfl Tryz.ntmps166 rfl ?_
     repeat (first|refine Yes ?_|(refine X_id ?_;first|(refine Zaa 56 rfl rfl rfl rfl rfl hon ?_;rintro _ _ ⟨rfl,rfl⟩)|(refine Zaa 159 rfl rfl rfl rfl rfl hhas ?_;rintro _ _ ⟨rfl,rfl⟩)|refine Yaf ?_|refine Yag ?_|refine Yau ?_|refine Yan ?_|refine Ya7 ?_|refine Ybb ?_|refine Yat ?_|refine Ybc ?_)|refine Yey ?_|refine Yab ?_)
     obtain ⟨_,hc,hr,hw,hbk⟩ := hS.call [true,false,false]
     refine Zaa _ rfl rfl rfl rfl rfl (use_ p D.off D.armed D.left _ _ _ _ hok.left0 hok.left1 hc) ?_
     rintro _ w ⟨rfl,hS⟩
     replace hS := hbk hS
     clear hc hr hw hbk;rw [huse];repeat (first|refine Yeb ?_|refine Yag ?_|refine Ybb ?_|refine Yae ?_|refine Yal ?_|refine Yai ?_|refine Yej ?_)
     have hcells : CellsAt w.drew ⟨bb,bo,none⟩ (bv b) := (hb.rd hS).cellsAt rfl
     refine Zao (.s 0 (.s 1 (.s 2 (.s 3 (.s 4 (.s 5 (.s 6 (.s 7 (.s 8 (.s 9 (.h 10 (.h 11 (.s 12 (.s 13 (.h 14 .nil .no))) .no) .no))))))))))) mixed (by kernel_rfl) rfl ?_
     have hS := hS.drew
     repeat (first|refine Ybe (fun _ _ hS _ => ?_)|(refine Zaf ?_;first|refine Ya6 ?_|refine Ybs ?_|refine Ybk ?_|refine Ycd ?_|refine Zai rfl rfl (fun _ => Zu2 rfl rfl (by omega)) rfl rfl ?_|refine Ybn ?_|refine Zbp (fun w' => CellsAt w' _ _) rfl rfl (by assumption) (fun _ hc => Zcy rfl rfl hc (by simp;omega)) rfl rfl ?_|refine Yax ?_)|(refine Zad ?_;first|refine Yay ?_))
     refine Zas rfl rfl rfl rfl rfl hS (Zdd fun x hx => (hok.line64 x hx).1) c2 (hS.rd (List.mem_cons_self ..)).own_row (by simp [hb64]) (Z2x Zdb) (by omega) (by simp only [maxLen]; omega) (fun a' c' w hS hc hnil => ?_)
     repeat (first|refine Yaa ?_|refine Yaf ?_|refine Yau ?_|refine Yan ?_|refine Yao (fun _ hS _ => ?_)|refine Yec ?_|refine Yab ?_|(refine Zaf ?_;first|refine Ya2 ?_|refine Ybs ?_|refine Ybk ?_|refine Yax ?_)|(refine Zad ?_;first|refine Yay ?_))
     obtain ⟨_,hc,hr,hw,hbk⟩ := hS.call [false,false,true,false]
     refine Zaa _ rfl rfl rfl rfl rfl (Z1q p 5 D.writes 1 _ _ _ _ _ hc) ?_
     rintro _ w ⟨rfl,hS⟩
     replace hS := hbk hS
     clear hc hr hw hbk;repeat (first|refine Yeb ?_|refine Yag ?_|refine Yep ?_|refine Yed ?_)
     rw [DiskM.write_yes hoff hin hb64 huse];have hok' := DiskM.line_ok (wr := IntKind.i64.wrap (D.writes + 1)) (DiskM.used_ok hok) (no := no) (b := b) hin hb64
     refine ⟨rfl,St.shutDisk (al := al) (ai := a') hok' c1 (show (D.line ++ [(no,b)]).length ≤ c' by simpa using hc) ?_⟩
     have hS := hS.pick [0,2,0]
     show St W F [pts p (.cells #[_,_,_,_,.slice a' ((D.line ++ [(no,b)]).length : Nat) c',_,_] 136),_,own _ _ _ _ (Za8 (D.line ++ [(no,b)]))] w
     rw [Zjc,List.length_append]
     simpa [Za8,DiskM.used] using hS
   ·refine Zab Tryz.func166 rfl Tryz.ntmps166 rfl ?_
    repeat (first|refine Yes ?_|(refine X_id ?_;first|(refine Zaa 56 rfl rfl rfl rfl rfl hon ?_;rintro _ _ ⟨rfl,rfl⟩)|(refine Zaa 159 rfl rfl rfl rfl rfl hhas ?_;rintro _ _ ⟨rfl,rfl⟩)|refine Yaf ?_|refine Yag ?_|refine Ya7 ?_|refine Ybb ?_|refine Yat ?_|refine Ybj ?_)|refine Yew ?_|refine Yex ?_)
    refine ⟨by simp [DiskM.write,hoff,hin,hb64],by simpa [DiskM.write,hoff,hin,hb64] using hS⟩
 ·have hon := on_ p D W hd
  rw [hoff] at hon;refine Zab Tryz.func166 rfl Tryz.ntmps166 rfl ?_
  repeat (first|refine Yeb ?_|(refine X_id ?_;first|(refine Zaa 56 rfl rfl rfl rfl rfl hon ?_;rintro _ _ ⟨rfl,rfl⟩)|refine Yaf ?_|refine Yag ?_|refine Ybo ?_)|refine Yez ?_|refine Yex ?_)
  exact ⟨by simp [DiskM.write,hoff],by simpa [DiskM.write,hoff] using hS⟩
theorem Zje (l bx n c : Nat) (a : Option Addr) (cs : List Value) (w : World) (T : TypeId) (hn : n ≤ 4611686018427387904) (hcs : cs.length = n * 65) (Inv : Nat → World → Prop) (Stop : World → Prop)
  (hbx : ∀ k w,Inv k w → w.heap[bx]? = some (.cells #[.slice a n c] T)) (hrow : ∀ k w,Inv k w → Rd w (row a cs)) (hl : ∀ k w,Inv k w → ∃ r : Loop,r.params.size = 2 ∧ w.heap[l]? = some (.loop r) ∧ (k ≠ 0 →
   RoundIn Fence.wide 0 Tryz.prog l r.fn ((r.params.zip #[.int .i64 ((k - 1 : Nat) : Int),.agg ((cs.drop ((k - 1) * 65)).take 65).toArray]).foldl (fun tmps (t,a) => tmps.setIfInBounds t a) r.tmps) r.assign r.body w
    (Ret fun v w' => (v = .bool true ∧ Inv (k - 1) w') ∨ (v = .bool false ∧ Stop w')))) (h0 : Inv n w) :
  CallsIn Fence.wide 0 Tryz.prog 198 #[.func (.yield l) #[] #[],.pointer (some ⟨bx,0,none⟩)] w (Ret fun _ w' => Inv 0 w' ∨ Stop w') := by
 refine callsIn_wide.2 ?_
 have hb := hbx _ _ h0
 refine Zab Tryz.func198 rfl Tryz.ntmps198 rfl ?_
 repeat (first|refine Yeb ?_|refine Yag ?_|refine Yat ?_|refine Ybv ?_|refine Yb5 ?_|refine Yee ?_|refine Yab ?_)
 refine Zaj (α := Nat) (fun k => [(0,.func (.yield l) #[] #[]),(1,.pointer (some ⟨bx,0,none⟩)),(3,.int .i64 ((k : Int) - 1))]) (fun k w => k ≤ n ∧ Inv k w) (fun k => k) n ⟨rfl,rfl,rfl,trivial⟩ ⟨Nat.le_refl _,h0⟩ ?_
 clear hb h0;rintro k w ⟨hk,hi⟩
 have hb := hbx _ _ hi
 by_cases h0 : k = 0
 ·subst h0
  repeat (first|refine Yeb ?_|refine Yaf ?_|refine Yb6 ?_|refine Yeo ?_|refine Yab ?_|refine Ya4 ?_|refine Ya5 ?_|refine Ybu ?_)
  exact .inl hi
 ·obtain ⟨r,hp,hlr,hr⟩ := hl _ _ hi
  have hr := hr h0
  have hcs0 : cs ≠ [] := by intro e; rw [e] at hcs; simp at hcs; omega
  have ha := (hrow _ _ hi).base hcs0
  have hseg := (hrow _ _ hi).seg ((k - 1) * 65) 65
  have e1 : ((k : Int) - 1).toNat = k - 1 := by omega
  have e2 : ((k - 1 : Nat) : Int) = (k : Int) - 1 := by omega
  rw [e2] at hr;repeat (first|refine Yeb ?_|refine Yaf ?_|refine Yb2 ?_|refine Ybd ?_|refine Yb5 ?_|refine Yef ?_|refine Yab ?_)
  rw [e1];refine X_yl (Zcy rfl rfl hseg (by simp; omega)) rfl rfl ?_
  refine Zyk rfl rfl rfl rfl rfl rfl hlr (by rw [hp]; rfl) hr ?_
  rintro v w' (⟨rfl,hi'⟩ | ⟨rfl,hs⟩)
  ·repeat (first|refine Yeb ?_|refine Yaf ?_|refine Yag ?_|refine Ybb ?_|refine Ybv ?_|refine Ye3 ?_|refine Yej ?_)
   refine Zae (k - 1) ⟨rfl,rfl,?_,trivial⟩ ⟨by omega,hi'⟩ (by omega)
   rw [e2]; rfl
  ·repeat (first|refine Yeb ?_|refine Ybo ?_|refine Yah ?_|refine Yaj ?_|refine Yab ?_|refine Yap ?_|refine Ya8 ?_|refine Z1w rfl (Ret.mk ?_))
   exact .inr hs
theorem Zgw {α β : Type} {f : α → List β} {n : Nat} {l : List α} (h : ∀ x ∈ l,(f x).length = n) : (l.flatMap f).length = l.length * n := by
 induction l with
 | nil => simp
 | cons x l ih =>
  have := ih fun y hy => h y (List.mem_cons_of_mem _ hy)
  have h0 := h x (List.mem_cons_self ..)
  simp only [List.flatMap_cons,List.length_append,List.length_cons,h0,this,Nat.succ_mul]
  omega
theorem Zd3 {α β : Type} {f : α → List β} {n : Nat} {l : List α} (h : ∀ x ∈ l,(f x).length = n) {k : Nat} {x : α} (hx : l[k]? = some x) : ((l.flatMap f).drop (k * n)).take n = f x := by
 induction l generalizing k with
 | nil => simp at hx
 | cons y l ih =>
  have h0 := h y (List.mem_cons_self ..)
  cases k with
  | zero =>
   have e : y = x := by simpa using hx
   subst e
   simp [List.flatMap_cons,← h0]
  | succ k =>
   have hx' : l[k]? = some x := by simpa using hx
   have := ih (fun z hz => h z (List.mem_cons_of_mem _ hz)) hx'
   rw [List.flatMap_cons,List.drop_append,h0,show (k + 1) * n - n = k * n by rw [Nat.succ_mul]; omega,List.drop_of_length_le (by rw [h0,Nat.succ_mul]; omega)]
   simpa using this
theorem Zqz {α : Type} {f : α → List Value} {n : Nat} {l : List α} (h : ∀ x ∈ l,(f x).length = n) {k : Nat} {y : α} (hy : (f y).length = n) (hk : k < l.length) : Zal (l.flatMap f) (k * n) (f y) = (l.set k y).flatMap f := by
 induction l generalizing k with
 | nil => simp at hk
 | cons x l ih =>
  have h0 := h x (List.mem_cons_self ..)
  cases k with
  | zero =>
   simp only [List.flatMap_cons,List.set_cons_zero,Nat.zero_mul,Zal]
   simp [hy,← h0]
  | succ k =>
   have := ih (fun z hz => h z (List.mem_cons_of_mem _ hz)) (k := k) (by simpa using hk)
   simp only [List.flatMap_cons,List.set_cons_succ]
   rw [← this];unfold Zal
   rw [List.take_append,List.drop_append,h0,show (k + 1) * n - n = k * n by rw [Nat.succ_mul]; omega,List.take_of_length_le (by rw [h0,Nat.succ_mul]; omega),List.drop_of_length_le (by rw [h0,Nat.succ_mul]; omega),
    show (k + 1) * n + (f y).length - n = k * n + (f y).length by rw [Nat.succ_mul]; omega]
   simp

def Zb7 (l : List (List UInt8)) (xs : List (Int × List UInt8)) : List (List UInt8) := xs.foldl (fun l x => l.set x.1.toNat x.2) l
theorem Zaw (xs : List (Int × List UInt8)) : ∀ l,(Zb7 l xs).length = l.length := by
 induction xs with
 | nil => intro l; rfl
 | cons x xs ih => intro l; simp [Zb7,List.foldl_cons] at ih ⊢; rw [ih]; simp
theorem Zsf (xs : List (Int × List UInt8)) (hx : ∀ x ∈ xs,x.2.length = 64) : ∀ l,(∀ s ∈ l,s.length = 64) → ∀ s ∈ Zb7 l xs,s.length = 64 := by
 induction xs with
 | nil => intro l h; exact h
 | cons x xs ih =>
  intro l h
  refine ih (fun y hy => hx y (List.mem_cons_of_mem _ hy)) _ fun s hs => ?_
  rcases List.mem_or_eq_of_mem_set hs with h' | rfl
  ·exact h s h'
  ·exact hx x (List.mem_cons_self ..)
theorem Zt7 {l : List (List UInt8)} {xs : List (Int × List UInt8)} {k : Nat} {x : Int × List UInt8} (hx : xs[k]? = some x) : Zb7 l (xs.take (k + 1)) = (Zb7 l (xs.take k)).set x.1.toNat x.2 := by
 have : xs.take (k + 1) = xs.take k ++ [x] := by
  rw [List.take_add_one,hx]; rfl
 rw [this,Zb7,List.foldl_append]; rfl

theorem Z3x (x : Value) (W : World) : Calls Tryz.prog 203 #[x] W (Ret fun v w => v = .bool true ∧ W = w) := by
 refine Zab Tryz.func203 rfl Tryz.ntmps203 rfl ?_
 repeat (first|refine Yeb ?_|refine Yag ?_|refine Yep ?_|refine Yed ?_)
 exact ⟨rfl,rfl⟩
def DiskM.flushed (D : DiskM) : DiskM := { D with laid := Zb7 D.laid D.line,line := [] }
theorem DiskM.flushed_ok {D : DiskM} (h : D.ok) : D.flushed.ok := by
 obtain ⟨h1,h2,h3,h4,h5,h6⟩ := h
 refine ⟨Zsf _ (fun x hx => (h2 x hx).1) _ h1,fun x hx => (by cases hx),?_,?_,h5,h6⟩ <;> simpa [DiskM.flushed,Zaw] using (by assumption)
theorem lay_ (p : Nat) (D : DiskM) (W : World) (F : Nat → Prop) (hS : St W F [disk p D] W) (hline : D.line.length < 1073741824) :
  Calls Tryz.prog 202 #[.pointer (some ⟨p,0,none⟩),.func (.func 203) #[] #[]] W (Ret fun _ w => True ∧ St W F [disk p D.flushed] w) := by
 obtain ⟨hok,al,cl,ai,ci,c1,c2,hS⟩ := hS.openDisk
 refine Zab Tryz.func202 rfl Tryz.ntmps202 rfl ?_
 repeat (first|refine Yeb ?_|(refine X_id ?_;first|refine Yaf ?_|refine Yag ?_|refine Yau ?_|refine Yan ?_|refine Yat ?_|refine Yaq ?_)|refine Yae ?_|refine Ziu ?_|refine Ycg ?_|refine Yad ?_|refine Yak ?_|refine Yab ?_)
 refine Zaj (α := Nat) (fun k => [(0,.pointer (some ⟨p,0,none⟩)),(1,.func (.func 203) #[] #[]),(5,.int .i64 (k : Nat)),(11,.slice ai D.line.length ci),(12,.int .i64 (D.line.length : Nat)),(13,.int .i64 (k : Nat))])
  (fun k w => k ≤ D.line.length ∧ St W F [pts p (.cells #[.bool D.off,.bool D.armed,.int .i64 D.left,.slice al D.laid.length cl,.slice ai D.line.length ci,.int .i64 D.writes,.int .i64 D.flushes] 136),
   own 285 64 al cl (Zba (Zb7 D.laid (D.line.take k))),own 287 65 ai ci (Za8 D.line)] w) (fun k => D.line.length - k) 0 ⟨rfl,rfl,rfl,rfl,rfl,rfl,trivial⟩ ⟨Nat.zero_le _,hS⟩ ?_
 clear hS;rintro k w ⟨hk,hS⟩
 by_cases hlt : k < D.line.length
 ·obtain ⟨x,hx⟩ : ∃ x,D.line[k]? = some x := ⟨_,List.getElem?_eq_getElem hlt⟩
  have hxm := List.mem_of_getElem? hx
  have hln : ∀ x ∈ D.line,(Value.int .i64 x.1 :: bv x.2).length = 65 := fun x hx => by simp [(hok.line64 x hx).1]
  have hseg : CellsAt w (adr ai (k * 65)) (.int .i64 x.1 :: bv x.2) := by
   have := (hS.rd (List.mem_cons_of_mem _ (List.mem_cons_of_mem _ (List.mem_cons_self ..)))).own_row.seg (k * 65) 65
   rwa [show ((Za8 D.line).drop (k * 65)).take 65 = _ from Zd3 hln hx] at this
  obtain ⟨ab,ao,hae⟩ := (hS.rd (List.mem_cons_of_mem _ (List.mem_cons_of_mem _ (List.mem_cons_self ..)))).own_row.base (by intro e; have h := Zdd fun x hx => (hok.line64 x hx).1; rw [e] at h; simp at h; omega)
  subst hae
  have hx64 := (hok.line64 x hxm).1
  have hx0 := (hok.line64 x hxm).2.1
  have hx1 := (hok.line64 x hxm).2.2
  have hl64 := Zsf (D.line.take k) (fun y hy => (hok.line64 y (List.mem_of_mem_take hy)).1) _ hok.laid64
  have hlay := Zde hl64
  rw [Zaw] at hlay;obtain ⟨lb,lo,rfl⟩ := (hS.rd (List.mem_cons_of_mem _ (List.mem_cons_self ..))).own_row.base (by intro e; rw [e] at hlay; simp at hlay; omega)
  have hlen : LenIs (bv x.2) 64 := ⟨by simp [(hok.line64 x hxm).1]⟩
  repeat (first|refine Yeb ?_|refine Yaf ?_|refine Ya1 ?_|refine Ybd ?_|refine Yef ?_|refine Yab ?_)
  refine X_yl (Zcy rfl rfl hseg (by simp [(hok.line64 x hxm).1])) rfl rfl ?_
  repeat (first|refine Yeb ?_|refine Yeq ?_|refine Yao (fun _ hS _ => ?_)|refine Yar (fun _ _ hS _ => ?_)|refine Yec ?_|refine Yab ?_)
  refine Zaa 203 rfl rfl rfl rfl rfl (Z3x _ _) ?_
  rintro _ _ ⟨rfl,rfl⟩
  repeat (first|refine Yeb ?_|refine Ybb ?_|refine Yae ?_|refine Yal ?_|refine Yai ?_|refine Yab ?_)
  refine Zao (.s 0 (.s 1 (.s 2 (.s 3 (.s 4 (.s 5 (.s 6 (.s 7 (.s 8 (.h 9 .nil .no)))))))))) mixed (by kernel_rfl) rfl ?_
  have hS := hS.drew
  repeat (first|(refine Zaf ?_;first|refine Ya6 ?_|refine Ybs ?_|refine Ybk ?_|refine Yca ?_|refine Ybn ?_|refine Yb0 ?_|refine Yax ?_))
  refine Zrh (a := some ⟨lb,lo,none⟩) (i := x.1.toNat * 64) rfl rfl ?_ rfl (Zdb) (by simp [hx64]) rfl hS (by simp [hx64,hlay]; omega) (by omega) (fun w hS => ?_)
  ·rfl
  repeat (first|refine Yeb ?_|refine Yer ?_|refine Yad ?_|refine Yej ?_|(refine Zaf ?_;first|refine Ya2 ?_)|(refine Zad ?_;first|refine Yay ?_))
  refine Zae (k + 1) ⟨rfl,rfl,rfl,rfl,rfl,rfl,trivial⟩ ⟨hlt,?_⟩ (by omega)
  rw [Zt7 hx];have hS := hS.pick [2,0,1]
  rwa [show Zal (Zba (Zb7 D.laid (D.line.take k))) (x.1.toNat * 64) (bv x.2) = _ from Zqz (fun y hy => by simp [hl64 y hy]) (by simp [hx64]) (by rw [Zaw]; omega)] at hS
 ·obtain rfl : k = D.line.length := by omega
  repeat (first|refine Yeb ?_|(refine X_id ?_;first|refine Yaf ?_|refine Yag ?_|refine Yau ?_|refine Yan ?_|refine Yaz ?_|refine Yao (fun _ hS _ => ?_))|refine Yek ?_|refine Yab ?_|refine Yb4 ?_|refine Ya4 ?_|refine Ya5 ?_|refine Yam ?_)
  refine ⟨trivial,?_⟩
  refine St.shutDisk (D := D.flushed) (al := al) (ai := none) (cl := cl) (ci := 0) (DiskM.flushed_ok hok) (by simpa [DiskM.flushed,Zaw]) (by simp [DiskM.flushed]) ?_
  have hS := ((hS.pick [0,0]).own_none 287 65 none).pick [1,1,0]
  rw [List.take_length] at hS
  simpa [DiskM.flushed,Zaw,Za8] using hS
/-! ### Flush -/
def DiskM.flush (D : DiskM) : Int × DiskM :=
 if D.off then (9,D) else if useB D.off D.armed D.left = false then (9,D.used)
 else (0,{ D.used.flushed with flushes := IntKind.i64.wrap (D.flushes + 1) })
theorem DiskM.flush_use {D : DiskM} (h : D.off = false) (hu : useB D.off D.armed D.left = false) : D.flush = (9,D.used) := by
 unfold DiskM.flush
 rw [if_neg (by simp [h]),if_pos hu]
theorem DiskM.flush_yes {D : DiskM} (h : D.off = false) (hu : useB D.off D.armed D.left = true) : D.flush = (0,{ D.used.flushed with flushes := IntKind.i64.wrap (D.flushes + 1) }) := by
 unfold DiskM.flush
 rw [if_neg (by simp [h]),if_neg (by simp [hu])]
theorem Z6x (p : Nat) (D : DiskM) (W : World) (F : Nat → Prop) (hS : St W F [disk p D] W) (hline : D.line.length < 1073741824) :
  Calls Tryz.prog 168 #[.pointer (some ⟨p,0,none⟩)] W (Ret fun v w => v = .int .i64 D.flush.1 ∧ St W F [disk p D.flush.2] w) := by
 have hd := hS.rd (List.mem_cons_self ..)
 have hon := on_ p D W hd
 have hok := hd.disk.1
 cases hoff : D.off
 ·rw [hoff] at hon
  refine Zab Tryz.func168 rfl Tryz.ntmps168 rfl ?_
  repeat (first|refine Yes ?_|(refine X_id ?_;first|(refine Zaa 56 rfl rfl rfl rfl rfl hon ?_;rintro _ _ ⟨rfl,rfl⟩)|refine Yaf ?_|refine Yag ?_|refine Yau ?_|refine Yan ?_|refine Ybb ?_)|refine Yec ?_|refine Yab ?_)
  obtain ⟨hok,al,cl,ai,ci,c1,c2,hS⟩ := hS.openDisk
  cases huse : useB D.off D.armed D.left
  ·skip
   obtain ⟨_,hc,hr,hw,hbk⟩ := hS.call [true,false,false]
   refine Zaa _ rfl rfl rfl rfl rfl (use_ p D.off D.armed D.left _ _ _ _ hok.left0 hok.left1 hc) ?_
   rintro _ w ⟨rfl,hS⟩
   replace hS := hbk hS
   clear hc hr hw hbk;rw [huse];repeat (first|refine Yes ?_|refine Yag ?_|refine Ya7 ?_|refine Ybo ?_|refine Yet ?_|refine Yeu ?_)
   rw [DiskM.flush_use hoff huse];exact ⟨rfl,St.shutDisk (DiskM.used_ok hok) c1 c2 hS⟩
  ·skip
   obtain ⟨_,hc,hr,hw,hbk⟩ := hS.call [true,false,false]
   refine Zaa _ rfl rfl rfl rfl rfl (use_ p D.off D.armed D.left _ _ _ _ hok.left0 hok.left1 hc) ?_
   rintro _ w ⟨rfl,hS⟩
   replace hS := hbk hS
   clear hc hr hw hbk;rw [huse];replace hS : St W F [disk p D.used] w := St.shutDisk (DiskM.used_ok hok) c1 c2 hS
   repeat (first|refine Yes ?_|refine Yaf ?_|refine Ya7 ?_|refine Ybb ?_|refine Yen ?_|refine Yab ?_)
   obtain ⟨_,hc,hr,hw,hbk⟩ := hS.call [true]
   refine Zaa _ rfl rfl rfl rfl rfl (lay_ p D.used _ _ hc hline) ?_
   rintro _ w ⟨_,hS⟩
   replace hS := hbk hS
   clear hc hr hw hbk;obtain ⟨hok2,al2,cl2,ai2,ci2,d1,d2,hS⟩ := hS.openDisk
   repeat (first|refine Yeb ?_|refine Yaf ?_|refine Yau ?_|refine Yan ?_|refine Yec ?_|refine Yab ?_)
   obtain ⟨_,hc,hr,hw,hbk⟩ := hS.call [true,false,false]
   refine Zaa _ rfl rfl rfl rfl rfl (Z1q p 6 D.flushes 1 _ _ _ _ _ hc) ?_
   rintro _ w ⟨rfl,hS⟩
   replace hS := hbk hS
   clear hc hr hw hbk;repeat (first|refine Yeb ?_|refine Yag ?_|refine Yep ?_|refine Yed ?_)
   rw [DiskM.flush_yes hoff huse];exact ⟨rfl,St.shutDisk (D := { D.used.flushed with flushes := IntKind.i64.wrap (D.flushes + 1) }) ⟨hok2.1,hok2.2,hok2.3,hok2.4,hok2.5,hok2.6⟩ d1 d2 hS⟩
 ·rw [hoff] at hon
  refine Zab Tryz.func168 rfl Tryz.ntmps168 rfl ?_
  repeat (first|refine Yev ?_|(refine X_id ?_;first|(refine Zaa 56 rfl rfl rfl rfl rfl hon ?_;rintro _ _ ⟨rfl,rfl⟩)|refine Yaf ?_|refine Yag ?_|refine Ya9 ?_|refine Ybo ?_)|refine Yet ?_|refine Yeu ?_)
  exact ⟨by simp [DiskM.flush,hoff],by simpa [DiskM.flush,hoff] using hS⟩

/-! ### Read -/
theorem Zgp {b : Nat} {l : List Value} {T : TypeId} : ∀ h,pts b (.cells l.toArray T (0,0)) h → row (some ⟨b,0,none⟩) l h := fun _ hg => .inr ⟨b,0,l.toArray,T,(0,0),rfl,hg,fun j v hv => by simpa using hv⟩
theorem Zqj {b off n : Nat} {l cs : List Value} {T : TypeId} (hs : (l.drop off).take n = cs) : ∀ h,pts b (.cells l.toArray T (0,0)) h → row (some ⟨b,off,none⟩) cs h := fun _ hg => .inr ⟨b,off,l.toArray,T,(0,0),rfl,hg,fun j v hv => by
 subst hs
 rw [List.getElem?_take] at hv
 split at hv
 ·rw [List.getElem?_drop] at hv
  simpa using hv
 ·cases hv⟩
theorem St.row_none {W : World} {F : Nat → Prop} {rs : List Res} {w : World} (hS : St W F rs w) : St W F (row none [] :: rs) w :=
 hS.imp fun h hh => ⟨fun _ => none,h,.inl ⟨rfl,fun _ => rfl⟩,hh,fun _ => .inl rfl,fun _ => by simp⟩
theorem St.more {W : World} {F : Nat → Prop} {rs : List Res} {w : World} (hS : St W noF rs w) : St W F rs w := by
 obtain ⟨h,hs,s⟩ := hS
 exact ⟨h,hs,s.agrees,fun b o e => (s.foot b o e).elim (fun h => h.elim) .inr,s.size,s.os,s.tape,s.output,fun k hk _ => s.kept k hk (fun h => h)⟩
theorem St.kept {W : World} {rs : List Res} {w : World} {b : Nat} {o : Obj} (hS : St W noF rs w) (h : W.heap[b]? = some o) : w.heap[b]? = some o := by
 have : Rd W (pts b o) := ⟨Zcl b o,rfl,fun k o' e => by obtain ⟨rfl,rfl⟩ := Zhf e; exact h⟩
 exact (this.ro.rd hS).pts
theorem on_b (p : Nat) (D : DiskM) (b : Bool) (hb : D.off = b) (W : World) (hd : Rd W (disk p D)) : Calls Tryz.prog 56 #[.pointer (some ⟨p,0,none⟩)] W (Ret fun v w => v = .bool (!b) ∧ W = w) := by
 subst hb; exact on_ p D W hd
theorem Z6q (p : Nat) (D : DiskM) (no : Int) (b : Bool) (hb : Zc9 D no = b) (W : World) (hd : Rd W (disk p D)) : Calls Tryz.prog 159 #[.pointer (some ⟨p,0,none⟩),.int .i64 no] W (Ret fun v w => v = .bool b ∧ W = w) := by
 subst hb; exact has_ p D no W hd
theorem Zra (a : Option Addr) (n c : Nat) (W : World) : Calls Tryz.prog 160 #[.slice a n c] W
  (Ret fun v w => ∃ bx,v = .func (.func 198) #[] #[.pointer (some ⟨bx,0,none⟩)] ∧ St W noF [pts bx (.cells #[.slice a n c] 129)] w) := by
 have hS := St.start W
 refine Zab Tryz.func160 rfl Tryz.ntmps160 rfl ?_
 repeat (first|refine Yeb ?_|refine Yag ?_|refine Yct ?_|refine Yba (fun _ _ hS _ => ?_)|refine Yep ?_|refine Yed ?_)
 exact ⟨_,rfl,hS⟩
def DiskM.find (D : DiskM) (no : Int) : List UInt8 := match D.line.reverse.find? (fun x => x.1 == no) with | some x => x.2 | none => D.laid.getD no.toNat []
def DiskM.read (D : DiskM) (no : Int) : Int × List UInt8 := if D.off then (9,[]) else if Zc9 D no = false then (1,[]) else (0,D.find no)
end Cr
namespace Cr
open Go Go.Proofs Go.ChangeShapes Go.WideShapes Go.Deep
set_option maxHeartbeats 64000000
section
variable {H : Type} {enc : TypeId × Value → H} {P : Program} {w : World} {base : Nat} {sp : Nat → Bool} {held : Bool}
theorem Rd.ofCellsA {a : Addr} {l : List Value} (h : ∀ i v,l[i]? = some v → w.cell? (a.add i) = some v) : Rd w (row (some a) l) := by
 cases l with
 | nil => exact Zp1 w _
 | cons x r =>
  have h0 := h 0 x rfl
  have hsp : a.spot = none := by
   have := World.cell?_spot h0
   simpa [Addr.add] using this
  obtain ⟨b,off,spot⟩ := a
  obtain rfl : spot = none := hsp
  unfold World.cell? at h0
  split at h0
  ·rename_i c t fz hb
   have hb : w.heap[b]? = some (.cells c t fz) := by simpa [Addr.add] using hb
   refine ⟨Zcl b (.cells c t fz),.inr ⟨b,off,c,t,fz,rfl,rfl,fun i v hv => ?_⟩,fun k o e => ?_⟩
   ·have := h i v hv
    have e : (⟨b,off,none⟩ : Addr).add i = ⟨b,off + i,none⟩ := by
     unfold Addr.add; split
     ·rename_i h; subst h; rfl
     ·rfl
    rw [e,cell_of_row w b (off + i) c t fz hb] at this;exact this
   ·obtain ⟨rfl,rfl⟩ := Zhf e
    exact hb
  ·cases h0
theorem Z13 {n : Int} (h : (Lit.int .u8 n).wf = true) : Value.int .u8 n = .int .u8 ((UInt8.ofNat n.toNat).toNat : Int) := by
 simp only [Lit.wf,Bool.and_eq_true,decide_eq_true_eq] at h
 have h1 : 0 ≤ n := h.1
 have h2 : n ≤ 255 := h.2
 congr 1
 have : (UInt8.ofNat n.toNat).toNat = n.toNat := by rw [UInt8.toNat_ofNat']; omega
 rw [this]; omega
theorem open_bytes {t e : TypeId} {fuel : Nat} {cs : List Value} {x : DataW H × List MemPlace} (ht : P.underlying t = some (.slice e)) (he : P.underlying e = some (.int .u8)) (hc : P.cellsOf e = 1)
  (h : DataW.trod enc P w base sp held fuel t cs = some x) : ∃ a s c,cs = [.slice a s.length c] ∧ s.length ≤ c ∧ c ≤ maxLen ∧ Rd w (bytes a s) := by
 rcases open_ints ht he hc h with ⟨rfl,_⟩ | ⟨a,len,cap,zs,rfl,_,hl,hm,hz,_,hcell,hwf⟩
 ·exact ⟨none,[],0,rfl,Nat.le_refl _,Nat.zero_le _,Zp1 w _⟩
 ·have hlz : len ≤ zs.length := by rw [hz]; split <;> omega
  have e1 : bv ((zs.take len).map fun n => UInt8.ofNat n.toNat) = (zs.take len).map fun n => Value.int .u8 n := by
   unfold bv
   rw [List.map_map];refine List.map_congr_left fun n hn => ?_
   exact (Z13 (hwf n (List.mem_of_mem_take hn))).symm
  have e2 : ((zs.take len).map fun n => UInt8.ofNat n.toNat).length = len := by simp; omega
  refine ⟨some a,(zs.take len).map fun n => UInt8.ofNat n.toNat,cap,by rw [e2],by rw [e2]; exact hl,hm,?_⟩
  unfold bytes
  rw [e1];refine Rd.ofCellsA fun i v hv => ?_
  rw [List.getElem?_map,List.getElem?_take] at hv
  split at hv
  ·rename_i hi
   rw [hcell i (by omega)];have h3 : zs[i]? = some zs[i] := List.getElem?_eq_getElem (by omega)
   rw [h3] at hv;rw [List.getD_eq_getElem?_getD,h3];exact hv
  ·cases hv
end
end Cr
namespace Cr
open Go
set_option maxHeartbeats 64000000
section
variable {P : Program} {Q : Exit → Act → World → Prop} {N : Nat} {ds : Md} {σ : Env} {w : World} {x y : Code}
theorem Zjt {F : Fence} {n : Nat} {c : Code} {Q Q' : Exit → Act → World → Prop} {a : Act} (hq : ∀ e a w,Q e a w → Q' e a w) (h : c.wpIn F n P Q a w) : c.wpIn F n P Q' a w := by
 intro b k cs hro hb hr
 obtain ⟨e,a',w',hQ,harr⟩ := h b k cs hro hb hr
 exact ⟨e,a',w',hq _ _ _ hQ,harr⟩
def Mid {α : Type} (S : α → Env) (R : α → World → Prop) (N : Nat) (ds : Md) : Act → World → Prop := fun a w => ∃ z,Fr (S z) N ds a ∧ R z w
theorem Zti {α : Type} (S : α → Env) (R : α → World → Prop) (h1 : C P x (Exit.then (Mid S R N ds) Q) N ds σ w) (h2 : ∀ z w,R z w → C P y Q N ds (S z) w) : C P x (Exit.then (y.wpIn (Fc ds) 0 P Q) Q) N ds σ w := ⟨fun a ha =>
 Zjt (fun e a w hh => by
  cases e with
  | normal => obtain ⟨z,hF,hR⟩ := hh; exact (h2 z w hR).run a hF
  | exit id => exact hh
  | goto l => exact hh
  | ret => exact hh
  | panic ch => exact hh
  | outgrown => exact hh) (h1.run a ha)⟩
theorem Zo0 {Q1 Q2 : Exit → Act → World → Prop} {id : Nat} (hq : ∀ e a w,Q1 e a w → Q2 e a w) : ∀ e a w,Exit.inBlock id Q1 e a w → Exit.inBlock id Q2 e a w := fun e a w h => by
 cases e with
 | exit id' =>
  by_cases he : id' = id
  ·simp only [Exit.inBlock,if_pos he] at h ⊢; exact hq _ _ _ h
  ·simp only [Exit.inBlock,if_neg he] at h ⊢; exact hq _ _ _ h
 | _ => exact hq _ _ _ h
theorem Zbq {α : Type} {id : Nat} (S : α → Env) (R : α → World → Prop) (h1 : C P x (Exit.inBlock id (Exit.then (Mid S R N ds) Q)) N ds σ w) (h2 : ∀ z w,R z w → C P y Q N ds (S z) w) : C P x (Exit.inBlock id (Exit.then (y.wpIn (Fc ds) 0 P Q) Q)) N ds σ w := ⟨fun a ha =>
 Zjt (Zo0 fun e a w hh => by
  cases e with
  | normal => obtain ⟨z,hF,hR⟩ := hh; exact (h2 z w hR).run a hF
  | exit id => exact hh
  | goto l => exact hh
  | ret => exact hh
  | panic ch => exact hh
  | outgrown => exact hh) (h1.run a ha)⟩
theorem Zbw {α : Type} {S : α → Env} {R : α → World → Prop} (z : α) (hσ : subs σ (S z)) (hR : R z w) : E (Exit.then (Mid S R N ds) Q) .normal N ds σ w := ⟨fun _ ha => ⟨z,ha.sub hσ,hR⟩⟩
theorem Rd.cellF {b off o' i : Nat} {cs : List Value} {v : Value} (H : Rd w (row (some ⟨b,off,none⟩) cs)) (hi : o' = off + i) (h : cs[i]? = some v) : w.cell? ⟨b,o',none⟩ = some v := by
 subst hi; exact H.cells i v h
end
section
variable {P : Program} {o : Oper} {σ : Env} {w : World} {t e : TypeId}
theorem Zg2 {z : Value} {n size N m : Nat} {xs : List (Nat × Operand)} {parts : List (Nat × Value)} {l : List Value} (ho : o.op = .build t xs.toArray) (hx : evps σ xs = some parts) [h : Und P t (.array n e)] [hs : Siz P e size] [hi : Inf P t z N m] (hn : parts.length = n) (hN : N = n * size)
  (hidx : parts.map (·.1) = List.range' 0 parts.length) [hl : CellsAll parts size l] : Yl P o σ w (.agg l.toArray) := ⟨fun N' ds a ha => by
 obtain ⟨i,hi',hz',hsz,_⟩ := info_parts hi.inf
 obtain ⟨ls,h1,h2,h3⟩ := hl.all
 have hzl : z.cells.size = parts.length * size := by rw [hn,← hN]; exact hi.zs
 have hq := Zng (size := size) parts ls 0 [] z.cells.toList h1 h2 hidx (by simp) (by simpa using hzl)
 simp only [List.nil_append,Array.toArray_toList,h3] at hq
 have hze : (zeroValue t).run P w = .ok z w := by simp [zeroValue,typeInfo,hi',hz']
 have e := ha.evalps hx
 have hb : (Instr.build t parts.toArray).run P w = .ok (.agg l.toArray) w := by
  unfold Instr.build
  rw [Sem.run_bind,hze];show (underlying t >>= _ : Sem _).run P w = _
  rw [Sem.run_bind,run_underlying h.und];show (Go.sizeOf _ >>= _ : Sem _).run P w = _
  rw [Sem.run_bind,Zbh];simp [Result.andThen,hq]
 simp [execOp,ho,e,hb]⟩
end
theorem St.cellO (k : Nat) {W : World} {F : Nat → Prop} {rs : List Res} {w : World} {b off : Nat} {l : List Value} {T : TypeId} {v : Value} (hS : St W F rs w) (hk : off = k) [hh : Has rs b (.cells l.toArray T (0,0))] [hn : Nth l k v] : w.cell? ⟨b,off,none⟩ = some v := by
 subst hk
 rw [cell_of_row w b off _ T (0,0) hS.has]
 simpa using hn.nth
theorem St.ownRd {W : World} {F : Nat → Prop} {rs rest : List Res} {w : World} {a : Option Addr} {T e c : Nat} {cs : List Value} (hS : St W F rs w) [hh : HasOwn rs a T e c cs rest] : Rd w (row a cs) := ((hS.perm hh.has).rd (List.mem_cons_self ..)).own_row
/-! ### resources in another order -/
class Take1 (rs : List Res) (r : Res) (rest : outParam (List Res)) : Prop where
 perm : rs.Perm (r :: rest)
instance Take1.there (q r : Res) (rs rest : List Res) [h : Take1 rs r rest] : Take1 (q :: rs) r (q :: rest) := ⟨(List.Perm.cons q h.perm).trans (.swap ..)⟩
instance Take1.here (r : Res) (rs : List Res) : Take1 (r :: rs) r rs := ⟨.refl _⟩
class Takes (rs out : List Res) : Prop where
 took : ∀ {W F w},St W F rs w → St W F out w
instance Takes.nil (rs : List Res) : Takes rs [] := ⟨fun h => h.drops⟩
instance Takes.cons (rs rest out : List Res) (r : Res) [h : Take1 rs r rest] [h2 : Takes rest out] : Takes rs (r :: out) := ⟨fun hS => (hS.perm h.perm).under h2.took⟩
theorem St.took {W : World} {F : Nat → Prop} {rs out : List Res} {w : World} (hS : St W F rs w) [h : Takes rs out] : St W F out w := h.took hS
end Cr
namespace Cr
open Go Go.Proofs
set_option maxRecDepth 100000
set_option maxHeartbeats 64000000
attribute [local irreducible] Calls

structure Bs where
 a : Option Addr
 c : Nat
 s : List UInt8
def Bs.val (x : Bs) : Value := .slice x.a x.s.length x.c
structure Bss (W : World) (F : Nat → Prop) (a : Option Addr) (l : List Bs) : Prop where
 row : Ro W F (row a (l.map Bs.val))
 all : ∀ x ∈ l,Ro W F (bytes x.a x.s)
def StrM.more (rd fs : List Int) (S : StrM) (l : List UInt8) : StrM := l.foldl (StrM.one rd fs) S
theorem StrM.more_ok {rd fs : List Int} (hf : fs.length = 8) : ∀ {l : List UInt8} {S : StrM},S.ok → (S.more rd fs l).ok
 | [],_,h => h
 | c :: l,S,h => by
  show (StrM.more rd fs (S.one rd fs c) l).ok
  exact StrM.more_ok (rd := rd) hf (StrM.one_ok (rd := rd) h hf)
theorem StrM.more_n {rd fs : List Int} : ∀ {l : List UInt8} {S : StrM},(S.more rd fs l).n = S.n + l.length
 | [],_ => rfl
 | c :: l,S => by
  have := StrM.more_n (rd := rd) (fs := fs) (l := l) (S := S.one rd fs c)
  simp only [StrM.more,List.foldl_cons,List.length_cons] at this ⊢
  rw [this]; simp only [StrM.one]; omega
theorem StrM.more_append {rd fs : List Int} {S : StrM} {l m : List UInt8} : S.more rd fs (l ++ m) = (S.more rd fs l).more rd fs m := by simp [StrM.more]
theorem StrM.more_snoc {rd fs : List Int} {S : StrM} {l : List UInt8} {i : Nat} (h : i < l.length) : S.more rd fs (l.take (i + 1)) = (S.more rd fs (l.take i)).one rd fs (l.getD i 0) := by
 rw [List.take_succ_eq_append_getElem h,StrM.more_append];simp [StrM.more,List.getD_eq_getElem?_getD,h]
def Zah (l : List Bs) : List UInt8 := l.flatMap Bs.s
theorem Zcr {l : List Bs} {i : Nat} {x : Bs} (h : l[i]? = some x) : Zah (l.take (i + 1)) = Zah (l.take i) ++ x.s := by
 obtain ⟨hi,rfl⟩ := List.getElem?_eq_some_iff.1 h
 rw [List.take_succ_eq_append_getElem hi];simp only [Zah,List.flatMap_append,List.flatMap_cons,List.flatMap_nil,List.append_nil]
theorem Zbl (l : List Bs) (i : Nat) : (Zah (l.take i)).length ≤ (Zah l).length := by
 have : Zah l = Zah (l.take i) ++ Zah (l.drop i) := by unfold Zah; rw [← List.flatMap_append,List.take_append_drop]
 rw [this]; simp

theorem Z3l (s : Nat) (S : StrM) (a : Option Addr) (c : Nat) (l : List Bs) (rd fs : List Int) (T : TypeId) (W : World) (F : Nat → Prop) (hok : S.ok) (hn : S.n + (Zah l).length < 2305843009213693951) (hl : l.length < 2305843009213693951) (hG : Gl W F rd fs)
  (hB : Bss W F a l) (hS : St W F [pts s (.cells S.cells.toArray T)] W) :
  Calls Tryz.prog 103 #[.pointer (some ⟨s,0,none⟩),.slice a l.length c] W (Ret fun v w => v = .pointer (some ⟨s,0,none⟩) ∧ St W F [pts s (.cells (S.more rd fs (Zah l)).cells.toArray T)] w) := by
 refine Zab Tryz.func103 rfl Tryz.ntmps103 rfl ?_
 repeat (first|refine Yeb ?_|refine Yaf ?_|refine Yag ?_|refine Yat ?_|refine Ybt ?_|refine Yfa ?_|refine Yab ?_)
 refine Zaj (α := Nat) (fun i => [(0,.pointer (some ⟨s,0,none⟩)),(11,.slice a l.length c),(12,.int .i64 (l.length : Nat)),(13,.int .i64 (i : Nat))])
  (fun i w => i ≤ l.length ∧ St W F [pts s (.cells (S.more rd fs (Zah (l.take i))).cells.toArray T)] w) (fun i => l.length - i) 0 ⟨rfl,rfl,rfl,rfl,trivial⟩ ⟨Nat.zero_le _,hS⟩ ?_
 clear hS;rintro i w ⟨hi,hS⟩
 by_cases hlt : i < l.length
 ·have hx : l[i]? = some l[i] := List.getElem?_eq_getElem hlt
  generalize l[i] = x at hx;have hxm := List.mem_of_getElem? hx
  have hbx := hB.all x hxm
  have hj := Zcr hx
  have hle := Zbl l (i + 1)
  rw [hj,List.length_append] at hle;obtain ⟨ab,ao,rfl⟩ := (hB.row.rd hS).base (by intro e; simp at e; subst e; simp at hlt)
  have hr := hB.row
  replace hx : (l.map Bs.val)[i]? = some (.slice x.a x.s.length x.c) := by simp [hx,Bs.val]
  repeat (first|refine Yeb ?_|(refine X_id ?_;first|refine Yaf ?_|refine Yag ?_|refine Yat ?_|refine Ya1 ?_|refine Ybd ?_|refine Yb7 ?_)|refine Yef ?_|refine Yab ?_)
  refine Zaj (α := Nat) (fun j => [(0,.pointer (some ⟨s,0,none⟩)),(11,.slice (some ⟨ab,ao,none⟩) l.length c),(12,.int .i64 (l.length : Nat)),(13,.int .i64 (i : Nat)),(17,.slice x.a x.s.length x.c),(18,.int .i64 (x.s.length : Nat)),(19,.int .i64 (j : Nat))])
   (fun j w => j ≤ x.s.length ∧ St W F [pts s (.cells (S.more rd fs (Zah (l.take i) ++ x.s.take j)).cells.toArray T)] w) (fun j => x.s.length - j) 0 ⟨rfl,rfl,rfl,rfl,rfl,rfl,rfl,trivial⟩ ⟨Nat.zero_le _,by simpa using hS⟩ ?_
  clear hS;rintro j w ⟨hj',hS⟩
  by_cases hjl : j < x.s.length
  ·obtain ⟨xb,xo,hxa⟩ := (hbx.rd hS).base (by intro e; have := Zak x.s; rw [e] at this; simp at this; omega)
   have hb : Ro W F (bytes (some ⟨xb,xo,none⟩) x.s) := hxa ▸ hbx
   rw [hxa];repeat (first|refine Yeb ?_|(refine X_id ?_;first|refine Yaf ?_|refine Yag ?_|refine Ya1 ?_|refine Ybd ?_|refine X_yl (Zau rfl rfl ((hb.rd hS).cellB' (by omega))) rfl rfl ?_)|refine Yef ?_|refine Yab ?_)
   obtain ⟨S',hSe⟩ : ∃ S',S' = S.more rd fs (Zah (l.take i) ++ x.s.take j) := ⟨_,rfl⟩
   have hok' : S'.ok := hSe ▸ StrM.more_ok hG.first8 hok
   have hn' : S'.n < 2305843009213693951 := by rw [hSe,StrM.more_n]; simp; omega
   rw [← hSe] at hS;obtain ⟨_,hc,hr,hw,hbk⟩ := hS.call [true]
   refine Zaa _ rfl rfl rfl rfl rfl (one_ s S' _ rd fs T _ _ hok' hn' (hG.mono hw) hc) ?_
   rintro _ w ⟨_,hS⟩
   replace hS := hbk hS
   clear hc hr hw hbk;repeat (first|refine Yeb ?_|refine Yeg ?_|refine Yad ?_|refine Yej ?_)
   refine Zae (j + 1) ⟨rfl,rfl,rfl,rfl,rfl,rfl,rfl,trivial⟩ ⟨by omega,?_⟩ (by omega)
   rw [StrM.more_append,StrM.more_snoc hjl,← StrM.more_append,← hSe];rw [show (j : Int).toNat * 1 = j by omega] at hS
   exact hS
  ·obtain rfl : j = x.s.length := by omega
   repeat (first|refine Yeb ?_|refine Yaf ?_|refine Yaz ?_|refine Yaw ?_|refine Yeo ?_|refine Yfk ?_)
   refine Zae (i + 1) ⟨rfl,rfl,rfl,rfl,trivial⟩ ⟨by omega,?_⟩ (by omega)
   rw [hj];rw [List.take_length] at hS;exact hS
 ·obtain rfl : i = l.length := by omega
  rw [List.take_length] at hS;repeat (first|refine Yeb ?_|refine Yfj ?_|refine Yek ?_|refine Yfd ?_)
  exact ⟨rfl,hS⟩

/-! ### Fork -/
def StrM.init : StrM := ⟨List.replicate 8 0,List.replicate 64 0,0⟩
theorem StrM.init_ok : StrM.init.ok := ⟨by simp [init],by simp [init]⟩
theorem Z87 (s : Nat) (S : StrM) (T : TypeId) (W : World) (hok : S.ok) (hs : Rd W (pts s (.cells S.cells.toArray T))) :
  Calls Tryz.prog 153 #[.pointer (some ⟨s,0,none⟩)] W (Ret fun v w => ∃ p,v = .pointer (some ⟨p,0,none⟩) ∧ St W noF [pts p (.cells S.cells.toArray 216)] w) := by
 obtain ⟨H,R,n⟩ := S
 obtain ⟨h8,r64⟩ := hok
 unfold StrM.cells at hs ⊢
 simp only at h8 r64 hs ⊢
 have hl1 : LenO (ints .u32 H) 8 := ⟨by rw [ints_length]; exact h8⟩
 have hl2 : LenO (bv R) 64 := ⟨by simp [r64]⟩
 have hc := hs.ro
 have hS := St.start W
 refine Zab Tryz.func153 rfl Tryz.ntmps153 rfl ?_
 repeat (first|refine Yeb ?_|(refine X_id ?_;first|refine Yaf ?_|refine Yag ?_|refine Yau ?_|refine Ybm ?_|refine X_yl (Zgh rfl rfl rfl) rfl rfl ?_|refine Yba (fun _ _ hS _ => ?_))|refine Yem ?_|refine Yab ?_)
 rename_i bx wx _;replace hS : St W noF [pts bx (.cells (ints .u32 (List.replicate 8 0) ++ (bv (List.replicate 64 0) ++ [Value.int .i64 0])).toArray 216)] wx := hS
 have hl3 : LenO (ints .u32 (List.replicate 8 0)) 8 := ⟨by rw [ints_length]; simp⟩
 refine X_yl (Zcy rfl rfl (CellsAt.of_block (hc.rd hS).pts) (by simp [ints_length,h8,r64])) rfl rfl ?_
 repeat (first|refine Yeb ?_|refine Yaf ?_|refine Yag ?_|refine Yau ?_|refine Yb9 (fun _ hS => ?_)|refine Yep ?_|refine Yed ?_)
 exact ⟨_,rfl,hS⟩
end Cr
namespace Cr
open Go
set_option maxRecDepth 10000
set_option maxHeartbeats 64000000
section
variable {P : Program} {o : Oper} {σ : Env} {w : World} {x y : Operand} {t ty e : TypeId} {N : Nat} {ds : Md} {K : Env → World → Prop}
theorem Zny {T bytes d c : Nat} {k k' : IntKind} {W : World} {F : Nat → Prop} {rs : List Res} (ho : o.op = .makeSlice t x y) (hx : ev σ x = some (.int k (c : Nat))) (hy : ev σ y = some (.int k' (c : Nat)))
  [h : Und P t (.slice T)] [hi : Inf P T (.int .u8 0) 1 bytes] (hb : bytes * c ≤ 281474976710656) (hm : c ≤ 9223372036854775807) (hd : o.dst = some d) (hN : Nat.blt d N = true) (hS : St W F rs w)
  (hk : ∀ b w',St W F (pts b (.cells (bv (List.replicate c 0)).toArray T) :: rs) w' → K ((d,.slice (some ⟨b,0,none⟩) c c) :: σ) w') : X P o N ds σ w K :=
 Zyc ho hx hy (by omega) (Int.le_refl _) (by rw [← Int.natCast_mul]; omega) (by omega) hd hN hS fun b w' hS' _ => hk b w' (by
  have e1 : (Value.int .u8 0).cells = #[Value.int .u8 0] := rfl
  rw [e1,Zhp,Int.toNat_natCast,Nat.mul_one,Zfs] at hS';exact hS')
theorem Zx9 {N : Nat} {ds : Md} {K : Env → World → Prop} {b off j : Nat} {c : UInt8} {L : List UInt8} {T : TypeId} {W : World} {F : Nat → Prop} {rs rs' : List Res} (ho : o.op = .store t x y) (hx : ev σ x = some (.pointer (some (adr (some ⟨b,off,none⟩) j)))) (hy : ev σ y = some (.int .u8 (c.toNat : Int))) [hs : Siz P t 1]
  (hd : o.dst = none) (hS : St W F rs w) [hh : Has rs b (.cells (bv L).toArray T (0,0))] (hfit : off + j < L.length) [hu : Upd rs b (.cells (bv (L.set (off + j) c)).toArray T (0,0)) rs']
  (h : ∀ w',St W F rs' w' → K σ w') : X P o N ds σ w K := Zjr (off := off + j) ho hx hy hd hS hfit h
end
def rds (l : List Bs) : Res := Sep (l.map fun x => bytes x.a x.s)
theorem St.rdsNil {W : World} {F : Nat → Prop} {rs : List Res} {w : World} (hS : St W F rs w) : St W F (rds [] :: rs) w := by
 obtain ⟨h,hs,s⟩ := hS
 exact ⟨h,⟨fun _ => none,h,fun _ => rfl,hs,fun _ => .inl rfl,fun _ => by simp⟩,s⟩
theorem St.rdsCons {W : World} {F : Nat → Prop} {rs : List Res} {w : World} {x : Bs} {l : List Bs} (hS : St W F (bytes x.a x.s :: rds l :: rs) w) : St W F (rds (l ++ [x]) :: rs) w := by
 obtain ⟨h,hs,s⟩ := hS
 refine ⟨h,?_,s⟩
 obtain ⟨h1,h2,a,⟨h3,h4,b,c,d',u'⟩,d,u⟩ := hs
 refine ⟨fun k => (h1 k).or (h3 k),h4,?_,c,fun k => ?_,fun k => ?_⟩
 ·have : Sep (bytes x.a x.s :: (l.map fun x => bytes x.a x.s)) (fun k => (h1 k).or (h3 k)) := ⟨h1,h3,a,b,fun k => by
   rcases d k with e | e
   ·exact .inl e
   ·rw [u'] at e; simp at e; exact .inr e.1,fun _ => rfl⟩
  have p : (bytes x.a x.s :: (l.map fun x => bytes x.a x.s)).Perm ((l ++ [x]).map fun x => bytes x.a x.s) := by
   rw [List.map_append]; exact (List.perm_append_comm (l₁ := [bytes x.a x.s]) (l₂ := l.map fun x => bytes x.a x.s))
  exact Sep.perm p _ this
 ·rcases d k with e | e
  ·rcases d' k with e' | e'
   ·left; simp [e,e']
   ·exact .inr e'
  ·rw [u'] at e; simp at e; exact .inr e.2
 ·rw [u,u']; cases e1 : h1 k <;> simp [e1]
theorem Ro.sep {W : World} {F : Nat → Prop} {rs : List Res} (H : Ro W F (Sep rs)) : ∀ r ∈ rs,Ro W F r := by
 obtain ⟨f,hs,ha⟩ := H
 induction rs generalizing f with
 | nil => intro r hr; cases hr
 | cons x rs ih =>
  obtain ⟨h1,h2,hx,hrs,hd,hu⟩ := hs
  have s1 : ∀ b o,h1 b = some o → f b = some o := fun b o e => by rw [hu,e]; rfl
  have s2 : ∀ b o,h2 b = some o → f b = some o := fun b o e => by
   rw [hu]; rcases hd b with e' | e'
   ·simp [e',e]
   ·rw [e] at e'; simp at e'
  intro r hr
  cases hr with
  | head => exact ⟨h1,hx,fun b o e => ha b o (s1 b o e)⟩
  | tail _ hr => exact ih h2 hrs (fun b o e => ha b o (s2 b o e)) r hr
theorem Ro.rds {W : World} {F : Nat → Prop} {l : List Bs} (H : Ro W F (rds l)) : ∀ x ∈ l,Ro W F (bytes x.a x.s) := fun x hx => Ro.sep H _ (List.mem_map.2 ⟨x,hx,rfl⟩)
end Cr
namespace Cr
open Go Go.Proofs
set_option maxRecDepth 100000
set_option maxHeartbeats 64000000
attribute [local irreducible] Calls

theorem St.total {W : World} {F : Nat → Prop} {rs : List Res} {w : World} {b : Nat} {S : StrM} {T : TypeId} (hS : St W F rs w) [hh : Has rs b (.cells S.cells.toArray T (0,0))] (hok : S.ok) : w.cell? ⟨b,72,none⟩ = some (.int .i64 (S.n : Nat)) := by
 rw [cell_of_row w b 72 _ T (0,0) hS.has];have h1 : (ints .u32 S.H).length = 8 := by rw [ints_length]; exact hok.h8
 have h2 : (bv S.R).length = 64 := by rw [Zak]; exact hok.r64
 simp only [StrM.cells,List.getElem?_toArray]
 rw [List.getElem?_append_right (by omega),List.getElem?_append_right (by omega),h1,h2]
 rfl
def Zwl (n : Nat) (i : Nat) : UInt8 := b8 (ishr .u64 (IntKind.u64.wrap (IntKind.u64.wrap n * 8)) (8 * (7 - i)))
def lenB (n : Nat) : Nat → List UInt8
 | 0 => []
 | i + 1 => lenB n i ++ [Zwl n i]
def gap (n : Nat) : Nat := (119 - n % 64) % 64
def padB (n : Nat) : List UInt8 := 128 :: List.replicate (gap n) 0 ++ lenB n 8
def StrM.sum (rd fs : List Int) (S : StrM) : List UInt8 := outB (S.more rd fs (padB S.n)).H
theorem StrM.more_one {rd fs : List Int} {S : StrM} {l : List UInt8} {c : UInt8} : (S.more rd fs l).one rd fs c = S.more rd fs (l ++ [c]) := by simp [StrM.more]
theorem sum_ (s : Nat) (S : StrM) (rd fs : List Int) (T : TypeId) (W : World) (hok : S.ok) (hn : S.n < 1152921504606846976) (hG : Gl W noF rd fs) (hs : Rd W (pts s (.cells S.cells.toArray T))) :
  Calls Tryz.prog 104 #[.pointer (some ⟨s,0,none⟩)] W (Ret fun v w => v = .agg (bv (S.sum rd fs)).toArray ∧ St W noF [] w) := by
 have hS := St.start W
 have hso := hs.ro
 have hf := hG.first8
 have key : ∀ l : List UInt8,l.length ≤ 100 → (S.more rd fs l).n < 2305843009213693951 := fun l hl => by rw [StrM.more_n]; omega
 refine Zab Tryz.func104 rfl Tryz.ntmps104 rfl ?_
 repeat (first|refine Yeb ?_|refine Yaf ?_|refine Yar (fun _ _ hS _ => ?_)|refine Yec ?_|refine Yab ?_)
 rename_i b2 _ _;rw [Zfs] at hS;refine Zaa _ rfl rfl rfl rfl rfl (Z87 s S T _ hok (hso.rd hS)) ?_
 rintro _ w ⟨p,rfl,hS'⟩
 replace hS := hS.plus hS';clear hS';repeat (first|refine Yeb ?_|refine Yaf ?_|refine Yag ?_|refine Yau ?_|refine Yan ?_|refine Yec ?_|refine Yab ?_)
 refine X_yl (Zau rfl rfl (hS.total hok)) rfl rfl ?_
 repeat (first|refine Yeb ?_|refine Yeq ?_|refine Yec ?_|refine Yab ?_)
 obtain ⟨_,hc,hr,hw,hbk⟩ := hS.call [true,false]
 refine Zaa _ rfl rfl rfl rfl rfl (one_ p S 128 rd fs _ _ _ hok (by omega) (hG.mono hw) hc) ?_
 rintro _ w ⟨_,hS⟩
 replace hS := hbk hS
 clear hc hr hw hbk;repeat (first|refine Yac ?_|refine Yae ?_|refine Yak ?_|refine Yab ?_)
 refine Zaj (α := Nat) (fun k => [(2,.pointer (some ⟨b2,0,none⟩)),(3,.pointer (some ⟨p,0,none⟩)),(4,.int .i64 (S.n : Nat))])
  (fun k w => k ≤ gap S.n ∧ St W noF [pts p (.cells (S.more rd fs (128 :: List.replicate k 0)).cells.toArray 216),pts b2 (.cells (bv (List.replicate 32 0)).toArray 54)] w) (fun k => gap S.n - k) 0 ⟨rfl,rfl,rfl,trivial⟩ ⟨Nat.zero_le _,hS⟩ ?_
 clear hS;rintro k w ⟨hk,hS⟩
 have hg64 : gap S.n < 64 := by unfold gap; omega
 obtain ⟨S',hSe⟩ : ∃ S',S' = S.more rd fs (128 :: List.replicate k 0) := ⟨_,rfl⟩
 have hok' : S'.ok := hSe ▸ StrM.more_ok hf hok
 have hn' : S'.n = S.n + 1 + k := by rw [hSe,StrM.more_n]; simp; omega
 rw [← hSe] at hS;by_cases hkk : k < gap S.n
 ·have h56 : ((S'.n : Int) % 64 = 56) = False := by
   have : ¬ (S'.n : Int) % 64 = 56 := by unfold gap at hkk; omega
   simp [this]
  have h56' : ¬ (S'.n : Int) % 64 = 56 := by rw [h56]; exact id
  clear h56;repeat (first|refine Yaa ?_|refine Yaf ?_|refine Yau ?_|refine Yan ?_|refine Yec ?_)
  refine X_yl (Zau rfl rfl (hS.total hok')) rfl rfl ?_
  repeat (first|refine Yeb ?_|refine Yaf ?_|refine Ybj ?_|refine Yb8 ?_|refine Yad ?_|refine Yak ?_|refine Yal ?_|refine Yaj ?_|refine Yab ?_)
  obtain ⟨_,hc,hr,hw,hbk⟩ := hS.call [true,false]
  refine Zaa _ rfl rfl rfl rfl rfl (one_ p S' 0 rd fs _ _ _ hok' (by omega) (hG.mono hw) hc) ?_
  rintro _ w ⟨_,hS⟩
  replace hS := hbk hS
  clear hc hr hw hbk;repeat (first|refine Yac ?_|refine Yas ?_)
  refine Zae (k + 1) ⟨rfl,rfl,rfl,trivial⟩ ⟨by omega,?_⟩ (by omega)
  rw [hSe,StrM.more_one] at hS;rw [show (128 :: List.replicate (k + 1) 0 : List UInt8) = 128 :: List.replicate k 0 ++ [0] by simp [List.replicate_succ']]
  exact hS
 ·obtain rfl : k = gap S.n := by omega
  have h56 : (S'.n : Int) % 64 = 56 := by unfold gap at hn'; omega
  repeat (first|refine Yaa ?_|refine Yaf ?_|refine Yau ?_|refine Yan ?_|refine Yec ?_)
  refine X_yl (Zau rfl rfl (hS.total hok')) rfl rfl ?_
  repeat (first|refine Yeb ?_|refine Yaf ?_|refine Ybc ?_|refine Yb8 ?_|refine Yae ?_|refine Yad ?_|refine Yak ?_|refine Ya3 ?_|refine Yai ?_|refine Yeh ?_)
  rw [hSe] at hS;clear hSe hok' hn' h56;refine Zaj (α := Nat) (fun i => [(2,.pointer (some ⟨b2,0,none⟩)),(3,.pointer (some ⟨p,0,none⟩)),(4,.int .i64 (S.n : Nat)),(22,.int .i64 (i : Nat))])
   (fun i w => i ≤ 8 ∧ St W noF [pts p (.cells (S.more rd fs (128 :: List.replicate (gap S.n) 0 ++ lenB S.n i)).cells.toArray 216),pts b2 (.cells (bv (List.replicate 32 0)).toArray 54)] w) (fun i => 8 - i) 0 ⟨rfl,rfl,rfl,rfl,trivial⟩ ⟨Nat.zero_le _,by simpa [lenB] using hS⟩ ?_
  clear hS;rintro i w ⟨hi,hS⟩
  have hlen : ∀ i,(lenB S.n i).length = i := fun i => by
   induction i with
   | zero => rfl
   | succ i ih => simp [lenB,ih]
  obtain ⟨S',hSe⟩ : ∃ S',S' = S.more rd fs (128 :: List.replicate (gap S.n) 0 ++ lenB S.n i) := ⟨_,rfl⟩
  have hok' : S'.ok := hSe ▸ StrM.more_ok hf hok
  have hn' : S'.n < 2305843009213693951 := by rw [hSe]; exact key _ (by simp [hlen]; omega)
  rw [← hSe] at hS;by_cases h8 : i < 8
  ·repeat (first|refine Yeb ?_|(refine X_id ?_;first|refine Yaf ?_|refine Yag ?_|refine Ya1 ?_|refine Ybv ?_|refine Yb1 ?_|refine X_yl (Zpq rfl rfl rfl rfl) rfl rfl ?_|refine Ycs ?_|refine Yc0 ?_|refine Ycp ?_)|refine Yef ?_|refine Yab ?_)
   obtain ⟨_,hc,hr,hw,hbk⟩ := hS.call [true,false]
   refine Zaa _ rfl rfl rfl rfl rfl (one_ p S' _ rd fs _ _ _ hok' hn' (hG.mono hw) hc) ?_
   rintro _ w ⟨_,hS⟩
   replace hS := hbk hS
   clear hc hr hw hbk;repeat (first|refine Yeb ?_|refine Yeg ?_|refine Yad ?_|refine Yej ?_)
   refine Zae (i + 1) ⟨rfl,rfl,rfl,rfl,trivial⟩ ⟨by omega,?_⟩ (by omega)
   rw [hSe,StrM.more_one] at hS;simp only [lenB,← List.append_assoc]
   rw [show (8 * (7 - (i : Int))).toNat = 8 * (7 - i) by omega] at hS
   exact hS
  ·obtain rfl : i = 8 := by omega
   have hlen32 : LenO (bv (outB S'.H)) 32 := ⟨by rw [Zak]; exact Ze0 _⟩
   repeat (first|refine Yeb ?_|(refine X_id ?_;first|(refine Zac 154 rfl rfl rfl rfl rfl hS (Z7a p S'.H _ 216 _ hok'.h8 (hS.rd (List.mem_cons_self ..))) ?_;rintro _ _ rfl hS)|refine Yaf ?_|refine Yau ?_|refine Yan ?_|refine Yaz ?_|refine Yb9 (fun _ hS => ?_))|refine Yek ?_|refine Yel ?_)
   refine ⟨?_,hS.drops⟩
   rw [hSe]
   rfl
def Zgv (n : Nat) (i : Nat) : UInt8 := b8 (ishr .i64 n (8 * (3 - i)))
def Zfp (n : Nat) : Nat → List UInt8
 | 0 => List.replicate 4 0
 | i + 1 => (Zfp n i).set i (Zgv n i)
theorem Zef (n : Nat) : ∀ i,(Zfp n i).length = 4
 | 0 => by simp [Zfp]
 | i + 1 => by simp [Zfp,Zef n i]
def Zko (n : Nat) : List UInt8 := Zfp n 4
theorem Za2 (n : Nat) : (Zko n).length = 4 := Zef n 4
def Zaz (l : List (List UInt8)) : List UInt8 := l.flatMap fun s => Zko s.length ++ s
theorem Zgu {l : List (List UInt8)} {i : Nat} {x : List UInt8} (h : l[i]? = some x) : Zaz (l.take (i + 1)) = Zaz (l.take i) ++ (Zko x.length ++ x) := by
 obtain ⟨hi,rfl⟩ := List.getElem?_eq_some_iff.1 h
 rw [List.take_succ_eq_append_getElem hi];simp only [Zaz,List.flatMap_append,List.flatMap_cons,List.flatMap_nil,List.append_nil]
theorem Zc3 (l : List (List UInt8)) (i : Nat) : (Zaz (l.take i)).length ≤ (Zaz l).length := by
 have : Zaz l = Zaz (l.take i) ++ Zaz (l.drop i) := by unfold Zaz; rw [← List.flatMap_append,List.take_append_drop]
 rw [this]; simp
def digest (rd fs : List Int) (l : List (List UInt8)) : List UInt8 := (StrM.init.more rd fs (Zaz l)).sum rd fs
theorem Zbc (rd fs : List Int) (l : List (List UInt8)) : (digest rd fs l).length = 32 := by unfold digest StrM.sum; exact Ze0 _
attribute [irreducible] digest
def Zbe (l : List Bs) : List (List UInt8) := l.map Bs.s
theorem Zne (a : Option Addr) (c : Nat) (l : List Bs) (rd fs : List Int) (W : World) (hn : (Zaz (Zbe l)).length < 1152921504606846976) (hl : l.length < 2305843009213693951) (hG : Gl W noF rd fs) (hB : Bss W noF a l) :
  Calls Tryz.prog 53 #[.slice a l.length c] W (Ret fun v w => v = .agg (bv (digest rd fs (Zbe l))).toArray ∧ St W noF [] w) := by
 have hS := St.start W
 have hf := hG.first8
 refine Zab Tryz.func53 rfl Tryz.ntmps53 rfl ?_
 repeat (first|refine Yeb ?_|(refine X_id ?_;first|refine Yaf ?_|refine Yag ?_|refine Yat ?_|refine Ybm ?_|refine Yba (fun _ _ hS _ => ?_)|refine Yar (fun _ _ hS _ => ?_))|refine Yee ?_|refine Yab ?_)
 rename_i b2 _ _ _ p wp _;rw [Zfs] at hS;replace hS : St W noF [pts p (.cells StrM.init.cells.toArray 216),pts b2 (.cells (bv (List.replicate 32 0)).toArray 54)] wp := hS
 refine Zaj (α := Nat) (fun i => [(2,.pointer (some ⟨b2,0,none⟩)),(3,.pointer (some ⟨p,0,none⟩)),(10,.slice a l.length c),(11,.int .i64 (l.length : Nat)),(12,.int .i64 (i : Nat))])
  (fun i w => i ≤ l.length ∧ St W noF [pts p (.cells (StrM.init.more rd fs (Zaz ((Zbe l).take i))).cells.toArray 216),pts b2 (.cells (bv (List.replicate 32 0)).toArray 54)] w) (fun i => l.length - i) 0 ⟨rfl,rfl,rfl,rfl,rfl,trivial⟩ ⟨Nat.zero_le _,hS⟩ ?_
 clear hS;rintro i w ⟨hi,hS⟩
 have hle := Zc3 (Zbe l) i
 obtain ⟨S',hSe⟩ : ∃ S',S' = StrM.init.more rd fs (Zaz ((Zbe l).take i)) := ⟨_,rfl⟩
 have hok' : S'.ok := hSe ▸ StrM.more_ok hf StrM.init_ok
 have hn' : S'.n = (Zaz ((Zbe l).take i)).length := by rw [hSe,StrM.more_n]; simp [StrM.init]
 rw [← hSe] at hS;by_cases hlt : i < l.length
 ·have hx0 : l[i]? = some l[i] := List.getElem?_eq_getElem hlt
  generalize l[i] = x at hx0;have hxm := List.mem_of_getElem? hx0
  have hbx := hB.all x hxm
  have hj := Zgu (l := Zbe l) (i := i) (x := x.s) (by simp [Zbe,hx0])
  have hle1 := Zc3 (Zbe l) (i + 1)
  rw [hj,List.length_append,List.length_append,Za2] at hle1;obtain ⟨ab,ao,rfl⟩ := (hB.row.rd hS).base (by intro e; simp at e; subst e; simp at hlt)
  have hr := hB.row
  have hx : (l.map Bs.val)[i]? = some (.slice x.a x.s.length x.c) := by simp [hx0,Bs.val]
  repeat (first|refine Yeb ?_|(refine X_id ?_;first|refine Yaf ?_|refine Yag ?_|refine Ya1 ?_|refine Ybd ?_|refine Yb7 ?_|refine Yar (fun _ _ hS _ => ?_))|refine Yef ?_|refine Yab ?_)
  rename_i b6 _ _;refine Zaj (α := Nat) (fun j => [(2,.pointer (some ⟨b2,0,none⟩)),(3,.pointer (some ⟨p,0,none⟩)),(10,.slice (some ⟨ab,ao,none⟩) l.length c),(11,.int .i64 (l.length : Nat)),(12,.int .i64 (i : Nat)),(5,.slice x.a x.s.length x.c),(6,.pointer (some ⟨b6,0,none⟩)),(16,.int .i64 (j : Nat))])
   (fun j w => j ≤ 4 ∧ St W noF [pts b6 (.cells (bv (Zfp x.s.length j)).toArray 217),pts p (.cells S'.cells.toArray 216),pts b2 (.cells (bv (List.replicate 32 0)).toArray 54)] w) (fun j => 4 - j) 0 ⟨rfl,rfl,rfl,rfl,rfl,rfl,rfl,rfl,trivial⟩ ⟨Nat.zero_le _,hS⟩ ?_
  clear hS;rintro j w ⟨hj4,hS⟩
  obtain ⟨B,hBe⟩ : ∃ B,B = Zfp x.s.length j := ⟨_,rfl⟩
  have hBl : B.length = 4 := by rw [hBe]; exact Zef _ _
  rw [← hBe] at hS;by_cases hj : j < 4
  ·repeat (first|refine Yeb ?_|(refine X_id ?_;first|refine Yaf ?_|refine Yag ?_|refine Yat ?_|refine Ya1 ?_|refine Ycj ?_|refine Yaw ?_|refine Ybv ?_|refine Yb1 ?_|refine Ycs ?_|refine Ycp ?_|refine Zjr rfl rfl rfl rfl hS (by omega) (fun _ hS => ?_))|refine Yef ?_|refine Yej ?_)
   refine Zae (j + 1) ⟨rfl,rfl,rfl,rfl,rfl,rfl,rfl,rfl,trivial⟩ ⟨by omega,?_⟩ (by omega)
   simp only [Zfp,Zgv]
   rw [← hBe];rw [show (8 * (3 - (j : Int))).toNat = 8 * (3 - j) by omega,show 0 + (j : Int).toNat * 1 = j by omega] at hS
   exact hS
  ·obtain rfl : j = 4 := by omega
   repeat (first|refine Yeb ?_|refine Yaf ?_|refine Yaz ?_|refine Ydm ?_|refine Ybe (fun _ _ hS _ => ?_)|refine Yeo ?_|refine Yeh ?_)
   rename_i nb wb _;obtain ⟨_,hc,hr,hw,hbk⟩ := hS.call [false,false,true]
   have hBs : Bss wb _ (some ⟨nb,0,none⟩) [⟨some ⟨b6,0,none⟩,4,B⟩,x] := ⟨by
    have := (hr _ (List.mem_cons_self ..)).own_row
    simpa [Bs.val,hBl] using this,fun y hy => by
    simp only [List.mem_cons,List.not_mem_nil,or_false] at hy
    rcases hy with rfl | rfl
    ·exact (hr _ (List.mem_cons_of_mem _ (List.mem_cons_self ..))).mono fun h hh => ⟨h,Zf0 (n := 4) (by simp [← Zak,← hBl]) h hh,fun _ _ e => e⟩
    ·exact hw _ hbx⟩
   refine Zaa _ rfl rfl rfl rfl rfl (Z3l p S' _ _ _ rd fs _ _ _ hok' (by simp [Zah,hBl]; omega) (by simp) (hG.mono hw) hBs hc) ?_
   rintro _ w ⟨rfl,hS⟩
   replace hS := hbk hS
   clear hc hr hw hbk hBs;repeat (first|refine Yeb ?_|refine Yeg ?_|refine Yad ?_|refine Yej ?_)
   refine Zae (i + 1) ⟨rfl,rfl,rfl,rfl,rfl,trivial⟩ ⟨by omega,?_⟩ (by omega)
   have hS := hS.pick [0,2]
   rw [Zgu (x := x.s) (by simp [Zbe,hx0]),StrM.more_append,← hSe]
   rw [show Zah [⟨some ⟨b6,0,none⟩,4,B⟩,x] = Zko x.s.length ++ x.s by rw [hBe]; simp [Zah,Zko]] at hS
   exact hS
 ·obtain rfl : i = l.length := by omega
  have hlen32 : LenO (bv (S'.sum rd fs)) 32 := ⟨by rw [Zak]; exact Ze0 _⟩
  repeat (first|refine Yeb ?_|(refine X_id ?_;first|(refine Zac 104 rfl rfl rfl rfl rfl hS (sum_ p S' rd fs 216 _ hok' (by omega) (hG.mono fun r hr => (hr.rd hS).ro) (hS.rd (List.mem_cons_self ..))) ?_;rintro _ _ rfl hS)|refine Yaf ?_|refine Yaz ?_|refine Yb9 (fun _ hS => ?_))|refine Yek ?_|refine Yel ?_)
  refine ⟨?_,hS.drops⟩
  rw [hSe,show (Zbe l).take l.length = Zbe l from List.take_of_length_le (by simp [Zbe])]
  unfold digest
  rfl
theorem Zsv (a b : Option Addr) (n m c c' : Nat) (s t : List UInt8) (W : World) (ha : Rd W (bytes a s)) (hb : Rd W (bytes b t)) (hn : s.length = n) (hm : t.length = m) :
  Calls Tryz.prog 63 #[.slice a n c,.slice b m c'] W (Ret fun v w => v = .bool (decide (s = t)) ∧ W = w) := by
 refine Zab Tryz.func63 rfl Tryz.ntmps63 rfl ?_
 repeat (first|refine Yeb ?_|refine Yeq ?_|refine Yec ?_|refine Yab ?_)
 refine X_yl (Zcz rfl rfl ha hn) rfl rfl ?_
 repeat (first|refine Yaa ?_|refine Yaf ?_)
 refine X_yl (Zcz rfl rfl hb hm) rfl rfl ?_
 repeat (first|refine Yaa ?_)
 refine X_yl (Zh4 rfl rfl rfl) rfl rfl ?_
 repeat (first|refine Yeb ?_|refine Yag ?_|refine Yah ?_|refine Yed ?_)
 exact ⟨rfl,rfl⟩

theorem Zzv (n : Nat) (w : World) (hn : n ≤ 281474976710656) : ∃ cs : Array Value,(callFunc 232 #[.int .i64 n]).run Tryz.prog w = .ok (.value (.slice (some ⟨w.heap.size,0,none⟩) n cs.size)) (w.drew.drew.alloc (.cells cs 5)) ∧ n ≤ cs.size := by
 obtain ⟨cs,hrun,hle,_⟩ := Lib.run_makeNoZero (P := Tryz.prog) (w := w) #[3] 22 5 (Und.und (P := Tryz.prog) (t := 22) (d := .slice 5)) n hn
 refine ⟨cs,?_,hle⟩
 rw [run_callFunc_extern Tryz.func232 (by kernel_rfl) (by kernel_rfl) (by kernel_rfl) (e := Extern.BytealgMakeNoZero.makeNoZero #[3] #[22]) (by kernel_rfl),hrun]
 rfl
theorem St.alloc2 {W : World} {F : Nat → Prop} {rs : List Res} {w : World} (hS : St W F rs w) (o : Obj) : St W F (pts w.heap.size o :: rs) (w.drew.drew.alloc o) := hS.drew.drew.alloc o

theorem Z80 (ab ao c : Nat) (l : List Bs) (W : World) (hB : Bss W noF (some ⟨ab,ao,none⟩) l) (h2 : 2 ≤ l.length) (hc : l.length ≤ c) (hl : l.length ≤ 1099511627776) (hn : (Zah l).length ≤ 1099511627776) :
  Calls Tryz.prog 201 #[.slice (some ⟨ab,ao,none⟩) l.length c,.slice none 0 0] W (Ret fun v w => ∃ p,v = .slice (some ⟨p,0,none⟩) (Zah l).length (Zah l).length ∧ St W noF [bytes (some ⟨p,0,none⟩) (Zah l)] w) := by
 have hS := St.start W
 refine Zab Tryz.func201 rfl Tryz.ntmps201 rfl ?_
 repeat (first|refine Yeb ?_|(refine X_id ?_;first|refine Yaf ?_|refine Yag ?_|refine Yat ?_|refine Ybh ?_|refine Ybr ?_)|refine Yfa ?_|refine Yab ?_)
 refine Zaj (α := Nat) (fun i => [(0,.slice (some ⟨ab,ao,none⟩) l.length c),(1,.slice none 0 0),(5,.int .i64 ((Zah (l.take i)).length : Nat)),(42,.slice (some ⟨ab,ao,none⟩) l.length c),(43,.int .i64 (l.length : Nat)),(44,.int .i64 (i : Nat))])
  (fun i w => i ≤ l.length ∧ St W noF [] w) (fun i => l.length - i) 0 ⟨rfl,rfl,rfl,rfl,rfl,rfl,trivial⟩ ⟨Nat.zero_le _,hS⟩ ?_
 clear hS;rintro i w ⟨hi,hS⟩
 have hr := hB.row
 by_cases hlt : i < l.length
 ·have hx0 : l[i]? = some l[i] := List.getElem?_eq_getElem hlt
  generalize l[i] = x at hx0;have hx : (l.map Bs.val)[i]? = some (.slice x.a x.s.length x.c) := by simp [hx0,Bs.val]
  have hj := Zcr hx0
  have hle := Zbl l (i + 1)
  have hjl : (Zah (l.take (i + 1))).length = (Zah (l.take i)).length + x.s.length := by rw [hj]; simp
  rw [hjl] at hle;clear hj;repeat (first|refine Yeb ?_|(refine X_id ?_;first|refine Yaf ?_|refine Yag ?_|refine Yat ?_|refine Ya1 ?_|refine Ybr ?_|refine Ybd ?_|refine Yaw ?_|refine Ybv ?_|refine Yb7 ?_)|refine Yei ?_|refine Yej ?_)
  refine Zae (i + 1) ⟨rfl,rfl,by rw [hjl]; rfl,rfl,rfl,rfl,trivial⟩ ⟨by omega,hS⟩ (by omega)
 ·obtain rfl : i = l.length := by omega
  rw [List.take_length];repeat (first|refine Yeb ?_|refine Yaf ?_|refine Yaz ?_|refine Yeo ?_|refine Yeh ?_)
  obtain ⟨cs,hrun,hcs⟩ := Zzv (Zah l).length w (by omega)
  refine Znx rfl rfl rfl hrun rfl rfl ?_
  replace hS := hS.alloc2 (.cells cs 5)
  generalize w.drew.drew.alloc (.cells cs 5) = w2 at hS ⊢;generalize w.heap.size = p at hS ⊢;clear hrun;obtain ⟨T,hT⟩ : ∃ T,T = (Zah l).length := ⟨_,rfl⟩
  have hjt := Zbl l
  rw [← hT] at hcs hn hjt ⊢;repeat (first|refine Yaa ?_|refine Yaf ?_)
  refine X_yl (Zh1 (l := 0) (h := T) (k := T) rfl rfl rfl rfl rfl ⟨_,_,rfl,by omega,by omega,hcs⟩ ⟨_,_,rfl,by omega,by omega,Nat.le_refl _⟩ (.inl ⟨rfl,rfl⟩)) rfl rfl ?_
  rw [sub_zero,Nat.sub_zero];obtain ⟨x,hx0⟩ : ∃ x,l[0]? = some x := ⟨_,List.getElem?_eq_getElem (by omega)⟩
  have hx : (l.map Bs.val)[0]? = some (.slice x.a x.s.length x.c) := by simp [hx0,Bs.val]
  have hbx := hB.all x (List.mem_of_getElem? hx0)
  have hj0 := Zcr hx0
  simp only [List.take_zero,Nat.zero_add] at hj0
  replace hj0 : Zah (l.take 1) = x.s := by rw [hj0]; rfl
  have hx1 := hjt 1
  rw [hj0] at hx1;obtain ⟨c0,rfl⟩ : ∃ c0 : List Value,cs = c0.toArray := ⟨cs.toList,by simp⟩
  have hc0 : T ≤ c0.length := by simpa using hcs
  repeat (first|refine Yeb ?_|refine Yaf ?_|refine Yag ?_|refine Ybd ?_|refine Yb7 ?_|refine Yec ?_|refine Yab ?_)
  refine Zpz rfl rfl rfl rfl rfl hS (hbx.rd hS) (by simp) Zdb (by omega) (fun w hS => ?_)
  rw [List.take_of_length_le (by simp; omega)] at hS;replace hS : St W noF [pts p (.cells (bv (Zah (l.take 1)) ++ c0.drop x.s.length).toArray 5)] w := by
   rw [hj0]; simpa [Zal] using hS
  have hmin : min x.s.length T = (Zah (l.take 1)).length := by rw [hj0]; omega
  rw [hmin];have hjx : (Zah (l.take 1)).length = x.s.length := by rw [hj0]
  clear hmin hx hx0 hbx hj0;repeat (first|refine Yeb ?_|refine Yeq ?_|refine Yec ?_|refine Yab ?_)
  refine X_yl (Zaq (l := 1) (h := l.length) rfl rfl rfl rfl (.inl ⟨rfl,rfl⟩) (.inr ⟨_,_,rfl,by omega,by omega,by omega⟩)) rfl rfl ?_
  rw [show sub (some ⟨ab,ao,none⟩) 1 1 c = some ⟨ab,ao + 1,none⟩ by unfold sub; rw [if_neg (by omega)]; simp [Zbn]]
  have hr' : Ro W noF (row (some ⟨ab,ao + 1,none⟩) ((l.map Bs.val).drop 1)) := hr.mono fun h hh => by
   have := row.part (a := some ⟨ab,ao,none⟩) (cs' := (l.map Bs.val).drop 1) (i := 1) (fun j v hv => by simpa [Nat.add_comm] using hv) h hh
   simpa [adr] using this
  clear hr;repeat (first|refine Yeb ?_|refine Yaf ?_|refine Yat ?_|refine Yak ?_|refine Yab ?_)
  refine Zaj (α := Nat) (fun i => [(1,.slice none 0 0),(8,.slice (some ⟨p,0,none⟩) T T),(9,.int .i64 ((Zah (l.take (i + 1))).length : Nat)),(70,.slice (some ⟨ab,ao + 1,none⟩) (l.length - 1) (c - 1)),(71,.int .i64 ((l.length - 1 : Nat) : Int)),(72,.int .i64 (i : Nat))])
   (fun i w => i ≤ l.length - 1 ∧ ∃ r,r.length + (Zah (l.take (i + 1))).length = c0.length ∧ St W noF [pts p (.cells (bv (Zah (l.take (i + 1))) ++ r).toArray 5)] w) (fun i => l.length - 1 - i) 0 ⟨rfl,rfl,rfl,rfl,rfl,rfl,trivial⟩ ⟨Nat.zero_le _,_,by simp; omega,hS⟩ ?_
  clear hS;rintro i w ⟨hi,r,hrl,hS⟩
  have hjt1 := hjt (i + 1)
  obtain ⟨J,hJ⟩ : ∃ J,J = Zah (l.take (i + 1)) := ⟨_,rfl⟩
  rw [← hJ] at hS hrl hjt1 ⊢;by_cases hlt : i < l.length - 1
  ·obtain ⟨x,hx0⟩ : ∃ x,l[i + 1]? = some x := ⟨_,List.getElem?_eq_getElem (by omega)⟩
   have hbx := hB.all x (List.mem_of_getElem? hx0)
   have hj0 := Zcr hx0
   have hx : ((l.map Bs.val).drop 1)[i]? = some (.slice x.a x.s.length x.c) := by simp [hx0,Bs.val]
   have hx1 := hjt (i + 1 + 1)
   rw [hj0,← hJ,List.length_append] at hx1;have hr := hr'
   repeat (first|refine Yeb ?_|(refine X_id ?_;first|refine Yaf ?_|refine Yag ?_|refine Ya1 ?_|refine Ybd ?_|refine Yb7 ?_)|refine Yef ?_|refine Yab ?_)
   refine X_yl (Zaq (l := J.length) (h := T) rfl rfl rfl rfl (.inl ⟨rfl,rfl⟩) (.inr ⟨_,_,rfl,by omega,by omega,by omega⟩)) rfl rfl ?_
   obtain ⟨off,hoff,hof⟩ : ∃ off,sub (some ⟨p,0,none⟩) J.length 1 T = some ⟨p,off,none⟩ ∧ (off = J.length ∨ (T = J.length ∧ off = 0)) := by
    unfold sub
    by_cases e : T = J.length
    ·exact ⟨0,by rw [if_pos e],.inr ⟨e,rfl⟩⟩
    ·exact ⟨J.length,by rw [if_neg e]; simp [Zbn],.inl rfl⟩
   rw [hoff];repeat (first|refine Yaa ?_|refine Yaf ?_)
   refine Zpz (news := []) rfl rfl rfl rfl rfl hS (Zp1 _ _) rfl (fun _ h => by cases h) (by simp; omega) (fun w hS => ?_)
   rw [show Zal (bv J ++ r) off (([] : List Value).take (T - J.length)) = bv J ++ r by simp [Zal]] at hS
   rw [show ((min 0 (T - J.length) : Nat) : Int) = 0 by omega]
   repeat (first|refine Yeb ?_|refine Yer ?_|refine Yad ?_|refine Yab ?_)
   rw [show (J.length : Int) + 0 = (J.length : Nat) by omega]
   refine X_yl (Zaq (l := J.length) (h := T) rfl rfl rfl rfl (.inl ⟨rfl,rfl⟩) (.inr ⟨_,_,rfl,by omega,by omega,by omega⟩)) rfl rfl ?_
   rw [hoff];repeat (first|refine Yaa ?_|refine Yaf ?_)
   refine Zpz rfl rfl rfl rfl rfl hS (hbx.rd hS) (by simp) Zdb (by simp; omega) (fun w hS => ?_)
   repeat (first|refine Yeb ?_|refine Yer ?_|refine Yad ?_|refine Yej ?_)
   refine Zae (i + 1) ⟨rfl,rfl,?_,rfl,rfl,rfl,trivial⟩ ⟨by omega,r.drop x.s.length,by rw [hj0,← hJ]; simp; omega,?_⟩ (by omega)
   ·show some _ = some _
    rw [hj0,← hJ]
    congr 2
    simp
    omega
   ·rw [hj0,← hJ,Zb8]
    rcases hof with rfl | ⟨e,rfl⟩
    ·rw [List.take_of_length_le (by simp; omega)] at hS
     have : Zal (bv J ++ r) J.length (bv x.s) = bv J ++ bv x.s ++ r.drop x.s.length := by
      have := Ztp (l := bv J) (m := r) (vs := bv x.s) (k := J.length) (n := 0) (by simp)
      rw [Nat.add_zero] at this;rw [this]; simp [Zal]
     rw [this] at hS;exact hS
    ·have h0 : x.s = [] := List.length_eq_zero_iff.1 (by omega)
     rw [h0] at hS ⊢
     simpa [Zal,bv] using hS
  ·obtain rfl : i = l.length - 1 := by omega
   have hJj : J = Zah l := by rw [hJ,show l.length - 1 + 1 = l.length by omega,List.take_length]
   repeat (first|refine Yeb ?_|refine Yfj ?_|refine Yek ?_|refine Yfd ?_)
   refine ⟨p,rfl,hS.head fun h hh => Zf0 (n := J.length) ?_ h hh⟩
   rw [← hJj]; simp
end Cr
