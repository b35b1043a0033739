/-
  Layer 2 (digest): bytes,one.
  The wrap of laws whose rows list the tables of digest,bits and strconv: a world for a witness; what the row lists gives the digest's tables.
  Layer 2 (digest): Write,Fork,Sum.
  Layer 2 (digest): Sum.
  Layer 2 (digest): Framed.
  Layer 2 (digest): Of.
  A bag of rows: read only,and they may lie one in another. Over any program.
  A conversion of bytes to the same type (the model marks the block): the row can be read on. Over any program.
  Bytes made; lists of byte slices as a resource. Over any program.
  Arrays of bytes compared. Over any program.
  Two more rules of the walk: a join behind a test (the rest is walked once),and an assertion in the middle.
  Layer 11 (chain): Start.
  Closed runs,0: slots of a frame,in a structure of sixteens (the kernel projects faster than it walks a trie). No program is in sight.
  Closed runs,the heap: names' objects in a structure of sixteens,five deep. No program is in sight.
-/
import Derived.Test.YteonaddammjopaaGreatDoorChl3
import Derived.Deep.DeepWitnessRowRef
import Derived.Lib.ItoaNum
import Derived.Test.YteonaddammjopaaGreatDoorChl2
import Derived.Laws.StructEq
import Derived.KernelRfl
namespace Cr
open Go Go.Proofs
set_option maxRecDepth 100000
set_option maxHeartbeats 4000000
attribute [local irreducible] Calls

/-! ### bytes -/
def outAt (H : List Int) (i : Nat) : UInt8 := b8 (ishr .u32 (H.getD (i / 4) 0) (24 - i % 4 * 8))
def outTo (H : List Int) : Nat → List UInt8
 | 0 => List.replicate 32 0
 | i + 1 => (outTo H i).set i (outAt H i)
theorem outTo_length (H : List Int) : ∀ i,(outTo H i).length = 32
 | 0 => by simp [outTo]
 | i + 1 => by simp [outTo,outTo_length H i]
def outB (H : List Int) : List UInt8 := outTo H 32
theorem Ze5 (H : List Int) : (outB H).length = 32 := outTo_length H 32
theorem bytes_ (s : Nat) (H : List Int) (r : List Value) (T : TypeId) (W : World) (hH : H.length = 8) (hs : Rd W (pts s (.cells (ints .u32 H ++ r).toArray T))) :
  Calls Tryz.prog 72 #[.pointer (some ⟨s,0,none⟩)] W (Ret fun v w => v = .agg (bv (outB H)).toArray ∧ St W noF [] w) := by
 have hS := St.start W
 have hg : Ro W noF (row (some ⟨s,0,none⟩) (ints .u32 H)) := hs.ro.mono fun h hh => ⟨h,row_pts_at (n := 8) (by rw [List.drop_zero,List.take_append_of_le_length (by rw [ints_length]; omega),List.take_of_length_le (by rw [ints_length]; omega)]) h hh,fun _ _ e => e⟩
 refine Zaq Tryz.func72 rfl Tryz.ntmps72 rfl ?_
 repeat (first|(refine G_id ?_;first|refine Zah ?_|refine Zac rfl rfl ?_)|(refine X_id ?_;first|refine X_yl (Zad rfl rfl) rfl rfl ?_|refine Zbc rfl rfl rfl hS (fun _ _ hS _ => ?_))|(refine C_id ?_;first|refine Zaj ?_|refine Zaa ?_|refine Zat ?_)|(refine E_id ?_;first|refine Zae ?_))
 rename_i b2 _ _ _ b3 _ _
 rw [bv_rep] at hS
 refine Zb8 (α := Nat) (fun i => [(0,.pointer (some ⟨s,0,none⟩)),(2,.pointer (some ⟨b2,0,none⟩)),(3,.pointer (some ⟨b3,0,none⟩)),(5,.int .i64 (i : Nat))])
  (fun i w => i ≤ 32 ∧ St W noF [pts b3 (.cells (bv (outTo H i)).toArray 23),pts b2 (.cells (bv (List.replicate 32 0)).toArray 23)] w) (fun i => 32 - i) 0 ⟨rfl,rfl,rfl,rfl,trivial⟩ ⟨Nat.zero_le _,hS⟩ ?_
 clear hS
 rintro i w ⟨hi,hS⟩
 obtain ⟨L,hLe⟩ : ∃ L,L = outTo H i := ⟨_,rfl⟩
 have hL : L.length = 32 := by rw [hLe]; exact outTo_length H i
 rw [← hLe] at hS
 by_cases h32 : i < 32
 ·repeat (first|(refine G_id ?_;first|refine Zah ?_|refine Zac rfl rfl ?_)|(refine X_id ?_;first|refine X_yl (Zad rfl rfl) rfl rfl ?_|refine X_yl (Zab rfl rfl) rfl rfl ?_|refine X_yl (Zag rfl rfl) rfl rfl ?_|refine X_yl (Za7 rfl rfl rfl (by omega)) rfl rfl ?_|refine X_yl (Zbs rfl rfl rfl (by omega) (by omega)) rfl rfl ?_|refine X_yl (Zbo rfl rfl rfl (w64 (by omega) (by omega))) rfl rfl ?_|refine X_yl (Zdx rfl rfl rfl (w64 (by omega) (by omega))) rfl rfl ?_|refine X_yl (Zfk rfl rfl rfl (w64 (by omega) (by omega))) rfl rfl ?_|refine X_yl (Yl_convU8 rfl rfl) rfl rfl ?_|refine X_yl (Yl_shr rfl rfl rfl (by omega)) rfl rfl ?_|refine X_yl (Yl_quoE rfl rfl rfl (by omega) (by omega) (by omega)) rfl rfl ?_|refine X_yl (Zd2 rfl rfl rfl (by omega) (by omega)) rfl rfl ?_|refine X_yl (Zap rfl rfl ((hg.rd hS).cellI (by omega))) rfl rfl ?_|refine X_storeB rfl rfl rfl rfl hS (by omega) (fun _ hS => ?_))|(refine C_id ?_;first|refine Zaj ?_|refine Zaa ?_|refine Zat ?_|refine Zav ?_|refine Zam rfl ?_)|(refine E_id ?_;first|refine Zae ?_|refine Zbh ?_))
  refine Zbu (i + 1) ⟨rfl,rfl,rfl,rfl,trivial⟩ ⟨by omega,?_⟩ (by omega)
  rw [show 0 + (i : Int).toNat * 1 = i by omega,show ((i : Int) / 4).toNat * 1 = i / 4 by omega,show (24 - (i : Int) % 4 * 8).toNat = 24 - i % 4 * 8 by omega,hLe] at hS
  exact hS
 ·obtain rfl : i = 32 := by omega
  have hlen : LenO (bv L) 32 := ⟨by simp [hL]⟩
  repeat (first|(refine G_id ?_;first|refine Zah ?_|refine Zac rfl rfl ?_)|(refine X_id ?_;first|refine X_yl (Za8 rfl rfl rfl (by omega)) rfl rfl ?_|refine X_yl (Zbf rfl rfl hS.cellsN) rfl rfl ?_|refine Zc2 rfl rfl rfl rfl hS (fun _ hS => ?_))|(refine C_id ?_;first|refine Zaj ?_|refine Zaa ?_|refine Za0 ?_|refine Zb2 ?_|refine Zak rfl ?_)|(refine E_id ?_;first|refine Zae ?_|refine Zaw ?_|refine Za1 ?_|refine Zax rfl (by first|exact Zao rfl|exact Zay rfl (Za5 hS.cell)|exact Zay rfl (Za4 hS.cellsN)) (Ret.mk ?_)))
  exact ⟨by rw [hLe]; rfl,hS.drops⟩

/-! ### one -/
structure StrM where
 H : List Int
 R : List UInt8
 n : Nat
structure StrM.ok (S : StrM) : Prop where
 h8 : S.H.length = 8
 r64 : S.R.length = 64
def StrM.cells (S : StrM) : List Value := ints .u32 S.H ++ (bv S.R ++ [.int .i64 (S.n : Nat)])
def Zfj (fs H : List Int) (n : Nat) : List Int := if n = 0 then fs else H
def StrM.one (rd fs : List Int) (S : StrM) (c : UInt8) : StrM :=
 ⟨if (S.n + 1) % 64 = 0 then blend rd (Zfj fs S.H S.n) (S.R.set (S.n % 64) c) else Zfj fs S.H S.n,S.R.set (S.n % 64) c,S.n + 1⟩
structure Gl (W : World) (F : Nat → Prop) (rd fs : List Int) : Prop where
 round : Ro W F (row (some ⟨1,0,none⟩) (ints .u32 rd))
 first : Ro W F (row (some ⟨0,0,none⟩) (ints .u32 fs))
 round64 : rd.length = 64
 first8 : fs.length = 8
theorem Gl.mono {W w : World} {F F' : Nat → Prop} {rd fs : List Int} (h : Gl W F rd fs) (hw : ∀ r,Ro W F r → Ro w F' r) : Gl w F' rd fs := ⟨hw _ h.round,hw _ h.first,h.round64,h.first8⟩
theorem beginH_length {fs H : List Int} (n : Nat) (h : fs.length = 8) (h' : H.length = 8) : (Zfj fs H n).length = 8 := by unfold Zfj; split <;> assumption
theorem StrM.one_ok {rd fs : List Int} {S : StrM} {c : UInt8} (h : S.ok) (hf : fs.length = 8) : (S.one rd fs c).ok := by
 refine ⟨?_,by simp [StrM.one,h.r64]⟩
 simp only [StrM.one]
 split
 ·rw [blend_length]; exact beginH_length _ hf h.h8
 ·exact beginH_length _ hf h.h8
theorem one_ (s : Nat) (S : StrM) (c : UInt8) (rd fs : List Int) (T : TypeId) (W : World) (F : Nat → Prop) (hok : S.ok) (hn : S.n < 2305843009213693951) (hG : Gl W F rd fs) (hS : St W F [pts s (.cells S.cells.toArray T)] W) :
  Calls Tryz.prog 70 #[.pointer (some ⟨s,0,none⟩),.int .u8 (c.toNat : Int)] W (Ret fun _ w => True ∧ St W F [pts s (.cells (S.one rd fs c).cells.toArray T)] w) := by
 obtain ⟨H,R,n⟩ := S
 obtain ⟨h8,r64⟩ := hok
 unfold StrM.cells at hS
 simp only at h8 r64 hn hS
 have hl1 : LenO (ints .u32 H) 8 := ⟨by rw [ints_length]; exact h8⟩
 have hl2 : LenO (bv R) 64 := ⟨by simp [r64]⟩
 have hl3 : LenO (ints .u32 fs) 8 := ⟨by rw [ints_length]; exact hG.first8⟩
 refine Zaq Tryz.func70 rfl Tryz.ntmps70 rfl ?_
 have hc1 : ∀ H',Zfj fs H n = H' → H'.length = 8 := fun H' e => e ▸ beginH_length n hG.first8 h8
 have hend : ∀ H' w,Zfj fs H n = H' → St W F [pts s (.cells (ints .u32 (if (n + 1) % 64 = 0 then blend rd H' (R.set (n % 64) c) else H') ++ (bv (R.set (n % 64) c) ++ [Value.int .i64 ((n + 1 : Nat) : Int)])).toArray T)] w →
   St W F [pts s (.cells (StrM.one rd fs ⟨H,R,n⟩ c).cells.toArray T)] w := fun H' w e h => by
  unfold StrM.one StrM.cells; simp only [e]; exact h
 have ei : ((n : Int) % 64).toNat * 1 = n % 64 := by omega
 by_cases h0 : n = 0
 all_goals by_cases h64 : (n + 1) % 64 = 0
 ·repeat (first|(refine G_id ?_;first|refine Zah ?_|refine Zac rfl rfl ?_)|(refine X_id ?_;first|refine X_yl (Zad rfl rfl) rfl rfl ?_|refine X_yl (Zag rfl rfl) rfl rfl ?_|refine X_yl (Zaf rfl rfl rfl) rfl rfl ?_|refine X_yl (Zdq rfl rfl rfl (by omega)) rfl rfl ?_|refine X_yl (Zap rfl rfl hS.cell) rfl rfl ?_)|(refine C_id ?_;first|refine Zaj ?_|refine Zaa ?_|refine Zam rfl ?_)|(refine E_id ?_;first|refine Zae ?_))
  refine X_yl (Zea rfl rfl ((hG.first.rd hS).cellsAt rfl) (by rw [ints_length]; exact hG.first8)) rfl rfl ?_
  repeat (first|(refine G_id ?_;first|refine Zah ?_|refine Zac rfl rfl ?_)|(refine X_id ?_;first|refine X_yl (Zag rfl rfl) rfl rfl ?_|refine X_yl (Zaf rfl rfl rfl) rfl rfl ?_|refine Za2 rfl rfl rfl rfl hS (fun _ hS _ => ?_))|(refine C_id ?_;first|refine Zaj ?_)|(refine E_id ?_;first|refine Zae ?_))
  have e1 : Zfj fs H n = fs := by simp [Zfj,h0]
  refine Zco (.s 0 (.s 1 (.s 2 (.s 3 (.s 4 (.s 5 (.s 6 (.s 7 (.s 8 (.s 9 (.h 10 .nil .no))))))))))) mixed (by kernel_rfl) rfl ?_
  have hS := hS.drew
  repeat (first|(refine G_id ?_;first|refine Zah ?_|refine Zac rfl rfl ?_)|(refine X_id ?_;first|refine X_yl (Zad rfl rfl) rfl rfl ?_|refine X_yl (Zag rfl rfl) rfl rfl ?_|refine X_yl (Zaf rfl rfl rfl) rfl rfl ?_|refine X_yl (Zdq rfl rfl rfl (by omega)) rfl rfl ?_|refine X_yl (Zbo rfl rfl rfl (w64 (by omega) (by omega))) rfl rfl ?_|refine X_yl (Zd2 rfl rfl rfl (by omega) (by omega)) rfl rfl ?_|refine X_yl (Zap rfl rfl hS.cell) rfl rfl ?_|refine X_storeMB rfl rfl rfl rfl hS rfl (by omega) (fun _ hS => ?_)|refine Za2 rfl rfl rfl rfl hS (fun _ hS _ => ?_))|(refine C_id ?_;first|refine Zaj ?_|refine Zaa ?_|refine Zam rfl ?_)|(refine E_id ?_;first|refine Zae ?_)|(refine Zbm ?_;first|refine Zbv ?_|refine Zai rfl rfl (fun _ => Zad rfl rfl) rfl rfl ?_|refine Zai rfl rfl (fun _ => Zag rfl rfl) rfl rfl ?_|refine Zai rfl rfl (fun _ => Zaf rfl rfl rfl) rfl rfl ?_|refine Zai rfl rfl (fun _ => Zbs rfl rfl rfl (by omega) (by omega)) rfl rfl ?_|refine Zai rfl rfl (fun _ => Zd2 rfl rfl rfl (by omega) (by omega)) rfl rfl ?_|refine Zbq (fun w' => w'.cell? _ = some _) rfl rfl hS.cell (fun _ hc => Zap rfl rfl hc) rfl rfl ?_|refine Za9 rfl rfl ?_)|(refine Za3 ?_;first|refine And.intro (by repeat (first|exact trivial|refine And.intro (.inl (by decide +kernel)) ?_|refine And.intro (.inr (by first|assumption|exact hS.cell|exact Zan (by assumption)|exact hS.cellI (by omega)|exact hS.cellIP (by omega)|exact hS.cellsN|exact ((hr.rd hS).cellX (by omega) hx)|exact ((hr2.rd hS).cellX (by omega) hx2)|exact hS.cellB (by omega)|exact hS.cellBA (by omega)|exact (hb.rd hS).cellB' (by omega)|exact (hb2.rd hS).cellB' (by omega)|exact (hg.rd hS).cellI (by omega)|exact (hg2.rd hS).cellI (by omega)|exact ((hr.rd hS).cellF (by first|omega|(dsimp only;omega)) hx)|exact ((hr2.rd hS).cellF (by first|omega|(dsimp only;omega)) hx2)|exact hS.cellO 0 (by omega)|exact hS.cellO 1 (by omega)|exact hS.cellIA (by omega)|exact (hg.rd hS).cellIA (by omega)|exact (hg2.rd hS).cellIA (by omega)|exact Zan (hc.rd hS).pts|exact hb.rd hS|exact (hr.rd hS).cellsF7 (by first|omega|(dsimp only;omega)) hst4 rfl|exact (hr2.rd hS).cellsF7 (by first|omega|(dsimp only;omega)) hst4 rfl|exact hS.cellO 4 (by omega)|exact hS.cellO 5 (by omega)|exact hS.cellO 6 (by omega)|exact hS.cellO 7 (by omega)|exact hS.cellO 8 (by omega)|exact hS.cellO 9 (by omega)|exact hS.cellO 10 (by omega)|exact hS.cellO 11 (by omega)|exact hS.cellO 12 (by omega)|exact hS.cellO 13 (by omega)|exact hS.cellO 2 (by omega)|exact hS.cellO 3 (by omega))) ?_)) ?_))
  rw [ei] at hS
  refine Zco (.s 0 (.s 1 (.s 2 (.s 3 (.s 4 (.s 5 (.s 6 (.h 7 .nil .no)))))))) mixed (by kernel_rfl) rfl ?_
  have hS := hS.drew
  repeat (first|(refine Zbm ?_;first|refine Zai rfl rfl (fun _ => Zad rfl rfl) rfl rfl ?_|refine Zai rfl rfl (fun _ => Zag rfl rfl) rfl rfl ?_|refine Zai rfl rfl (fun _ => Zaf rfl rfl rfl) rfl rfl ?_|refine Zai rfl rfl (fun _ => Zcw rfl rfl) rfl rfl ?_|refine Za9 rfl rfl ?_))
  obtain ⟨_,hc,hr,hw,hbk⟩ := hS.call [true]
  refine Zal _ rfl rfl rfl rfl rfl (mix_ s fs rd (R.set (n % 64) c) (↑n + 1) T _ _ (hc1 _ e1) (by simp [r64]) hG.round64 (hw _ hG.round) hc) ?_
  rintro _ w ⟨_,hS⟩
  replace hS := hbk hS
  clear hc hr hw hbk
  repeat (first|(refine E_id ?_;first|refine Zem rfl (Ret.mk ?_))|(refine Zbm ?_;first|refine Zbv ?_)|(refine Za3 ?_;first|refine And.intro (by repeat (first|exact trivial|refine And.intro (.inl (by decide +kernel)) ?_|refine And.intro (.inr (by first|assumption|exact hS.cell|exact Zan (by assumption)|exact hS.cellI (by omega)|exact hS.cellIP (by omega)|exact hS.cellsN|exact ((hr.rd hS).cellX (by omega) hx)|exact ((hr2.rd hS).cellX (by omega) hx2)|exact hS.cellB (by omega)|exact hS.cellBA (by omega)|exact (hb.rd hS).cellB' (by omega)|exact (hb2.rd hS).cellB' (by omega)|exact (hg.rd hS).cellI (by omega)|exact (hg2.rd hS).cellI (by omega)|exact ((hr.rd hS).cellF (by first|omega|(dsimp only;omega)) hx)|exact ((hr2.rd hS).cellF (by first|omega|(dsimp only;omega)) hx2)|exact hS.cellO 0 (by omega)|exact hS.cellO 1 (by omega)|exact hS.cellIA (by omega)|exact (hg.rd hS).cellIA (by omega)|exact (hg2.rd hS).cellIA (by omega)|exact Zan (hc.rd hS).pts|exact hb.rd hS|exact (hr.rd hS).cellsF7 (by first|omega|(dsimp only;omega)) hst4 rfl|exact (hr2.rd hS).cellsF7 (by first|omega|(dsimp only;omega)) hst4 rfl|exact hS.cellO 4 (by omega)|exact hS.cellO 5 (by omega)|exact hS.cellO 6 (by omega)|exact hS.cellO 7 (by omega)|exact hS.cellO 8 (by omega)|exact hS.cellO 9 (by omega)|exact hS.cellO 10 (by omega)|exact hS.cellO 11 (by omega)|exact hS.cellO 12 (by omega)|exact hS.cellO 13 (by omega)|exact hS.cellO 2 (by omega)|exact hS.cellO 3 (by omega))) ?_)) ?_))
  refine ⟨trivial,hend _ _ e1 ?_⟩
  rw [if_pos h64]
  exact hS
 ·repeat (first|(refine G_id ?_;first|refine Zah ?_|refine Zac rfl rfl ?_)|(refine X_id ?_;first|refine X_yl (Zad rfl rfl) rfl rfl ?_|refine X_yl (Zag rfl rfl) rfl rfl ?_|refine X_yl (Zaf rfl rfl rfl) rfl rfl ?_|refine X_yl (Zdq rfl rfl rfl (by omega)) rfl rfl ?_|refine X_yl (Zap rfl rfl hS.cell) rfl rfl ?_)|(refine C_id ?_;first|refine Zaj ?_|refine Zaa ?_|refine Zam rfl ?_)|(refine E_id ?_;first|refine Zae ?_))
  refine X_yl (Zea rfl rfl ((hG.first.rd hS).cellsAt rfl) (by rw [ints_length]; exact hG.first8)) rfl rfl ?_
  repeat (first|(refine G_id ?_;first|refine Zah ?_|refine Zac rfl rfl ?_)|(refine X_id ?_;first|refine X_yl (Zag rfl rfl) rfl rfl ?_|refine X_yl (Zaf rfl rfl rfl) rfl rfl ?_|refine Za2 rfl rfl rfl rfl hS (fun _ hS _ => ?_))|(refine C_id ?_;first|refine Zaj ?_)|(refine E_id ?_;first|refine Zae ?_))
  have e1 : Zfj fs H n = fs := by simp [Zfj,h0]
  refine Zco (.s 0 (.s 1 (.s 2 (.s 3 (.s 4 (.s 5 (.s 6 (.s 7 (.s 8 (.s 9 (.h 10 .nil .no))))))))))) mixed (by kernel_rfl) rfl ?_
  have hS := hS.drew
  repeat (first|(refine G_id ?_;first|refine Zah ?_|refine Zac rfl rfl ?_)|(refine X_id ?_;first|refine X_yl (Zad rfl rfl) rfl rfl ?_|refine X_yl (Zag rfl rfl) rfl rfl ?_|refine X_yl (Zaf rfl rfl rfl) rfl rfl ?_|refine X_yl (Zd3 rfl rfl rfl (by omega)) rfl rfl ?_|refine X_yl (Zbo rfl rfl rfl (w64 (by omega) (by omega))) rfl rfl ?_|refine X_yl (Zd2 rfl rfl rfl (by omega) (by omega)) rfl rfl ?_|refine X_yl (Zap rfl rfl hS.cell) rfl rfl ?_|refine X_storeMB rfl rfl rfl rfl hS rfl (by omega) (fun _ hS => ?_)|refine Za2 rfl rfl rfl rfl hS (fun _ hS _ => ?_))|(refine C_id ?_;first|refine Zaj ?_|refine Zaa ?_|refine Zav ?_|refine Zak rfl ?_)|(refine E_id ?_;first|refine Zae ?_|refine Zem rfl (Ret.mk ?_))|(refine Zbm ?_;first|refine Zbv ?_|refine Zai rfl rfl (fun _ => Zad rfl rfl) rfl rfl ?_|refine Zai rfl rfl (fun _ => Zag rfl rfl) rfl rfl ?_|refine Zai rfl rfl (fun _ => Zaf rfl rfl rfl) rfl rfl ?_|refine Zai rfl rfl (fun _ => Zbs rfl rfl rfl (by omega) (by omega)) rfl rfl ?_|refine Zai rfl rfl (fun _ => Zd2 rfl rfl rfl (by omega) (by omega)) rfl rfl ?_|refine Zbq (fun w' => w'.cell? _ = some _) rfl rfl hS.cell (fun _ hc => Zap rfl rfl hc) rfl rfl ?_|refine Za9 rfl rfl ?_)|(refine Za3 ?_;first|refine And.intro (by repeat (first|exact trivial|refine And.intro (.inl (by decide +kernel)) ?_|refine And.intro (.inr (by first|assumption|exact hS.cell|exact Zan (by assumption)|exact hS.cellI (by omega)|exact hS.cellIP (by omega)|exact hS.cellsN|exact ((hr.rd hS).cellX (by omega) hx)|exact ((hr2.rd hS).cellX (by omega) hx2)|exact hS.cellB (by omega)|exact hS.cellBA (by omega)|exact (hb.rd hS).cellB' (by omega)|exact (hb2.rd hS).cellB' (by omega)|exact (hg.rd hS).cellI (by omega)|exact (hg2.rd hS).cellI (by omega)|exact ((hr.rd hS).cellF (by first|omega|(dsimp only;omega)) hx)|exact ((hr2.rd hS).cellF (by first|omega|(dsimp only;omega)) hx2)|exact hS.cellO 0 (by omega)|exact hS.cellO 1 (by omega)|exact hS.cellIA (by omega)|exact (hg.rd hS).cellIA (by omega)|exact (hg2.rd hS).cellIA (by omega)|exact Zan (hc.rd hS).pts|exact hb.rd hS|exact (hr.rd hS).cellsF7 (by first|omega|(dsimp only;omega)) hst4 rfl|exact (hr2.rd hS).cellsF7 (by first|omega|(dsimp only;omega)) hst4 rfl|exact hS.cellO 4 (by omega)|exact hS.cellO 5 (by omega)|exact hS.cellO 6 (by omega)|exact hS.cellO 7 (by omega)|exact hS.cellO 8 (by omega)|exact hS.cellO 9 (by omega)|exact hS.cellO 10 (by omega)|exact hS.cellO 11 (by omega)|exact hS.cellO 12 (by omega)|exact hS.cellO 13 (by omega)|exact hS.cellO 2 (by omega)|exact hS.cellO 3 (by omega))) ?_)) ?_))
  rw [ei] at hS
  refine ⟨trivial,hend _ _ e1 ?_⟩
  rw [if_neg h64]
  exact hS
 ·have e1 : Zfj fs H n = H := by simp [Zfj,h0]
  repeat (first|(refine G_id ?_;first|refine Zah ?_|refine Zac rfl rfl ?_)|(refine X_id ?_;first|refine X_yl (Zad rfl rfl) rfl rfl ?_|refine X_yl (Zag rfl rfl) rfl rfl ?_|refine X_yl (Zaf rfl rfl rfl) rfl rfl ?_|refine X_yl (Zd3 rfl rfl rfl (by omega)) rfl rfl ?_|refine X_yl (Zap rfl rfl hS.cell) rfl rfl ?_)|(refine C_id ?_;first|refine Zaj ?_|refine Zaa ?_|refine Zav ?_|refine Zak rfl ?_)|(refine E_id ?_;first|refine Zae ?_))
  refine Zco (.s 0 (.s 1 (.s 2 (.s 3 (.s 4 (.s 5 (.s 6 (.s 7 (.s 8 (.s 9 (.h 10 .nil .no))))))))))) mixed (by kernel_rfl) rfl ?_
  have hS := hS.drew
  repeat (first|(refine G_id ?_;first|refine Zah ?_|refine Zac rfl rfl ?_)|(refine X_id ?_;first|refine X_yl (Zad rfl rfl) rfl rfl ?_|refine X_yl (Zag rfl rfl) rfl rfl ?_|refine X_yl (Zaf rfl rfl rfl) rfl rfl ?_|refine X_yl (Zdq rfl rfl rfl (by omega)) rfl rfl ?_|refine X_yl (Zbo rfl rfl rfl (w64 (by omega) (by omega))) rfl rfl ?_|refine X_yl (Zd2 rfl rfl rfl (by omega) (by omega)) rfl rfl ?_|refine X_yl (Zap rfl rfl hS.cell) rfl rfl ?_|refine X_storeMB rfl rfl rfl rfl hS rfl (by omega) (fun _ hS => ?_)|refine Za2 rfl rfl rfl rfl hS (fun _ hS _ => ?_))|(refine C_id ?_;first|refine Zaj ?_|refine Zaa ?_|refine Zam rfl ?_)|(refine E_id ?_;first|refine Zae ?_)|(refine Zbm ?_;first|refine Zbv ?_|refine Zai rfl rfl (fun _ => Zad rfl rfl) rfl rfl ?_|refine Zai rfl rfl (fun _ => Zag rfl rfl) rfl rfl ?_|refine Zai rfl rfl (fun _ => Zaf rfl rfl rfl) rfl rfl ?_|refine Zai rfl rfl (fun _ => Zbs rfl rfl rfl (by omega) (by omega)) rfl rfl ?_|refine Zai rfl rfl (fun _ => Zd2 rfl rfl rfl (by omega) (by omega)) rfl rfl ?_|refine Zbq (fun w' => w'.cell? _ = some _) rfl rfl hS.cell (fun _ hc => Zap rfl rfl hc) rfl rfl ?_|refine Za9 rfl rfl ?_)|(refine Za3 ?_;first|refine And.intro (by repeat (first|exact trivial|refine And.intro (.inl (by decide +kernel)) ?_|refine And.intro (.inr (by first|assumption|exact hS.cell|exact Zan (by assumption)|exact hS.cellI (by omega)|exact hS.cellIP (by omega)|exact hS.cellsN|exact ((hr.rd hS).cellX (by omega) hx)|exact ((hr2.rd hS).cellX (by omega) hx2)|exact hS.cellB (by omega)|exact hS.cellBA (by omega)|exact (hb.rd hS).cellB' (by omega)|exact (hb2.rd hS).cellB' (by omega)|exact (hg.rd hS).cellI (by omega)|exact (hg2.rd hS).cellI (by omega)|exact ((hr.rd hS).cellF (by first|omega|(dsimp only;omega)) hx)|exact ((hr2.rd hS).cellF (by first|omega|(dsimp only;omega)) hx2)|exact hS.cellO 0 (by omega)|exact hS.cellO 1 (by omega)|exact hS.cellIA (by omega)|exact (hg.rd hS).cellIA (by omega)|exact (hg2.rd hS).cellIA (by omega)|exact Zan (hc.rd hS).pts|exact hb.rd hS|exact (hr.rd hS).cellsF7 (by first|omega|(dsimp only;omega)) hst4 rfl|exact (hr2.rd hS).cellsF7 (by first|omega|(dsimp only;omega)) hst4 rfl|exact hS.cellO 4 (by omega)|exact hS.cellO 5 (by omega)|exact hS.cellO 6 (by omega)|exact hS.cellO 7 (by omega)|exact hS.cellO 8 (by omega)|exact hS.cellO 9 (by omega)|exact hS.cellO 10 (by omega)|exact hS.cellO 11 (by omega)|exact hS.cellO 12 (by omega)|exact hS.cellO 13 (by omega)|exact hS.cellO 2 (by omega)|exact hS.cellO 3 (by omega))) ?_)) ?_))
  rw [ei] at hS
  refine Zco (.s 0 (.s 1 (.s 2 (.s 3 (.s 4 (.s 5 (.s 6 (.h 7 .nil .no)))))))) mixed (by kernel_rfl) rfl ?_
  have hS := hS.drew
  repeat (first|(refine Zbm ?_;first|refine Zai rfl rfl (fun _ => Zad rfl rfl) rfl rfl ?_|refine Zai rfl rfl (fun _ => Zag rfl rfl) rfl rfl ?_|refine Zai rfl rfl (fun _ => Zaf rfl rfl rfl) rfl rfl ?_|refine Zai rfl rfl (fun _ => Zcw rfl rfl) rfl rfl ?_|refine Za9 rfl rfl ?_))
  obtain ⟨_,hc,hr,hw,hbk⟩ := hS.call [true]
  refine Zal _ rfl rfl rfl rfl rfl (mix_ s H rd (R.set (n % 64) c) (↑n + 1) T _ _ (hc1 _ e1) (by simp [r64]) hG.round64 (hw _ hG.round) hc) ?_
  rintro _ w ⟨_,hS⟩
  replace hS := hbk hS
  clear hc hr hw hbk
  repeat (first|(refine E_id ?_;first|refine Zem rfl (Ret.mk ?_))|(refine Zbm ?_;first|refine Zbv ?_)|(refine Za3 ?_;first|refine And.intro (by repeat (first|exact trivial|refine And.intro (.inl (by decide +kernel)) ?_|refine And.intro (.inr (by first|assumption|exact hS.cell|exact Zan (by assumption)|exact hS.cellI (by omega)|exact hS.cellIP (by omega)|exact hS.cellsN|exact ((hr.rd hS).cellX (by omega) hx)|exact ((hr2.rd hS).cellX (by omega) hx2)|exact hS.cellB (by omega)|exact hS.cellBA (by omega)|exact (hb.rd hS).cellB' (by omega)|exact (hb2.rd hS).cellB' (by omega)|exact (hg.rd hS).cellI (by omega)|exact (hg2.rd hS).cellI (by omega)|exact ((hr.rd hS).cellF (by first|omega|(dsimp only;omega)) hx)|exact ((hr2.rd hS).cellF (by first|omega|(dsimp only;omega)) hx2)|exact hS.cellO 0 (by omega)|exact hS.cellO 1 (by omega)|exact hS.cellIA (by omega)|exact (hg.rd hS).cellIA (by omega)|exact (hg2.rd hS).cellIA (by omega)|exact Zan (hc.rd hS).pts|exact hb.rd hS|exact (hr.rd hS).cellsF7 (by first|omega|(dsimp only;omega)) hst4 rfl|exact (hr2.rd hS).cellsF7 (by first|omega|(dsimp only;omega)) hst4 rfl|exact hS.cellO 4 (by omega)|exact hS.cellO 5 (by omega)|exact hS.cellO 6 (by omega)|exact hS.cellO 7 (by omega)|exact hS.cellO 8 (by omega)|exact hS.cellO 9 (by omega)|exact hS.cellO 10 (by omega)|exact hS.cellO 11 (by omega)|exact hS.cellO 12 (by omega)|exact hS.cellO 13 (by omega)|exact hS.cellO 2 (by omega)|exact hS.cellO 3 (by omega))) ?_)) ?_))
  refine ⟨trivial,hend _ _ e1 ?_⟩
  rw [if_pos h64]
  exact hS
 ·have e1 : Zfj fs H n = H := by simp [Zfj,h0]
  repeat (first|(refine G_id ?_;first|refine Zah ?_|refine Zac rfl rfl ?_)|(refine X_id ?_;first|refine X_yl (Zad rfl rfl) rfl rfl ?_|refine X_yl (Zag rfl rfl) rfl rfl ?_|refine X_yl (Zaf rfl rfl rfl) rfl rfl ?_|refine X_yl (Zd3 rfl rfl rfl (by omega)) rfl rfl ?_|refine X_yl (Zap rfl rfl hS.cell) rfl rfl ?_)|(refine C_id ?_;first|refine Zaj ?_|refine Zaa ?_|refine Zav ?_|refine Zak rfl ?_)|(refine E_id ?_;first|refine Zae ?_))
  refine Zco (.s 0 (.s 1 (.s 2 (.s 3 (.s 4 (.s 5 (.s 6 (.s 7 (.s 8 (.s 9 (.h 10 .nil .no))))))))))) mixed (by kernel_rfl) rfl ?_
  have hS := hS.drew
  repeat (first|(refine G_id ?_;first|refine Zah ?_|refine Zac rfl rfl ?_)|(refine X_id ?_;first|refine X_yl (Zad rfl rfl) rfl rfl ?_|refine X_yl (Zag rfl rfl) rfl rfl ?_|refine X_yl (Zaf rfl rfl rfl) rfl rfl ?_|refine X_yl (Zd3 rfl rfl rfl (by omega)) rfl rfl ?_|refine X_yl (Zbo rfl rfl rfl (w64 (by omega) (by omega))) rfl rfl ?_|refine X_yl (Zd2 rfl rfl rfl (by omega) (by omega)) rfl rfl ?_|refine X_yl (Zap rfl rfl hS.cell) rfl rfl ?_|refine X_storeMB rfl rfl rfl rfl hS rfl (by omega) (fun _ hS => ?_)|refine Za2 rfl rfl rfl rfl hS (fun _ hS _ => ?_))|(refine C_id ?_;first|refine Zaj ?_|refine Zaa ?_|refine Zav ?_|refine Zak rfl ?_)|(refine E_id ?_;first|refine Zae ?_|refine Zem rfl (Ret.mk ?_))|(refine Zbm ?_;first|refine Zbv ?_|refine Zai rfl rfl (fun _ => Zad rfl rfl) rfl rfl ?_|refine Zai rfl rfl (fun _ => Zag rfl rfl) rfl rfl ?_|refine Zai rfl rfl (fun _ => Zaf rfl rfl rfl) rfl rfl ?_|refine Zai rfl rfl (fun _ => Zbs rfl rfl rfl (by omega) (by omega)) rfl rfl ?_|refine Zai rfl rfl (fun _ => Zd2 rfl rfl rfl (by omega) (by omega)) rfl rfl ?_|refine Zbq (fun w' => w'.cell? _ = some _) rfl rfl hS.cell (fun _ hc => Zap rfl rfl hc) rfl rfl ?_|refine Za9 rfl rfl ?_)|(refine Za3 ?_;first|refine And.intro (by repeat (first|exact trivial|refine And.intro (.inl (by decide +kernel)) ?_|refine And.intro (.inr (by first|assumption|exact hS.cell|exact Zan (by assumption)|exact hS.cellI (by omega)|exact hS.cellIP (by omega)|exact hS.cellsN|exact ((hr.rd hS).cellX (by omega) hx)|exact ((hr2.rd hS).cellX (by omega) hx2)|exact hS.cellB (by omega)|exact hS.cellBA (by omega)|exact (hb.rd hS).cellB' (by omega)|exact (hb2.rd hS).cellB' (by omega)|exact (hg.rd hS).cellI (by omega)|exact (hg2.rd hS).cellI (by omega)|exact ((hr.rd hS).cellF (by first|omega|(dsimp only;omega)) hx)|exact ((hr2.rd hS).cellF (by first|omega|(dsimp only;omega)) hx2)|exact hS.cellO 0 (by omega)|exact hS.cellO 1 (by omega)|exact hS.cellIA (by omega)|exact (hg.rd hS).cellIA (by omega)|exact (hg2.rd hS).cellIA (by omega)|exact Zan (hc.rd hS).pts|exact hb.rd hS|exact (hr.rd hS).cellsF7 (by first|omega|(dsimp only;omega)) hst4 rfl|exact (hr2.rd hS).cellsF7 (by first|omega|(dsimp only;omega)) hst4 rfl|exact hS.cellO 4 (by omega)|exact hS.cellO 5 (by omega)|exact hS.cellO 6 (by omega)|exact hS.cellO 7 (by omega)|exact hS.cellO 8 (by omega)|exact hS.cellO 9 (by omega)|exact hS.cellO 10 (by omega)|exact hS.cellO 11 (by omega)|exact hS.cellO 12 (by omega)|exact hS.cellO 13 (by omega)|exact hS.cellO 2 (by omega)|exact hS.cellO 3 (by omega))) ?_)) ?_))
  rw [ei] at hS
  refine ⟨trivial,hend _ _ e1 ?_⟩
  rw [if_neg h64]
  exact hS
end Cr
namespace Go.Proofs.YteonaddammjopaaGreatDoor
open Go.ChangeShapes Go.WideShapes Go.ChangeAt Go.RowKit
set_option maxRecDepth 100000
def tab32 : List Int := [0,1,28,2,29,14,24,3,30,22,20,15,25,17,4,8,31,27,13,23,21,19,16,7,26,12,18,6,11,5,10,9]
def tab64 : List Int := [0,1,56,2,57,49,28,3,61,58,42,50,38,29,17,4,62,47,59,36,45,43,51,22,53,39,33,30,24,18,12,5,63,55,48,27,60,41,37,16,46,35,44,21,52,32,23,11,54,26,40,15,34,20,31,10,25,14,19,9,13,8,7,6]
def rangeText : List UInt8 := [118,97,108,117,101,32,111,117,116,32,111,102,32,114,97,110,103,101]
def syntaxText : List UInt8 := [105,110,118,97,108,105,100,32,115,121,110,116,97,120]
noncomputable def lowBlock : Nat := (World.holding Tryz.prog default ⟨#[],#[],[]⟩).heap.size
def u8s (l : List Int) : List Value := l.map fun n => Value.int .u8 n
noncomputable def lawWorldT (os : Os) : World :=
 let w0 := World.holding Tryz.prog os ⟨#[.cells #[.string (Cr.str rangeText)] 407,.cells #[.string (Cr.str syntaxText)] 407],#[],[]⟩
 { w0 with heap := ((((((w0.heap.modify 4 (tabOf (u8s tab32))).modify 5 (tabOf (u8s tab64))).modify 2 (tabOf (Lib.pow10Tab.map fun z => Value.int .u64 z))).modify 7 (tabOf [.iface 405 (.pointer (some ⟨lowBlock,0,none⟩))])).modify 6 (tabOf [.iface 405 (.pointer (some ⟨lowBlock + 1,0,none⟩))])).modify 1 (tabOf (Cr.ints .u32 Cr.roundL))).modify 0 (tabOf (Cr.ints .u32 Cr.firstL)) }
theorem gl_of_laidT {W : World} (h1 : Lib.TabIs Tryz.prog W "creel/digest.round" .u32 Cr.roundL) (h2 : Lib.TabIs Tryz.prog W "creel/digest.first" .u32 Cr.firstL) : Cr.Gl W Cr.noF Cr.roundL Cr.firstL := by
 refine ⟨(Cr.Rd.ofCells (fun i v hv => ?_) (by simp [Cr.ints,Cr.roundL])).ro,(Cr.Rd.ofCells (fun i v hv => ?_) (by simp [Cr.ints,Cr.firstL])).ro,rfl,rfl⟩
 ·have hi : i < Cr.roundL.length := by
   rcases Nat.lt_or_ge i Cr.roundL.length with h | h
   ·exact h
   ·rw [List.getElem?_eq_none (by rw [Cr.ints_length]; omega)] at hv; cases hv
  rw [Cr.ints_get hi] at hv
  rw [← Option.some.inj hv]
  exact h1.cell (by kernel_rfl) i hi
 ·have hi : i < Cr.firstL.length := by
   rcases Nat.lt_or_ge i Cr.firstL.length with h | h
   ·exact h
   ·rw [List.getElem?_eq_none (by rw [Cr.ints_length]; omega)] at hv; cases hv
  rw [Cr.ints_get hi] at hv
  rw [← Option.some.inj hv]
  exact h2.cell (by kernel_rfl) i hi
end Go.Proofs.YteonaddammjopaaGreatDoor
namespace Cr
open Go Go.Proofs
set_option maxRecDepth 100000
set_option maxHeartbeats 4000000
attribute [local irreducible] Calls

structure Bs where
 a : Option Addr
 c : Nat
 s : List UInt8
def Bs.val (x : Bs) : Value := .slice x.a x.s.length x.c
structure Bss (W : World) (F : Nat → Prop) (a : Option Addr) (l : List Bs) : Prop where
 row : Ro W F (row a (l.map Bs.val))
 all : ∀ x ∈ l,Ro W F (bytes x.a x.s)
def StrM.more (rd fs : List Int) (S : StrM) (l : List UInt8) : StrM := l.foldl (StrM.one rd fs) S
theorem StrM.more_ok {rd fs : List Int} (hf : fs.length = 8) : ∀ {l : List UInt8} {S : StrM},S.ok → (S.more rd fs l).ok
 | [],_,h => h
 | c :: l,S,h => by
  show (StrM.more rd fs (S.one rd fs c) l).ok
  exact StrM.more_ok (rd := rd) hf (StrM.one_ok (rd := rd) h hf)
theorem StrM.more_n {rd fs : List Int} : ∀ {l : List UInt8} {S : StrM},(S.more rd fs l).n = S.n + l.length
 | [],_ => rfl
 | c :: l,S => by
  have := StrM.more_n (rd := rd) (fs := fs) (l := l) (S := S.one rd fs c)
  simp only [StrM.more,List.foldl_cons,List.length_cons] at this ⊢
  rw [this]; simp only [StrM.one]; omega
theorem StrM.more_append {rd fs : List Int} {S : StrM} {l m : List UInt8} : S.more rd fs (l ++ m) = (S.more rd fs l).more rd fs m := by simp [StrM.more]
theorem StrM.more_snoc {rd fs : List Int} {S : StrM} {l : List UInt8} {i : Nat} (h : i < l.length) : S.more rd fs (l.take (i + 1)) = (S.more rd fs (l.take i)).one rd fs (l.getD i 0) := by
 rw [List.take_succ_eq_append_getElem h,StrM.more_append]
 simp [StrM.more,List.getD_eq_getElem?_getD,h]
def Zba (l : List Bs) : List UInt8 := l.flatMap Bs.s
theorem Zd6 {l : List Bs} {i : Nat} {x : Bs} (h : l[i]? = some x) : Zba (l.take (i + 1)) = Zba (l.take i) ++ x.s := by
 obtain ⟨hi,rfl⟩ := List.getElem?_eq_some_iff.1 h
 rw [List.take_succ_eq_append_getElem hi]
 simp only [Zba,List.flatMap_append,List.flatMap_cons,List.flatMap_nil,List.append_nil]
theorem Zc0 (l : List Bs) (i : Nat) : (Zba (l.take i)).length ≤ (Zba l).length := by
 have : Zba l = Zba (l.take i) ++ Zba (l.drop i) := by unfold Zba; rw [← List.flatMap_append,List.take_append_drop]
 rw [this]; simp

theorem dwrite_ (s : Nat) (S : StrM) (a : Option Addr) (c : Nat) (l : List Bs) (rd fs : List Int) (T : TypeId) (W : World) (F : Nat → Prop) (hok : S.ok) (hn : S.n + (Zba l).length < 2305843009213693951) (hl : l.length < 2305843009213693951) (hG : Gl W F rd fs)
  (hB : Bss W F a l) (hS : St W F [pts s (.cells S.cells.toArray T)] W) :
  Calls Tryz.prog 45 #[.pointer (some ⟨s,0,none⟩),.slice a l.length c] W (Ret fun v w => v = .pointer (some ⟨s,0,none⟩) ∧ St W F [pts s (.cells (S.more rd fs (Zba l)).cells.toArray T)] w) := by
 refine Zaq Tryz.func45 rfl Tryz.ntmps45 rfl ?_
 repeat (first|(refine G_id ?_;first|refine Zah ?_|refine Zac rfl rfl ?_)|(refine X_id ?_;first|refine X_yl (Zad rfl rfl) rfl rfl ?_|refine X_yl (Zab rfl rfl) rfl rfl ?_|refine X_yl (Zby rfl rfl) rfl rfl ?_|refine X_yl (Zbd rfl rfl rfl) rfl rfl ?_)|(refine C_id ?_;first|refine Zaj ?_|refine Zaa ?_|refine Zat ?_|refine Zav ?_|refine Zak rfl ?_)|(refine E_id ?_;first|refine Zae ?_))
 refine Zb8 (α := Nat) (fun i => [(0,.pointer (some ⟨s,0,none⟩)),(11,.slice a l.length c),(12,.int .i64 (l.length : Nat)),(13,.int .i64 (i : Nat))])
  (fun i w => i ≤ l.length ∧ St W F [pts s (.cells (S.more rd fs (Zba (l.take i))).cells.toArray T)] w) (fun i => l.length - i) 0 ⟨rfl,rfl,rfl,rfl,trivial⟩ ⟨Nat.zero_le _,hS⟩ ?_
 clear hS
 rintro i w ⟨hi,hS⟩
 by_cases hlt : i < l.length
 ·have hx : l[i]? = some l[i] := List.getElem?_eq_getElem hlt
  generalize l[i] = x at hx
  have hxm := List.mem_of_getElem? hx
  have hbx := hB.all x hxm
  have hj := Zd6 hx
  have hle := Zc0 l (i + 1)
  rw [hj,List.length_append] at hle
  obtain ⟨ab,ao,rfl⟩ := (hB.row.rd hS).base (by intro e; simp at e; subst e; simp at hlt)
  have hr := hB.row
  replace hx : (l.map Bs.val)[i]? = some (.slice x.a x.s.length x.c) := by simp [hx,Bs.val]
  repeat (first|(refine G_id ?_;first|refine Zah ?_|refine Zac rfl rfl ?_)|(refine X_id ?_;first|refine X_yl (Zad rfl rfl) rfl rfl ?_|refine X_yl (Zab rfl rfl) rfl rfl ?_|refine X_yl (Zby rfl rfl) rfl rfl ?_|refine X_yl (Za7 rfl rfl rfl (by omega)) rfl rfl ?_|refine X_yl (Zau rfl rfl rfl (by omega) (by omega) (by first|assumption|exact ⟨_,_,rfl⟩)) rfl rfl ?_|refine X_yl (Zap rfl rfl ((hr.rd hS).cellX (by omega) hx)) rfl rfl ?_)|(refine C_id ?_;first|refine Zaj ?_|refine Zaa ?_|refine Zat ?_|refine Zav ?_|refine Zam rfl ?_)|(refine E_id ?_;first|refine Zae ?_))
  refine Zb8 (α := Nat) (fun j => [(0,.pointer (some ⟨s,0,none⟩)),(11,.slice (some ⟨ab,ao,none⟩) l.length c),(12,.int .i64 (l.length : Nat)),(13,.int .i64 (i : Nat)),(17,.slice x.a x.s.length x.c),(18,.int .i64 (x.s.length : Nat)),(19,.int .i64 (j : Nat))])
   (fun j w => j ≤ x.s.length ∧ St W F [pts s (.cells (S.more rd fs (Zba (l.take i) ++ x.s.take j)).cells.toArray T)] w) (fun j => x.s.length - j) 0 ⟨rfl,rfl,rfl,rfl,rfl,rfl,rfl,trivial⟩ ⟨Nat.zero_le _,by simpa using hS⟩ ?_
  clear hS
  rintro j w ⟨hj',hS⟩
  by_cases hjl : j < x.s.length
  ·obtain ⟨xb,xo,hxa⟩ := (hbx.rd hS).base (by intro e; have := Zbw x.s; rw [e] at this; simp at this; omega)
   have hb : Ro W F (bytes (some ⟨xb,xo,none⟩) x.s) := hxa ▸ hbx
   rw [hxa]
   repeat (first|(refine G_id ?_;first|refine Zah ?_|refine Zac rfl rfl ?_)|(refine X_id ?_;first|refine X_yl (Zad rfl rfl) rfl rfl ?_|refine X_yl (Zab rfl rfl) rfl rfl ?_|refine X_yl (Za7 rfl rfl rfl (by omega)) rfl rfl ?_|refine X_yl (Zau rfl rfl rfl (by omega) (by omega) (by first|assumption|exact ⟨_,_,rfl⟩)) rfl rfl ?_|refine X_yl (Zap rfl rfl ((hb.rd hS).cellB' (by omega))) rfl rfl ?_)|(refine C_id ?_;first|refine Zaj ?_|refine Zaa ?_|refine Zat ?_|refine Zav ?_|refine Zam rfl ?_)|(refine E_id ?_;first|refine Zae ?_))
   obtain ⟨S',hSe⟩ : ∃ S',S' = S.more rd fs (Zba (l.take i) ++ x.s.take j) := ⟨_,rfl⟩
   have hok' : S'.ok := hSe ▸ StrM.more_ok hG.first8 hok
   have hn' : S'.n < 2305843009213693951 := by rw [hSe,StrM.more_n]; simp; omega
   rw [← hSe] at hS
   obtain ⟨_,hc,hr,hw,hbk⟩ := hS.call [true]
   refine Zal _ rfl rfl rfl rfl rfl (one_ s S' _ rd fs T _ _ hok' hn' (hG.mono hw) hc) ?_
   rintro _ w ⟨_,hS⟩
   replace hS := hbk hS
   clear hc hr hw hbk
   repeat (first|(refine G_id ?_;first|refine Zah ?_|refine Zac rfl rfl ?_)|(refine X_id ?_;first|refine X_yl (Zad rfl rfl) rfl rfl ?_|refine X_yl (Zbo rfl rfl rfl (w64 (by omega) (by omega))) rfl rfl ?_)|(refine C_id ?_;first|refine Zaa ?_)|(refine E_id ?_;first|refine Zae ?_|refine Zbh ?_))
   refine Zbu (j + 1) ⟨rfl,rfl,rfl,rfl,rfl,rfl,rfl,trivial⟩ ⟨by omega,?_⟩ (by omega)
   rw [StrM.more_append,StrM.more_snoc hjl,← StrM.more_append,← hSe]
   rw [show (j : Int).toNat * 1 = j by omega] at hS
   exact hS
  ·obtain rfl : j = x.s.length := by omega
   repeat (first|(refine G_id ?_;first|refine Zah ?_|refine Zac rfl rfl ?_)|(refine X_id ?_;first|refine X_yl (Zad rfl rfl) rfl rfl ?_|refine X_yl (Za8 rfl rfl rfl (by omega)) rfl rfl ?_|refine X_yl (Zbo rfl rfl rfl (w64 (by omega) (by omega))) rfl rfl ?_)|(refine C_id ?_;first|refine Zaj ?_|refine Zaa ?_|refine Zb2 ?_|refine Zak rfl ?_)|(refine E_id ?_;first|refine Zae ?_|refine Zaw ?_|refine Za1 ?_|refine Zbh ?_))
   refine Zbu (i + 1) ⟨rfl,rfl,rfl,rfl,trivial⟩ ⟨by omega,?_⟩ (by omega)
   rw [hj]
   rw [List.take_length] at hS
   exact hS
 ·obtain rfl : i = l.length := by omega
  rw [List.take_length] at hS
  repeat (first|(refine G_id ?_;first|refine Zah ?_|refine Zac rfl rfl ?_)|(refine X_id ?_;first|refine X_yl (Zad rfl rfl) rfl rfl ?_|refine X_yl (Zab rfl rfl) rfl rfl ?_|refine X_yl (Za8 rfl rfl rfl (by omega)) rfl rfl ?_)|(refine C_id ?_;first|refine Zaj ?_|refine Zaa ?_|refine Za0 ?_|refine Zb2 ?_|refine Zak rfl ?_)|(refine E_id ?_;first|refine Zae ?_|refine Zaw ?_|refine Za1 ?_|refine Zax rfl (Zao rfl) (Ret.mk ?_)))
  exact ⟨rfl,hS⟩

/-! ### Fork -/
def StrM.init : StrM := ⟨List.replicate 8 0,List.replicate 64 0,0⟩
theorem StrM.init_ok : StrM.init.ok := ⟨by simp [init],by simp [init]⟩
theorem fork_ (s : Nat) (S : StrM) (T : TypeId) (W : World) (hok : S.ok) (hs : Rd W (pts s (.cells S.cells.toArray T))) :
  Calls Tryz.prog 71 #[.pointer (some ⟨s,0,none⟩)] W (Ret fun v w => ∃ p,v = .pointer (some ⟨p,0,none⟩) ∧ St W noF [pts p (.cells S.cells.toArray 95)] w) := by
 obtain ⟨H,R,n⟩ := S
 obtain ⟨h8,r64⟩ := hok
 unfold StrM.cells at hs ⊢
 simp only at h8 r64 hs ⊢
 have hl1 : LenO (ints .u32 H) 8 := ⟨by rw [ints_length]; exact h8⟩
 have hl2 : LenO (bv R) 64 := ⟨by simp [r64]⟩
 have hc := hs.ro
 have hS := St.start W
 refine Zaq Tryz.func71 rfl Tryz.ntmps71 rfl ?_
 repeat (first|(refine G_id ?_;first|refine Zah ?_|refine Zac rfl rfl ?_)|(refine X_id ?_;first|refine X_yl (Zad rfl rfl) rfl rfl ?_|refine X_yl (Zab rfl rfl) rfl rfl ?_|refine X_yl (Zag rfl rfl) rfl rfl ?_|refine X_yl (Zcq rfl rfl rfl) rfl rfl ?_|refine X_yl (Yl_neqNil_some rfl rfl rfl) rfl rfl ?_|refine Zel rfl rfl rfl rfl hS (fun _ _ hS _ => ?_))|(refine C_id ?_;first|refine Zaj ?_|refine Zaa ?_|refine Zam rfl ?_)|(refine E_id ?_;first|refine Zae ?_))
 rename_i bx wx _
 replace hS : St W noF [pts bx (.cells (ints .u32 (List.replicate 8 0) ++ (bv (List.replicate 64 0) ++ [Value.int .i64 0])).toArray 95)] wx := hS
 have hl3 : LenO (ints .u32 (List.replicate 8 0)) 8 := ⟨by rw [ints_length]; simp⟩
 refine X_yl (Zea rfl rfl (CellsAt.of_block (hc.rd hS).pts) (by simp [ints_length,h8,r64])) rfl rfl ?_
 repeat (first|(refine G_id ?_;first|refine Zah ?_|refine Zac rfl rfl ?_)|(refine X_id ?_;first|refine X_yl (Zad rfl rfl) rfl rfl ?_|refine X_yl (Zab rfl rfl) rfl rfl ?_|refine X_yl (Zag rfl rfl) rfl rfl ?_|refine Zc2 rfl rfl rfl rfl hS (fun _ hS => ?_))|(refine C_id ?_;first|refine Zaj ?_|refine Zaa ?_|refine Za0 ?_)|(refine E_id ?_;first|refine Zae ?_|refine Zax rfl (Zao rfl) (Ret.mk ?_)))
 exact ⟨_,rfl,hS⟩
end Cr
namespace Cr
open Go Go.Proofs
set_option maxRecDepth 100000
set_option maxHeartbeats 4000000
attribute [local irreducible] Calls

theorem St.total {W : World} {F : Nat → Prop} {rs : List Res} {w : World} {b : Nat} {S : StrM} {T : TypeId} (hS : St W F rs w) [hh : Has rs b (.cells S.cells.toArray T (0,0))] (hok : S.ok) : w.cell? ⟨b,72,none⟩ = some (.int .i64 (S.n : Nat)) := by
 rw [cell_of_row w b 72 _ T (0,0) hS.has]
 have h1 : (ints .u32 S.H).length = 8 := by rw [ints_length]; exact hok.h8
 have h2 : (bv S.R).length = 64 := by rw [Zbw]; exact hok.r64
 simp only [StrM.cells,List.getElem?_toArray]
 rw [List.getElem?_append_right (by omega),List.getElem?_append_right (by omega),h1,h2]
 rfl
def lenAt (n : Nat) (i : Nat) : UInt8 := b8 (ishr .u64 (IntKind.u64.wrap (IntKind.u64.wrap n * 8)) (8 * (7 - i)))
def lenB (n : Nat) : Nat → List UInt8
 | 0 => []
 | i + 1 => lenB n i ++ [lenAt n i]
def gap (n : Nat) : Nat := (119 - n % 64) % 64
def padB (n : Nat) : List UInt8 := 128 :: List.replicate (gap n) 0 ++ lenB n 8
def StrM.sum (rd fs : List Int) (S : StrM) : List UInt8 := outB (S.more rd fs (padB S.n)).H
theorem StrM.more_one {rd fs : List Int} {S : StrM} {l : List UInt8} {c : UInt8} : (S.more rd fs l).one rd fs c = S.more rd fs (l ++ [c]) := by simp [StrM.more]
theorem sum_ (s : Nat) (S : StrM) (rd fs : List Int) (T : TypeId) (W : World) (hok : S.ok) (hn : S.n < 1152921504606846976) (hG : Gl W noF rd fs) (hs : Rd W (pts s (.cells S.cells.toArray T))) :
  Calls Tryz.prog 46 #[.pointer (some ⟨s,0,none⟩)] W (Ret fun v w => v = .agg (bv (S.sum rd fs)).toArray ∧ St W noF [] w) := by
 have hS := St.start W
 have hso := hs.ro
 have hf := hG.first8
 have key : ∀ l : List UInt8,l.length ≤ 100 → (S.more rd fs l).n < 2305843009213693951 := fun l hl => by rw [StrM.more_n]; omega
 refine Zaq Tryz.func46 rfl Tryz.ntmps46 rfl ?_
 repeat (first|(refine G_id ?_;first|refine Zah ?_|refine Zac rfl rfl ?_)|(refine X_id ?_;first|refine X_yl (Zad rfl rfl) rfl rfl ?_|refine Zbc rfl rfl rfl hS (fun _ _ hS _ => ?_))|(refine C_id ?_;first|refine Zaj ?_|refine Zaa ?_)|(refine E_id ?_;first|refine Zae ?_))
 rename_i b2 _ _
 rw [bv_rep] at hS
 refine Zal _ rfl rfl rfl rfl rfl (fork_ s S T _ hok (hso.rd hS)) ?_
 rintro _ w ⟨p,rfl,hS'⟩
 replace hS := hS.plus hS'
 clear hS'
 repeat (first|(refine G_id ?_;first|refine Zah ?_|refine Zac rfl rfl ?_)|(refine X_id ?_;first|refine X_yl (Zad rfl rfl) rfl rfl ?_|refine X_yl (Zab rfl rfl) rfl rfl ?_|refine X_yl (Zag rfl rfl) rfl rfl ?_|refine X_yl (Zaf rfl rfl rfl) rfl rfl ?_)|(refine C_id ?_;first|refine Zaj ?_|refine Zaa ?_)|(refine E_id ?_;first|refine Zae ?_))
 refine X_yl (Zap rfl rfl (hS.total hok)) rfl rfl ?_
 repeat (first|(refine G_id ?_;first|refine Zah ?_|refine Zac rfl rfl ?_)|(refine X_id ?_;first|refine X_yl (Zad rfl rfl) rfl rfl ?_|refine X_yl (Zab rfl rfl) rfl rfl ?_)|(refine C_id ?_;first|refine Zaj ?_|refine Zaa ?_)|(refine E_id ?_;first|refine Zae ?_))
 obtain ⟨_,hc,hr,hw,hbk⟩ := hS.call [true,false]
 refine Zal _ rfl rfl rfl rfl rfl (one_ p S 128 rd fs _ _ _ hok (by omega) (hG.mono hw) hc) ?_
 rintro _ w ⟨_,hS⟩
 replace hS := hbk hS
 clear hc hr hw hbk
 repeat (first|(refine G_id ?_;first|refine Zah ?_)|(refine C_id ?_;first|refine Zaj ?_|refine Zat ?_)|(refine E_id ?_;first|refine Zae ?_))
 refine Zb8 (α := Nat) (fun k => [(2,.pointer (some ⟨b2,0,none⟩)),(3,.pointer (some ⟨p,0,none⟩)),(4,.int .i64 (S.n : Nat))])
  (fun k w => k ≤ gap S.n ∧ St W noF [pts p (.cells (S.more rd fs (128 :: List.replicate k 0)).cells.toArray 95),pts b2 (.cells (bv (List.replicate 32 0)).toArray 23)] w) (fun k => gap S.n - k) 0 ⟨rfl,rfl,rfl,trivial⟩ ⟨Nat.zero_le _,hS⟩ ?_
 clear hS
 rintro k w ⟨hk,hS⟩
 have hg64 : gap S.n < 64 := by unfold gap; omega
 obtain ⟨S',hSe⟩ : ∃ S',S' = S.more rd fs (128 :: List.replicate k 0) := ⟨_,rfl⟩
 have hok' : S'.ok := hSe ▸ StrM.more_ok hf hok
 have hn' : S'.n = S.n + 1 + k := by rw [hSe,StrM.more_n]; simp; omega
 rw [← hSe] at hS
 by_cases hkk : k < gap S.n
 ·have h56 : ((S'.n : Int) % 64 = 56) = False := by
   have : ¬ (S'.n : Int) % 64 = 56 := by unfold gap at hkk; omega
   simp [this]
  have h56' : ¬ (S'.n : Int) % 64 = 56 := by rw [h56]; exact id
  clear h56
  repeat (first|(refine G_id ?_;first|refine Zac rfl rfl ?_)|(refine X_id ?_;first|refine X_yl (Zad rfl rfl) rfl rfl ?_|refine X_yl (Zag rfl rfl) rfl rfl ?_|refine X_yl (Zaf rfl rfl rfl) rfl rfl ?_)|(refine C_id ?_;first|refine Zaj ?_|refine Zaa ?_))
  refine X_yl (Zap rfl rfl (hS.total hok')) rfl rfl ?_
  repeat (first|(refine G_id ?_;first|refine Zah ?_|refine Zac rfl rfl ?_)|(refine X_id ?_;first|refine X_yl (Zad rfl rfl) rfl rfl ?_|refine X_yl (Zck rfl rfl rfl (by omega)) rfl rfl ?_|refine X_yl (Zd2 rfl rfl rfl (by omega) (by omega)) rfl rfl ?_)|(refine C_id ?_;first|refine Zaa ?_|refine Zat ?_|refine Zav ?_|refine Zam rfl ?_)|(refine E_id ?_;first|refine Zae ?_))
  obtain ⟨_,hc,hr,hw,hbk⟩ := hS.call [true,false]
  refine Zal _ rfl rfl rfl rfl rfl (one_ p S' 0 rd fs _ _ _ hok' (by omega) (hG.mono hw) hc) ?_
  rintro _ w ⟨_,hS⟩
  replace hS := hbk hS
  clear hc hr hw hbk
  repeat (first|(refine G_id ?_;first|refine Zah ?_)|(refine E_id ?_;first|refine Zbh ?_))
  refine Zbu (k + 1) ⟨rfl,rfl,rfl,trivial⟩ ⟨by omega,?_⟩ (by omega)
  rw [hSe,StrM.more_one] at hS
  rw [show (128 :: List.replicate (k + 1) 0 : List UInt8) = 128 :: List.replicate k 0 ++ [0] by simp [List.replicate_succ']]
  exact hS
 ·obtain rfl : k = gap S.n := by omega
  have h56 : (S'.n : Int) % 64 = 56 := by unfold gap at hn'; omega
  repeat (first|(refine G_id ?_;first|refine Zac rfl rfl ?_)|(refine X_id ?_;first|refine X_yl (Zad rfl rfl) rfl rfl ?_|refine X_yl (Zag rfl rfl) rfl rfl ?_|refine X_yl (Zaf rfl rfl rfl) rfl rfl ?_)|(refine C_id ?_;first|refine Zaj ?_|refine Zaa ?_))
  refine X_yl (Zap rfl rfl (hS.total hok')) rfl rfl ?_
  repeat (first|(refine G_id ?_;first|refine Zah ?_|refine Zac rfl rfl ?_)|(refine X_id ?_;first|refine X_yl (Zad rfl rfl) rfl rfl ?_|refine X_yl (Zbz rfl rfl rfl (by omega)) rfl rfl ?_|refine X_yl (Zd2 rfl rfl rfl (by omega) (by omega)) rfl rfl ?_)|(refine C_id ?_;first|refine Zaj ?_|refine Zaa ?_|refine Zat ?_|refine Zb2 ?_|refine Zak rfl ?_)|(refine E_id ?_;first|refine Zae ?_|refine Zaw ?_|refine Za1 ?_))
  rw [hSe] at hS
  clear hSe hok' hn' h56
  refine Zb8 (α := Nat) (fun i => [(2,.pointer (some ⟨b2,0,none⟩)),(3,.pointer (some ⟨p,0,none⟩)),(4,.int .i64 (S.n : Nat)),(22,.int .i64 (i : Nat))])
   (fun i w => i ≤ 8 ∧ St W noF [pts p (.cells (S.more rd fs (128 :: List.replicate (gap S.n) 0 ++ lenB S.n i)).cells.toArray 95),pts b2 (.cells (bv (List.replicate 32 0)).toArray 23)] w) (fun i => 8 - i) 0 ⟨rfl,rfl,rfl,rfl,trivial⟩ ⟨Nat.zero_le _,by simpa [lenB] using hS⟩ ?_
  clear hS
  rintro i w ⟨hi,hS⟩
  have hlen : ∀ i,(lenB S.n i).length = i := fun i => by
   induction i with
   | zero => rfl
   | succ i ih => simp [lenB,ih]
  obtain ⟨S',hSe⟩ : ∃ S',S' = S.more rd fs (128 :: List.replicate (gap S.n) 0 ++ lenB S.n i) := ⟨_,rfl⟩
  have hok' : S'.ok := hSe ▸ StrM.more_ok hf hok
  have hn' : S'.n < 2305843009213693951 := by rw [hSe]; exact key _ (by simp [hlen]; omega)
  rw [← hSe] at hS
  by_cases h8 : i < 8
  ·repeat (first|(refine G_id ?_;first|refine Zah ?_|refine Zac rfl rfl ?_)|(refine X_id ?_;first|refine X_yl (Zad rfl rfl) rfl rfl ?_|refine X_yl (Zab rfl rfl) rfl rfl ?_|refine X_yl (Za7 rfl rfl rfl (by omega)) rfl rfl ?_|refine X_yl (Zdx rfl rfl rfl (w64 (by omega) (by omega))) rfl rfl ?_|refine X_yl (Zfk rfl rfl rfl (w64 (by omega) (by omega))) rfl rfl ?_|refine X_yl (Zfk rfl rfl rfl rfl) rfl rfl ?_|refine X_yl (Yl_convU8 rfl rfl) rfl rfl ?_|refine X_yl (Zeb rfl rfl rfl) rfl rfl ?_|refine X_yl (Yl_shr rfl rfl rfl (by omega)) rfl rfl ?_)|(refine C_id ?_;first|refine Zaj ?_|refine Zaa ?_|refine Zat ?_|refine Zav ?_|refine Zam rfl ?_)|(refine E_id ?_;first|refine Zae ?_))
   obtain ⟨_,hc,hr,hw,hbk⟩ := hS.call [true,false]
   refine Zal _ rfl rfl rfl rfl rfl (one_ p S' _ rd fs _ _ _ hok' hn' (hG.mono hw) hc) ?_
   rintro _ w ⟨_,hS⟩
   replace hS := hbk hS
   clear hc hr hw hbk
   repeat (first|(refine G_id ?_;first|refine Zah ?_|refine Zac rfl rfl ?_)|(refine X_id ?_;first|refine X_yl (Zad rfl rfl) rfl rfl ?_|refine X_yl (Zbo rfl rfl rfl (w64 (by omega) (by omega))) rfl rfl ?_)|(refine C_id ?_;first|refine Zaa ?_)|(refine E_id ?_;first|refine Zae ?_|refine Zbh ?_))
   refine Zbu (i + 1) ⟨rfl,rfl,rfl,rfl,trivial⟩ ⟨by omega,?_⟩ (by omega)
   rw [hSe,StrM.more_one] at hS
   simp only [lenB,← List.append_assoc]
   rw [show (8 * (7 - (i : Int))).toNat = 8 * (7 - i) by omega] at hS
   exact hS
  ·obtain rfl : i = 8 := by omega
   have hlen32 : LenO (bv (outB S'.H)) 32 := ⟨by rw [Zbw]; exact Ze5 _⟩
   repeat (first|(refine G_id ?_;first|refine Zah ?_|refine Zac rfl rfl ?_)|(refine X_id ?_;first|(refine Zbn 72 rfl rfl rfl rfl rfl hS (bytes_ p S'.H _ 95 _ hok'.h8 (hS.rd (List.mem_cons_self ..))) ?_;rintro _ _ rfl hS)|refine X_yl (Zad rfl rfl) rfl rfl ?_|refine X_yl (Zag rfl rfl) rfl rfl ?_|refine X_yl (Zaf rfl rfl rfl) rfl rfl ?_|refine X_yl (Za8 rfl rfl rfl (by omega)) rfl rfl ?_|refine Zc2 rfl rfl rfl rfl hS (fun _ hS => ?_))|(refine C_id ?_;first|refine Zaj ?_|refine Zaa ?_|refine Za0 ?_|refine Zb2 ?_|refine Zak rfl ?_)|(refine E_id ?_;first|refine Zae ?_|refine Zaw ?_|refine Za1 ?_|refine Zax rfl (by first|exact Zao rfl|exact Zay rfl (Za5 hS.cell)|exact Zay rfl (Za4 hS.cellsN)) (Ret.mk ?_)))
   refine ⟨?_,hS.drops⟩
   rw [hSe]
   rfl
end Cr
namespace Cr
open Go Go.Proofs
set_option maxRecDepth 100000
set_option maxHeartbeats 4000000
attribute [local irreducible] Calls

def frameAt (n : Nat) (i : Nat) : UInt8 := b8 (ishr .i64 n (8 * (3 - i)))
def frameTo (n : Nat) : Nat → List UInt8
 | 0 => List.replicate 4 0
 | i + 1 => (frameTo n i).set i (frameAt n i)
theorem Zfn (n : Nat) : ∀ i,(frameTo n i).length = 4
 | 0 => by simp [frameTo]
 | i + 1 => by simp [frameTo,Zfn n i]
def frameB (n : Nat) : List UInt8 := frameTo n 4
theorem Zdg (n : Nat) : (frameB n).length = 4 := Zfn n 4
def Zcu (l : List (List UInt8)) : List UInt8 := l.flatMap fun s => frameB s.length ++ s
theorem framed_snoc {l : List (List UInt8)} {i : Nat} {x : List UInt8} (h : l[i]? = some x) : Zcu (l.take (i + 1)) = Zcu (l.take i) ++ (frameB x.length ++ x) := by
 obtain ⟨hi,rfl⟩ := List.getElem?_eq_some_iff.1 h
 rw [List.take_succ_eq_append_getElem hi]
 simp only [Zcu,List.flatMap_append,List.flatMap_cons,List.flatMap_nil,List.append_nil]
theorem framed_take_le (l : List (List UInt8)) (i : Nat) : (Zcu (l.take i)).length ≤ (Zcu l).length := by
 have : Zcu l = Zcu (l.take i) ++ Zcu (l.drop i) := by unfold Zcu; rw [← List.flatMap_append,List.take_append_drop]
 rw [this]; simp
def digest (rd fs : List Int) (l : List (List UInt8)) : List UInt8 := (StrM.init.more rd fs (Zcu l)).sum rd fs
theorem Zcv (rd fs : List Int) (l : List (List UInt8)) : (digest rd fs l).length = 32 := by unfold digest StrM.sum; exact Ze5 _
attribute [irreducible] digest
def Zds (l : List Bs) : List (List UInt8) := l.map Bs.s
theorem framed_ (a : Option Addr) (c : Nat) (l : List Bs) (rd fs : List Int) (W : World) (hn : (Zcu (Zds l)).length < 1152921504606846976) (hl : l.length < 2305843009213693951) (hG : Gl W noF rd fs) (hB : Bss W noF a l) :
  Calls Tryz.prog 35 #[.slice a l.length c] W (Ret fun v w => v = .agg (bv (digest rd fs (Zds l))).toArray ∧ St W noF [] w) := by
 have hS := St.start W
 have hf := hG.first8
 refine Zaq Tryz.func35 rfl Tryz.ntmps35 rfl ?_
 repeat (first|(refine G_id ?_;first|refine Zah ?_|refine Zac rfl rfl ?_)|(refine X_id ?_;first|refine X_yl (Zad rfl rfl) rfl rfl ?_|refine X_yl (Zab rfl rfl) rfl rfl ?_|refine X_yl (Zby rfl rfl) rfl rfl ?_|refine X_yl (Zcq rfl rfl rfl) rfl rfl ?_|refine Zel rfl rfl rfl rfl hS (fun _ _ hS _ => ?_)|refine Zbc rfl rfl rfl hS (fun _ _ hS _ => ?_))|(refine C_id ?_;first|refine Zaj ?_|refine Zaa ?_|refine Zat ?_)|(refine E_id ?_;first|refine Zae ?_))
 rename_i b2 _ _ _ p wp _
 rw [bv_rep] at hS
 replace hS : St W noF [pts p (.cells StrM.init.cells.toArray 95),pts b2 (.cells (bv (List.replicate 32 0)).toArray 23)] wp := hS
 refine Zb8 (α := Nat) (fun i => [(2,.pointer (some ⟨b2,0,none⟩)),(3,.pointer (some ⟨p,0,none⟩)),(10,.slice a l.length c),(11,.int .i64 (l.length : Nat)),(12,.int .i64 (i : Nat))])
  (fun i w => i ≤ l.length ∧ St W noF [pts p (.cells (StrM.init.more rd fs (Zcu ((Zds l).take i))).cells.toArray 95),pts b2 (.cells (bv (List.replicate 32 0)).toArray 23)] w) (fun i => l.length - i) 0 ⟨rfl,rfl,rfl,rfl,rfl,trivial⟩ ⟨Nat.zero_le _,hS⟩ ?_
 clear hS
 rintro i w ⟨hi,hS⟩
 have hle := framed_take_le (Zds l) i
 obtain ⟨S',hSe⟩ : ∃ S',S' = StrM.init.more rd fs (Zcu ((Zds l).take i)) := ⟨_,rfl⟩
 have hok' : S'.ok := hSe ▸ StrM.more_ok hf StrM.init_ok
 have hn' : S'.n = (Zcu ((Zds l).take i)).length := by rw [hSe,StrM.more_n]; simp [StrM.init]
 rw [← hSe] at hS
 by_cases hlt : i < l.length
 ·have hx0 : l[i]? = some l[i] := List.getElem?_eq_getElem hlt
  generalize l[i] = x at hx0
  have hxm := List.mem_of_getElem? hx0
  have hbx := hB.all x hxm
  have hj := framed_snoc (l := Zds l) (i := i) (x := x.s) (by simp [Zds,hx0])
  have hle1 := framed_take_le (Zds l) (i + 1)
  rw [hj,List.length_append,List.length_append,Zdg] at hle1
  obtain ⟨ab,ao,rfl⟩ := (hB.row.rd hS).base (by intro e; simp at e; subst e; simp at hlt)
  have hr := hB.row
  have hx : (l.map Bs.val)[i]? = some (.slice x.a x.s.length x.c) := by simp [hx0,Bs.val]
  repeat (first|(refine G_id ?_;first|refine Zah ?_|refine Zac rfl rfl ?_)|(refine X_id ?_;first|refine X_yl (Zad rfl rfl) rfl rfl ?_|refine X_yl (Zab rfl rfl) rfl rfl ?_|refine X_yl (Za7 rfl rfl rfl (by omega)) rfl rfl ?_|refine X_yl (Zau rfl rfl rfl (by omega) (by omega) (by first|assumption|exact ⟨_,_,rfl⟩)) rfl rfl ?_|refine X_yl (Zap rfl rfl ((hr.rd hS).cellX (by omega) hx)) rfl rfl ?_|refine Zbc rfl rfl rfl hS (fun _ _ hS _ => ?_))|(refine C_id ?_;first|refine Zaj ?_|refine Zaa ?_|refine Zat ?_|refine Zav ?_|refine Zam rfl ?_)|(refine E_id ?_;first|refine Zae ?_))
  rename_i b6 _ _
  refine Zb8 (α := Nat) (fun j => [(2,.pointer (some ⟨b2,0,none⟩)),(3,.pointer (some ⟨p,0,none⟩)),(10,.slice (some ⟨ab,ao,none⟩) l.length c),(11,.int .i64 (l.length : Nat)),(12,.int .i64 (i : Nat)),(5,.slice x.a x.s.length x.c),(6,.pointer (some ⟨b6,0,none⟩)),(16,.int .i64 (j : Nat))])
   (fun j w => j ≤ 4 ∧ St W noF [pts b6 (.cells (bv (frameTo x.s.length j)).toArray 118),pts p (.cells S'.cells.toArray 95),pts b2 (.cells (bv (List.replicate 32 0)).toArray 23)] w) (fun j => 4 - j) 0 ⟨rfl,rfl,rfl,rfl,rfl,rfl,rfl,rfl,trivial⟩ ⟨Nat.zero_le _,hS⟩ ?_
  clear hS
  rintro j w ⟨hj4,hS⟩
  obtain ⟨B,hBe⟩ : ∃ B,B = frameTo x.s.length j := ⟨_,rfl⟩
  have hBl : B.length = 4 := by rw [hBe]; exact Zfn _ _
  rw [← hBe] at hS
  by_cases hj : j < 4
  ·repeat (first|(refine G_id ?_;first|refine Zah ?_|refine Zac rfl rfl ?_)|(refine X_id ?_;first|refine X_yl (Zad rfl rfl) rfl rfl ?_|refine X_yl (Zab rfl rfl) rfl rfl ?_|refine X_yl (Zby rfl rfl) rfl rfl ?_|refine X_yl (Za7 rfl rfl rfl (by omega)) rfl rfl ?_|refine X_yl (Zbs rfl rfl rfl (by omega) (by omega)) rfl rfl ?_|refine X_yl (Zbo rfl rfl rfl (w64 (by omega) (by omega))) rfl rfl ?_|refine X_yl (Zdx rfl rfl rfl (w64 (by omega) (by omega))) rfl rfl ?_|refine X_yl (Zfk rfl rfl rfl (w64 (by omega) (by omega))) rfl rfl ?_|refine X_yl (Yl_convU8 rfl rfl) rfl rfl ?_|refine X_yl (Yl_shr rfl rfl rfl (by omega)) rfl rfl ?_|refine X_storeB rfl rfl rfl rfl hS (by omega) (fun _ hS => ?_))|(refine C_id ?_;first|refine Zaj ?_|refine Zaa ?_|refine Zat ?_|refine Zav ?_|refine Zam rfl ?_)|(refine E_id ?_;first|refine Zae ?_|refine Zbh ?_))
   refine Zbu (j + 1) ⟨rfl,rfl,rfl,rfl,rfl,rfl,rfl,rfl,trivial⟩ ⟨by omega,?_⟩ (by omega)
   simp only [frameTo,frameAt]
   rw [← hBe]
   rw [show (8 * (3 - (j : Int))).toNat = 8 * (3 - j) by omega,show 0 + (j : Int).toNat * 1 = j by omega] at hS
   exact hS
  ·obtain rfl : j = 4 := by omega
   repeat (first|(refine G_id ?_;first|refine Zah ?_|refine Zac rfl rfl ?_)|(refine X_id ?_;first|refine X_yl (Zad rfl rfl) rfl rfl ?_|refine X_yl (Za8 rfl rfl rfl (by omega)) rfl rfl ?_|refine X_yl (Zcw rfl rfl) rfl rfl ?_|refine Zbb rfl rfl rfl rfl rfl rfl rfl rfl hS (fun _ _ hS _ => ?_))|(refine C_id ?_;first|refine Zaj ?_|refine Zaa ?_|refine Zb2 ?_|refine Zak rfl ?_)|(refine E_id ?_;first|refine Zae ?_|refine Zaw ?_|refine Za1 ?_))
   rename_i nb wb _
   obtain ⟨_,hc,hr,hw,hbk⟩ := hS.call [false,false,true]
   have hBs : Bss wb _ (some ⟨nb,0,none⟩) [⟨some ⟨b6,0,none⟩,4,B⟩,x] := ⟨by
    have := (hr _ (List.mem_cons_self ..)).own_row
    simpa [Bs.val,hBl] using this,fun y hy => by
    simp only [List.mem_cons,List.not_mem_nil,or_false] at hy
    rcases hy with rfl | rfl
    ·exact (hr _ (List.mem_cons_of_mem _ (List.mem_cons_self ..))).mono fun h hh => ⟨h,row_pts_at (n := 4) (by simp [← Zbw,← hBl]) h hh,fun _ _ e => e⟩
    ·exact hw _ hbx⟩
   refine Zal _ rfl rfl rfl rfl rfl (dwrite_ p S' _ _ _ rd fs _ _ _ hok' (by simp [Zba,hBl]; omega) (by simp) (hG.mono hw) hBs hc) ?_
   rintro _ w ⟨rfl,hS⟩
   replace hS := hbk hS
   clear hc hr hw hbk hBs
   repeat (first|(refine G_id ?_;first|refine Zah ?_|refine Zac rfl rfl ?_)|(refine X_id ?_;first|refine X_yl (Zad rfl rfl) rfl rfl ?_|refine X_yl (Zbo rfl rfl rfl (w64 (by omega) (by omega))) rfl rfl ?_)|(refine C_id ?_;first|refine Zaa ?_)|(refine E_id ?_;first|refine Zae ?_|refine Zbh ?_))
   refine Zbu (i + 1) ⟨rfl,rfl,rfl,rfl,rfl,trivial⟩ ⟨by omega,?_⟩ (by omega)
   have hS := hS.pick [0,2]
   rw [framed_snoc (x := x.s) (by simp [Zds,hx0]),StrM.more_append,← hSe]
   rw [show Zba [⟨some ⟨b6,0,none⟩,4,B⟩,x] = frameB x.s.length ++ x.s by rw [hBe]; simp [Zba,frameB]] at hS
   exact hS
 ·obtain rfl : i = l.length := by omega
  have hlen32 : LenO (bv (S'.sum rd fs)) 32 := ⟨by rw [Zbw]; exact Ze5 _⟩
  repeat (first|(refine G_id ?_;first|refine Zah ?_|refine Zac rfl rfl ?_)|(refine X_id ?_;first|(refine Zbn 46 rfl rfl rfl rfl rfl hS (sum_ p S' rd fs 95 _ hok' (by omega) (hG.mono fun r hr => (hr.rd hS).ro) (hS.rd (List.mem_cons_self ..))) ?_;rintro _ _ rfl hS)|refine X_yl (Zad rfl rfl) rfl rfl ?_|refine X_yl (Za8 rfl rfl rfl (by omega)) rfl rfl ?_|refine Zc2 rfl rfl rfl rfl hS (fun _ hS => ?_))|(refine C_id ?_;first|refine Zaj ?_|refine Zaa ?_|refine Za0 ?_|refine Zb2 ?_|refine Zak rfl ?_)|(refine E_id ?_;first|refine Zae ?_|refine Zaw ?_|refine Za1 ?_|refine Zax rfl (by first|exact Zao rfl|exact Zay rfl (Za5 hS.cell)|exact Zay rfl (Za4 hS.cellsN)) (Ret.mk ?_)))
  refine ⟨?_,hS.drops⟩
  rw [hSe,show (Zds l).take l.length = Zds l from List.take_of_length_le (by simp [Zds])]
  unfold digest
  rfl
end Cr
namespace Cr
open Go Go.Proofs
set_option maxRecDepth 100000
set_option maxHeartbeats 4000000
attribute [local irreducible] Calls

def Zfc (rd fs : List Int) (l : List UInt8) : List UInt8 := (StrM.init.more rd fs l).sum rd fs
theorem Zee (rd fs : List Int) (l : List UInt8) : (Zfc rd fs l).length = 32 := by unfold Zfc StrM.sum; exact Ze5 _
attribute [irreducible] Zfc
theorem dof_ (a : Option Addr) (c : Nat) (l : List Bs) (rd fs : List Int) (W : World) (hn : (Zba l).length < 1152921504606846976) (hl : l.length < 2305843009213693951) (hG : Gl W noF rd fs) (hB : Bss W noF a l) :
  Calls Tryz.prog 29 #[.slice a l.length c] W (Ret fun v w => v = .agg (bv (Zfc rd fs (Zba l))).toArray ∧ St W noF [] w) := by
 have hS := St.start W
 have hf := hG.first8
 refine Zaq Tryz.func29 rfl Tryz.ntmps29 rfl ?_
 repeat (first|(refine G_id ?_;first|refine Zah ?_|refine Zac rfl rfl ?_)|(refine X_id ?_;first|refine X_yl (Zad rfl rfl) rfl rfl ?_|refine X_yl (Zcq rfl rfl rfl) rfl rfl ?_|refine Zel rfl rfl rfl rfl hS (fun _ _ hS _ => ?_)|refine Zbc rfl rfl rfl hS (fun _ _ hS _ => ?_))|(refine C_id ?_;first|refine Zaj ?_|refine Zaa ?_)|(refine E_id ?_;first|refine Zae ?_))
 rename_i b2 _ _ _ p wp _
 rw [bv_rep] at hS
 replace hS : St W noF [pts p (.cells StrM.init.cells.toArray 95),pts b2 (.cells (bv (List.replicate 32 0)).toArray 23)] wp := hS
 obtain ⟨_,hc,hr,hw,hbk⟩ := hS.call [true,false]
 have hBs : Bss wp _ a l := ⟨hw _ hB.row,fun y hy => hw _ (hB.all y hy)⟩
 refine Zal _ rfl rfl rfl rfl rfl (dwrite_ p StrM.init _ _ _ rd fs _ _ _ StrM.init_ok (by simp [StrM.init]; omega) hl (hG.mono hw) hBs hc) ?_
 rintro _ w ⟨rfl,hS⟩
 replace hS := hbk hS
 clear hc hr hw hbk hBs
 have hlen32 : LenO (bv ((StrM.init.more rd fs (Zba l)).sum rd fs)) 32 := ⟨by rw [Zbw]; exact Ze5 _⟩
 have hok' : (StrM.init.more rd fs (Zba l)).ok := StrM.more_ok hf StrM.init_ok
 have hn' : (StrM.init.more rd fs (Zba l)).n < 1152921504606846976 := by rw [StrM.more_n]; simp [StrM.init]; omega
 repeat (first|(refine G_id ?_;first|refine Zah ?_|refine Zac rfl rfl ?_)|(refine X_id ?_;first|(refine Zbn 46 rfl rfl rfl rfl rfl hS (sum_ p (StrM.init.more rd fs (Zba l)) rd fs 95 _ hok' hn' (hG.mono fun r hr => (hr.rd hS).ro) (hS.rd (List.mem_cons_self ..))) ?_;rintro _ _ rfl hS)|refine Zc2 rfl rfl rfl rfl hS (fun _ hS => ?_))|(refine C_id ?_;first|refine Za0 ?_)|(refine E_id ?_;first|refine Zae ?_|refine Zax rfl (by first|exact Zao rfl|exact Zay rfl (Za5 hS.cell)|exact Zay rfl (Za4 hS.cellsN)) (Ret.mk ?_)))
 refine ⟨?_,hS.drops⟩
 unfold Zfc
 rfl
end Cr
namespace Cr
open Go
theorem Sep.merge {r s t : Res} {rs : List Res} {h : Frag} (H : Sep (r :: s :: rs) h) (hm : ∀ h1 h3,r h1 → s h3 → (∀ k,h1 k = none ∨ h3 k = none) → t (fun k => (h1 k).or (h3 k))) : Sep (t :: rs) h := by
 obtain ⟨h1,h2,a,⟨h3,h4,b,c,d',u'⟩,d,u⟩ := H
 refine ⟨fun k => (h1 k).or (h3 k),h4,hm h1 h3 a b fun k => ?_,c,fun k => ?_,fun k => ?_⟩
 ·rcases d k with e | e
  ·exact .inl e
  ·rw [u'] at e; simp at e; exact .inr e.1
 ·rcases d k with e | e
  ·rcases d' k with e' | e'
   ·left; simp [e,e']
   ·exact .inr e'
  ·rw [u'] at e; simp at e; exact .inr e.2
 ·rw [u,u']; cases e1 : h1 k <;> simp [e1]
theorem St.merge {W : World} {F : Nat → Prop} {r s t : Res} {rs : List Res} {w : World} (hS : St W F (r :: s :: rs) w) (hm : ∀ h1 h3,r h1 → s h3 → (∀ k,h1 k = none ∨ h3 k = none) → t (fun k => (h1 k).or (h3 k))) : St W F (t :: rs) w :=
 hS.imp fun _ h => h.merge hm
abbrev RowD := Option Addr × List Value
def bag (X : List RowD) : Res := fun h => ∀ x ∈ X,∃ h',row x.1 x.2 h' ∧ ∀ b o,h' b = some o → h b = some o
theorem Ro.bag {W : World} {F : Nat → Prop} {X : List RowD} (H : Ro W F (Cr.bag X)) {x : RowD} (hx : x ∈ X) : Ro W F (row x.1 x.2) := H.mono fun _ hh => hh x hx
theorem Rd.bag {w : World} {X : List RowD} (H : Rd w (Cr.bag X)) {x : RowD} (hx : x ∈ X) : Rd w (row x.1 x.2) := H.mono fun _ hh => hh x hx
theorem bag_nil (h : Frag) : bag [] h := fun x hx => by cases hx
section
variable {W : World} {F : Nat → Prop} {rs : List Res} {w : World}
theorem St.bagSub {X Y : List RowD} (hS : St W F (bag X :: rs) w) (h : ∀ x ∈ Y,x ∈ X) : St W F (bag Y :: rs) w := hS.head fun _ hg x hx => hg x (h x hx)
theorem St.bagNil (hS : St W F rs w) : St W F (bag [] :: rs) w := by
 obtain ⟨h,hs,s⟩ := hS
 exact ⟨h,⟨fun _ => none,h,bag_nil _,hs,fun _ => .inl rfl,fun _ => by simp⟩,s⟩
theorem or_left {h1 h3 : Frag} {b : Nat} {o : Obj} (e : h1 b = some o) : (h1 b).or (h3 b) = some o := by rw [e]; rfl
theorem or_right {h1 h3 : Frag} (d : ∀ k,h1 k = none ∨ h3 k = none) {b : Nat} {o : Obj} (e : h3 b = some o) : (h1 b).or (h3 b) = some o := by
 rcases d b with e' | e'
 ·rw [e',e]; rfl
 ·rw [e'] at e; cases e
theorem St.bagJoin {X Y : List RowD} (hS : St W F (bag X :: bag Y :: rs) w) : St W F (bag (X ++ Y) :: rs) w :=
 hS.merge fun h1 h3 a b d x hx => by
  rcases List.mem_append.1 hx with hx | hx
  ·obtain ⟨h',hr,hs⟩ := a x hx
   exact ⟨h',hr,fun b o e => or_left (hs b o e)⟩
  ·obtain ⟨h',hr,hs⟩ := b x hx
   exact ⟨h',hr,fun b o e => or_right d (hs b o e)⟩
theorem St.toBag {r : Res} {a : Option Addr} {cs : List Value} (hS : St W F (r :: rs) w) (hr : ∀ h,r h → row a cs h) : St W F (bag [(a,cs)] :: rs) w :=
 hS.head fun h hg x hx => by
  rw [List.mem_singleton] at hx; subst hx
  exact ⟨h,hr h hg,fun _ _ e => e⟩
theorem St.bagAdd {r : Res} {a : Option Addr} {cs : List Value} {X : List RowD} (hS : St W F (r :: bag X :: rs) w) (hr : ∀ h,r h → row a cs h) : St W F (bag ((a,cs) :: X) :: rs) w :=
 (hS.toBag hr).bagJoin
theorem St.bagPart {X : List RowD} {a a' : Option Addr} {cs cs' : List Value} (hS : St W F (bag X :: rs) w) (hx : (a,cs) ∈ X) (hp : ∀ h,row a cs h → ∃ h',row a' cs' h' ∧ ∀ b o,h' b = some o → h b = some o) : St W F (bag ((a',cs') :: X) :: rs) w :=
 hS.head fun h hg x hx' => by
  rcases List.mem_cons.1 hx' with rfl | hx'
  ·obtain ⟨h1,hr,hs⟩ := hg _ hx
   obtain ⟨h2,hr2,hs2⟩ := hp h1 hr
   exact ⟨h2,hr2,fun b o e => hs b o (hs2 b o e)⟩
  ·exact hg x hx'
theorem own.shrink {T : TypeId} {e : Nat} {a : Option Addr} {c : Nat} {cs : List Value} (k : Nat) : ∀ h,own T e a c cs h → own T e a c (cs.take k) h := fun h H => by
 obtain ⟨hl,hm,H⟩ := H
 refine ⟨by rw [List.length_take]; omega,hm,H.imp id fun ⟨b,cells,ha,hh,hs,ht⟩ => ⟨b,cells,ha,hh,hs,?_⟩⟩
 rw [List.length_take,← List.take_take,ht]
end
end Cr
namespace Cr
open Go
section
variable {P : Program} {o : Oper} {σ : Env} {w : World} {N : Nat} {ds : Md} {K : Env → World → Prop}
variable {x : Operand} {t e : TypeId}
theorem X_convSame {b n c c' d : Nat} {T : TypeId} {cs : List Value} {W : World} {F : Nat → Prop} {rs rest : List Res} (ho : o.op = .convert t t x) (hx : ev σ x = some (.slice (some ⟨b,0,none⟩) n c)) [hu : Und P t (.slice e)] [he : Und P e (.int .u8)]
  (hd : o.dst = some d) (hN : Nat.blt d N = true) (hS : St W F rs w) [hh : HasOwn rs (some ⟨b,0,none⟩) T 1 c' cs rest] (hpos : 0 < cs.length)
  (hk : ∀ w',St W F (row (some ⟨b,0,none⟩) cs :: rest) w' → K ((d,.slice (some ⟨b,0,none⟩) n c) :: σ) w') : X P o N ds σ w K := ⟨fun f ha K' Q' hK => by
 obtain ⟨g,⟨g1,g2,hown,hrest,hdj,hun⟩,s⟩ := hS.perm hh.has
 obtain ⟨hle,hcm,⟨rfl,_⟩ | ⟨b',cells,hbe,rfl,hcz,ht⟩⟩ := hown
 ·rw [Nat.zero_mul] at hle; omega
 ·obtain rfl : b = b' := by simpa using hbe
  have hb : w.heap[b]? = some (.cells cells T (0,0)) := s.agrees b _ (by rw [hun,Zbx]; rfl)
  have hS2 : St W F (pts b (.cells cells T (0,0)) :: rest) w := ⟨g,⟨_,g2,rfl,hrest,hdj,hun⟩,s⟩
  have hlt := Zdc hb
  have hgb : w.heap[b] = .cells cells T (0,0) := (Array.getElem?_eq_some_iff.1 hb).2
  have u : SetBlock w (w.freeze ⟨b,cells.size,none⟩ 1) b (.cells cells T (cells.size,cells.size + 1)) := by
   unfold World.freeze
   rw [if_neg (by omega)]
   refine ⟨by simp,?_,fun k hk => ?_,rfl,rfl,rfl⟩
   ·rw [Array.getElem?_modify,if_pos rfl,hb]; rfl
   ·rw [Array.getElem?_modify,if_neg (Ne.symm hk)]
  have hexec : (execOp f.eval o).run P w = .ok (.value (.slice (some ⟨b,0,none⟩) n c)) (w.freeze ⟨b,cells.size,none⟩ 1) := by
   have hsh : (shape b).run P w = .ok (some (T,cells.size)) w := by simp [shape,Sem.run,World.shape?,hb]
   have hms : (markStringish ⟨b,0,none⟩).run P w = .ok () (w.freeze ⟨b,cells.size,none⟩ 1) := by
    unfold markStringish
    rw [Sem.run_bind,hsh]
    rfl
   simp [execOp,ho,ha.eval hx,convert,run_underlying hu.und,run_underlying he.und,hms,Result.andThen]
  unfold Oper.wp
  rw [hexec]
  have := hK _ _ _ (ha.put (Zbl hN) (.slice (some ⟨b,0,none⟩) n c)) (hk _ ((hS2.set u).head fun h hh => .inr ⟨b,0,cells,T,_,rfl,hh,fun i v hv => by
   rw [← ht,List.getElem?_take] at hv
   split at hv
   ·simpa using hv
   ·cases hv⟩))
  rw [← hd] at this
  exact this⟩
end
end Cr
namespace Cr
open Go
set_option maxRecDepth 10000
section
variable {P : Program} {o : Oper} {σ : Env} {w : World} {x y : Operand} {t ty e : TypeId} {N : Nat} {ds : Md} {K : Env → World → Prop}
theorem X_makeB {T bytes d c : Nat} {k k' : IntKind} {W : World} {F : Nat → Prop} {rs : List Res} (ho : o.op = .makeSlice t x y) (hx : ev σ x = some (.int k (c : Nat))) (hy : ev σ y = some (.int k' (c : Nat)))
  [h : Und P t (.slice T)] [hi : Inf P T (.int .u8 0) 1 bytes] (hb : bytes * c ≤ 281474976710656) (hm : c ≤ 9223372036854775807) (hd : o.dst = some d) (hN : Nat.blt d N = true) (hS : St W F rs w)
  (hk : ∀ b w',St W F (pts b (.cells (bv (List.replicate c 0)).toArray T) :: rs) w' → K ((d,.slice (some ⟨b,0,none⟩) c c) :: σ) w') : X P o N ds σ w K :=
 X_make ho hx hy (by omega) (Int.le_refl _) (by rw [← Int.natCast_mul]; omega) (by omega) hd hN hS fun b w' hS' _ => hk b w' (by
  have e1 : (Value.int .u8 0).cells = #[Value.int .u8 0] := rfl
  rw [e1,madeCells_one,Int.toNat_natCast,Nat.mul_one,bv_rep] at hS'
  exact hS')
theorem X_storeBA {N : Nat} {ds : Md} {K : Env → World → Prop} {b off j : Nat} {c : UInt8} {L : List UInt8} {T : TypeId} {W : World} {F : Nat → Prop} {rs rs' : List Res} (ho : o.op = .store t x y) (hx : ev σ x = some (.pointer (some (adr (some ⟨b,off,none⟩) j)))) (hy : ev σ y = some (.int .u8 (c.toNat : Int))) [hs : Siz P t 1]
  (hd : o.dst = none) (hS : St W F rs w) [hh : Has rs b (.cells (bv L).toArray T (0,0))] (hfit : off + j < L.length) [hu : Upd rs b (.cells (bv (L.set (off + j) c)).toArray T (0,0)) rs']
  (h : ∀ w',St W F rs' w' → K σ w') : X P o N ds σ w K := X_storeB (off := off + j) ho hx hy hd hS hfit h
end
def rds (l : List Bs) : Res := Sep (l.map fun x => bytes x.a x.s)
theorem St.rdsNil {W : World} {F : Nat → Prop} {rs : List Res} {w : World} (hS : St W F rs w) : St W F (rds [] :: rs) w := by
 obtain ⟨h,hs,s⟩ := hS
 exact ⟨h,⟨fun _ => none,h,fun _ => rfl,hs,fun _ => .inl rfl,fun _ => by simp⟩,s⟩
theorem St.rdsCons {W : World} {F : Nat → Prop} {rs : List Res} {w : World} {x : Bs} {l : List Bs} (hS : St W F (bytes x.a x.s :: rds l :: rs) w) : St W F (rds (l ++ [x]) :: rs) w := by
 obtain ⟨h,hs,s⟩ := hS
 refine ⟨h,?_,s⟩
 obtain ⟨h1,h2,a,⟨h3,h4,b,c,d',u'⟩,d,u⟩ := hs
 refine ⟨fun k => (h1 k).or (h3 k),h4,?_,c,fun k => ?_,fun k => ?_⟩
 ·have : Sep (bytes x.a x.s :: (l.map fun x => bytes x.a x.s)) (fun k => (h1 k).or (h3 k)) := ⟨h1,h3,a,b,fun k => by
   rcases d k with e | e
   ·exact .inl e
   ·rw [u'] at e; simp at e; exact .inr e.1,fun _ => rfl⟩
  have p : (bytes x.a x.s :: (l.map fun x => bytes x.a x.s)).Perm ((l ++ [x]).map fun x => bytes x.a x.s) := by
   rw [List.map_append]; exact (List.perm_append_comm (l₁ := [bytes x.a x.s]) (l₂ := l.map fun x => bytes x.a x.s))
  exact Sep.perm p _ this
 ·rcases d k with e | e
  ·rcases d' k with e' | e'
   ·left; simp [e,e']
   ·exact .inr e'
  ·rw [u'] at e; simp at e; exact .inr e.2
 ·rw [u,u']; cases e1 : h1 k <;> simp [e1]
theorem Ro.sep {W : World} {F : Nat → Prop} {rs : List Res} (H : Ro W F (Sep rs)) : ∀ r ∈ rs,Ro W F r := by
 obtain ⟨f,hs,ha⟩ := H
 induction rs generalizing f with
 | nil => intro r hr; cases hr
 | cons x rs ih =>
  obtain ⟨h1,h2,hx,hrs,hd,hu⟩ := hs
  have s1 : ∀ b o,h1 b = some o → f b = some o := fun b o e => by rw [hu,e]; rfl
  have s2 : ∀ b o,h2 b = some o → f b = some o := fun b o e => by
   rw [hu]; rcases hd b with e' | e'
   ·simp [e',e]
   ·rw [e] at e'; simp at e'
  intro r hr
  cases hr with
  | head => exact ⟨h1,hx,fun b o e => ha b o (s1 b o e)⟩
  | tail _ hr => exact ih h2 hrs (fun b o e => ha b o (s2 b o e)) r hr
theorem Ro.rds {W : World} {F : Nat → Prop} {l : List Bs} (H : Ro W F (rds l)) : ∀ x ∈ l,Ro W F (bytes x.a x.s) := fun x hx => Ro.sep H _ (List.mem_map.2 ⟨x,hx,rfl⟩)
end Cr
namespace Cr
open Go
set_option maxRecDepth 10000
section
variable {P : Program} {w : World} {t e : TypeId}
theorem run_equalIn_arr (d n : Nat) [h : Und P t (.array n e)] [he : Und P e (.int .u8)] [hs : Siz P e 1] [h1 : One P e] (a b : List UInt8) (ha : a.length = n) (hb : b.length = n) :
  (Op.equalIn (d + 2) t (.agg (bv a).toArray) (.agg (bv b).toArray)).run P w = .ok (decide (a = b)) w := by
 unfold Op.equalIn
 simp only [Sem.run_bind,run_underlying h.und,Result.andThen_ok,Zb0 (n := 1),Nat.mul_one]
 simp only [Std.Legacy.Range.forIn_eq_forIn_range']
 have hp : ∀ (l : List UInt8) (i : Nat) (hi : i < l.length),(part e (bv l).toArray i).run P w = .ok (.int .u8 (l[i].toNat : Int)) w := fun l i hi => by
  have := bv_get hi
  simp [part,h1.one,List.getElem?_toArray,this]
 have key : ∀ m s,s + m = n → (forIn (List.range' s m) (none,()) (fun i (__s : Option Bool × Unit) => do
   let __do_lift ← part e (bv a).toArray i
   let __do_lift_1 ← part e (bv b).toArray i
   let __do_lift ← Op.equalIn (d + 1) e __do_lift __do_lift_1
   if (!__do_lift) = true then pure (ForInStep.done (some false,())) else pure (ForInStep.yield (none,()))) : Sem (Option Bool × Unit)).run P w = .ok (if a.drop s = b.drop s then none else some false,()) w := by
  intro m
  induction m with
  | zero =>
   intro s hs
   rw [List.drop_of_length_le (by omega),List.drop_of_length_le (by omega)]
   simp
  | succ m ih =>
   intro s hs
   have hsa : s < a.length := by omega
   have hsb : s < b.length := by omega
   rw [List.range'_succ,List.forIn_cons]
   simp only [Sem.run_bind,hp a s hsa,hp b s hsb,Result.andThen_ok,run_equalIn_int w d e .u8 .u8 _ _ he.und]
   rw [List.drop_eq_getElem_cons hsa,List.drop_eq_getElem_cons hsb]
   by_cases hc : a[s] = b[s]
   ·have e1 : ((a[s].toNat : Int) == (b[s].toNat : Int)) = true := by rw [hc]; simp
    rw [e1]
    simp only [Bool.not_true,Bool.false_eq_true,if_false,Sem.run_pure,Result.andThen_ok]
    rw [ih (s + 1) (by omega),hc]
    simp only [List.cons.injEq,true_and]
   ·have e1 : ((a[s].toNat : Int) == (b[s].toNat : Int)) = false := by
     simp only [beq_eq_false_iff_ne,ne_eq]
     intro h
     exact hc (UInt8.toNat_inj.1 (by omega))
    rw [e1]
    simp only [Bool.not_false,if_true,Sem.run_pure,Result.andThen_ok]
    rw [if_neg (fun h => hc (List.cons.inj h).1)]
 have hz : [:n].size = n := by simp [Std.Legacy.Range.size]
 rw [hz,key n 0 (by omega)]
 by_cases hab : a = b <;> simp [hab]
end
section
variable {P : Program} {o : Oper} {σ : Env} {w : World} {x y : Operand} {t ty e : TypeId}
class NoGuard (P : Program) (t : TypeId) : Prop where
 no : P.eqGuardType P.depth t = false
theorem Yl_neqArr {n : Nat} {a b : List UInt8} (ho : o.op = .binOp .neq t x y ty) (hx : ev σ x = some (.agg (bv a).toArray)) (hy : ev σ y = some (.agg (bv b).toArray)) [h : Und P t (.array n e)] [he : Und P e (.int .u8)] [hs : Siz P e 1] [h1 : One P e] [hg : NoGuard P t] (ha : a.length = n) (hb : b.length = n) :
  Yl P o σ w (.bool (decide (¬ a = b))) := ⟨fun N ds f hf => by
 have h2 := run_eqGuard_agg (P := P) (w := w) .neq t x y (bv a).toArray (bv b).toArray hg.no
 have h3 := run_neq_struct (P := P) (w := w) t (bv a).toArray (bv b).toArray
 have h4 := run_equalIn_arr (P := P) (w := w) (t := t) (e := e) 9998 n a b ha hb
 have e1 : (!(decide (a = b))) = decide (¬ a = b) := by by_cases q : a = b <;> simp [q]
 simp only [execOp,ho,hf.eval hx,hf.eval hy,Sem.run_bind,h2,h3,h4,Result.andThen_ok,e1]
 rfl⟩
theorem Yl_eqlArr {n : Nat} {a b : List UInt8} (ho : o.op = .binOp .eql t x y ty) (hx : ev σ x = some (.agg (bv a).toArray)) (hy : ev σ y = some (.agg (bv b).toArray)) [h : Und P t (.array n e)] [he : Und P e (.int .u8)] [hs : Siz P e 1] [h1 : One P e] [hg : NoGuard P t] (ha : a.length = n) (hb : b.length = n) :
  Yl P o σ w (.bool (decide (a = b))) := ⟨fun N ds f hf => by
 have h2 := run_eqGuard_agg (P := P) (w := w) .eql t x y (bv a).toArray (bv b).toArray hg.no
 have h3 := run_eql_struct (P := P) (w := w) t (bv a).toArray (bv b).toArray
 have h4 := run_equalIn_arr (P := P) (w := w) (t := t) (e := e) 9998 n a b ha hb
 simp only [execOp,ho,hf.eval hx,hf.eval hy,Sem.run_bind,h2,h3,h4,Result.andThen_ok]
 rfl⟩
end
end Cr
namespace Cr
open Go
section
variable {P : Program} {Q : Exit → Act → World → Prop} {N : Nat} {ds : Md} {σ : Env} {w : World} {x y : Code}
theorem wpIn_weaken {F : Fence} {n : Nat} {c : Code} {Q Q' : Exit → Act → World → Prop} {a : Act} (hq : ∀ e a w,Q e a w → Q' e a w) (h : c.wpIn F n P Q a w) : c.wpIn F n P Q' a w := by
 intro b k cs hro hb hr
 obtain ⟨e,a',w',hQ,harr⟩ := h b k cs hro hb hr
 exact ⟨e,a',w',hq _ _ _ hQ,harr⟩
def Mid {α : Type} (S : α → Env) (R : α → World → Prop) (N : Nat) (ds : Md) : Act → World → Prop := fun a w => ∃ z,Fr (S z) N ds a ∧ R z w
theorem C_join {α : Type} (S : α → Env) (R : α → World → Prop) (h1 : C P x (Exit.then (Mid S R N ds) Q) N ds σ w) (h2 : ∀ z w,R z w → C P y Q N ds (S z) w) : C P x (Exit.then (y.wpIn (Fc ds) 0 P Q) Q) N ds σ w := ⟨fun a ha =>
 wpIn_weaken (fun e a w hh => by
  cases e with
  | normal => obtain ⟨z,hF,hR⟩ := hh; exact (h2 z w hR).run a hF
  | exit id => exact hh
  | goto l => exact hh
  | ret => exact hh
  | panic ch => exact hh
  | outgrown => exact hh) (h1.run a ha)⟩
theorem inBlock_mono {Q1 Q2 : Exit → Act → World → Prop} {id : Nat} (hq : ∀ e a w,Q1 e a w → Q2 e a w) : ∀ e a w,Exit.inBlock id Q1 e a w → Exit.inBlock id Q2 e a w := fun e a w h => by
 cases e with
 | exit id' =>
  by_cases he : id' = id
  ·simp only [Exit.inBlock,if_pos he] at h ⊢; exact hq _ _ _ h
  ·simp only [Exit.inBlock,if_neg he] at h ⊢; exact hq _ _ _ h
 | _ => exact hq _ _ _ h
theorem C_joinB {α : Type} {id : Nat} (S : α → Env) (R : α → World → Prop) (h1 : C P x (Exit.inBlock id (Exit.then (Mid S R N ds) Q)) N ds σ w) (h2 : ∀ z w,R z w → C P y Q N ds (S z) w) : C P x (Exit.inBlock id (Exit.then (y.wpIn (Fc ds) 0 P Q) Q)) N ds σ w := ⟨fun a ha =>
 wpIn_weaken (inBlock_mono fun e a w hh => by
  cases e with
  | normal => obtain ⟨z,hF,hR⟩ := hh; exact (h2 z w hR).run a hF
  | exit id => exact hh
  | goto l => exact hh
  | ret => exact hh
  | panic ch => exact hh
  | outgrown => exact hh) (h1.run a ha)⟩
theorem E_mid {α : Type} {S : α → Env} {R : α → World → Prop} (z : α) (hσ : subs σ (S z)) (hR : R z w) : E (Exit.then (Mid S R N ds) Q) .normal N ds σ w := ⟨fun _ ha => ⟨z,ha.sub hσ,hR⟩⟩
end
section
variable {P : Program} {o : Oper} {σ : Env} {w : World} {t e : TypeId}
end
theorem St.ownRd {W : World} {F : Nat → Prop} {rs rest : List Res} {w : World} {a : Option Addr} {T e c : Nat} {cs : List Value} (hS : St W F rs w) [hh : HasOwn rs a T e c cs rest] : Rd w (row a cs) := ((hS.perm hh.has).rd (List.mem_cons_self ..)).own_row
/-! ### resources in another order -/
class Take1 (rs : List Res) (r : Res) (rest : outParam (List Res)) : Prop where
 perm : rs.Perm (r :: rest)
instance Take1.there (q r : Res) (rs rest : List Res) [h : Take1 rs r rest] : Take1 (q :: rs) r (q :: rest) := ⟨(List.Perm.cons q h.perm).trans (.swap ..)⟩
instance Take1.here (r : Res) (rs : List Res) : Take1 (r :: rs) r rs := ⟨.refl _⟩
class Takes (rs out : List Res) : Prop where
 took : ∀ {W F w},St W F rs w → St W F out w
instance Takes.nil (rs : List Res) : Takes rs [] := ⟨fun h => h.drops⟩
instance Takes.cons (rs rest out : List Res) (r : Res) [h : Take1 rs r rest] [h2 : Takes rest out] : Takes rs (r :: out) := ⟨fun hS => (hS.perm h.perm).under h2.took⟩
theorem St.took {W : World} {F : Nat → Prop} {rs out : List Res} {w : World} (hS : St W F rs w) [h : Takes rs out] : St W F out w := h.took hS
end Cr
namespace Cr
open Go Go.Proofs
set_option maxRecDepth 100000
set_option maxHeartbeats 8000000
attribute [local irreducible] Calls

def chainB : List UInt8 := [99,104,97,105,110]
theorem start_ (rd fs : List Int) (W : World) (hG : Gl W noF rd fs) : Calls Tryz.prog 11 #[] W (Ret fun v w => v = .agg (bv (Zfc rd fs chainB)).toArray ∧ St W noF [] w) := by
 have hS := St.start W
 have hcl : bv chainB = [.int .u8 99,.int .u8 104,.int .u8 97,.int .u8 105,.int .u8 110] := rfl
 refine Zaq Tryz.func11 rfl Tryz.ntmps11 rfl ?_
 repeat (first|(refine G_id ?_;first|refine Zah ?_|refine Zac rfl rfl ?_)|(refine X_id ?_;first|refine Zbc rfl rfl rfl hS (fun _ _ hS _ => ?_)|refine Zbb rfl rfl rfl rfl rfl rfl rfl rfl hS (fun _ _ hS _ => ?_))|(refine C_id ?_;first|refine Zaj ?_|refine Zaa ?_)|(refine E_id ?_;first|refine Zae ?_))
 rename_i b0 _ _
 refine X_convSame rfl rfl rfl rfl hS (by simp) (fun w hS => ?_)
 repeat (first|(refine G_id ?_;first|refine Zac rfl rfl ?_)|(refine X_id ?_;first|refine Zbb rfl rfl rfl rfl rfl rfl rfl rfl hS (fun _ _ hS _ => ?_)))
 rename_i b1 w1 _
 have hB : Bss w1 noF (some ⟨b1,0,none⟩) [⟨some ⟨b0,0,none⟩,5,chainB⟩] := ⟨(show Rd w1 (row (some ⟨b1,0,none⟩) _) by simpa [Bs.val,chainB] using hS.ownRd (a := some ⟨b1,0,none⟩)).ro,fun x hx => by
  rw [List.mem_singleton] at hx
  subst hx
  exact (hS.rd (r := bytes (some ⟨b0,0,none⟩) chainB) (by simp [bytes,← hcl])).ro⟩
 have hl32 : LenO (bv (Zfc rd fs (Zba [⟨some ⟨b0,0,none⟩,5,chainB⟩]))) 32 := ⟨by rw [Zbw]; exact Zee _ _ _⟩
 refine Zbn _ rfl rfl rfl rfl rfl hS (dof_ _ 1 _ rd fs _ (by simp [Zba,chainB]) (by simp) (hG.mono fun r hr => (hr.rd hS).ro) hB) ?_
 rintro _ w rfl hS
 clear hB
 repeat (first|(refine G_id ?_;first|refine Zah ?_|refine Zac rfl rfl ?_)|(refine X_id ?_;first|refine Za2 rfl rfl rfl rfl hS (fun _ hS _ => ?_))|(refine C_id ?_;first|refine Za0 ?_)|(refine E_id ?_;first|refine Zae ?_|refine Zax rfl (by first|exact Zao rfl|exact Zay rfl (Za5 hS.cell)|exact Zay rfl (Za4 hS.cellsN)) (Ret.mk ?_)))
 exact ⟨by rw [show Zba [⟨some ⟨b0,0,none⟩,5,chainB⟩] = chainB by simp [Zba]],hS.drops⟩
end Cr
namespace Cr.Cl
structure N16 (α : Type) where
 (a0 a1 a2 a3 a4 a5 a6 a7 a8 a9 a10 a11 a12 a13 a14 a15 : α)
inductive I16 where
 | i0 | i1 | i2 | i3 | i4 | i5 | i6 | i7 | i8 | i9 | i10 | i11 | i12 | i13 | i14 | i15
noncomputable def N16.get {α : Type} (i : I16) : N16 α → α :=
 I16.rec (motive := fun _ => N16 α → α) (fun e => e.a0) (fun e => e.a1) (fun e => e.a2) (fun e => e.a3) (fun e => e.a4) (fun e => e.a5) (fun e => e.a6) (fun e => e.a7) (fun e => e.a8) (fun e => e.a9) (fun e => e.a10) (fun e => e.a11) (fun e => e.a12) (fun e => e.a13) (fun e => e.a14) (fun e => e.a15) i
noncomputable def N16.set {α : Type} (i : I16) : α → N16 α → N16 α :=
 I16.rec (motive := fun _ => α → N16 α → N16 α) (fun x e => N16.rec (motive := fun _ => N16 α) (fun _ x1 x2 x3 x4 x5 x6 x7 x8 x9 x10 x11 x12 x13 x14 x15 => ⟨x,x1,x2,x3,x4,x5,x6,x7,x8,x9,x10,x11,x12,x13,x14,x15⟩) e) (fun x e => N16.rec (motive := fun _ => N16 α) (fun x0 _ x2 x3 x4 x5 x6 x7 x8 x9 x10 x11 x12 x13 x14 x15 => ⟨x0,x,x2,x3,x4,x5,x6,x7,x8,x9,x10,x11,x12,x13,x14,x15⟩) e) (fun x e => N16.rec (motive := fun _ => N16 α) (fun x0 x1 _ x3 x4 x5 x6 x7 x8 x9 x10 x11 x12 x13 x14 x15 => ⟨x0,x1,x,x3,x4,x5,x6,x7,x8,x9,x10,x11,x12,x13,x14,x15⟩) e) (fun x e => N16.rec (motive := fun _ => N16 α) (fun x0 x1 x2 _ x4 x5 x6 x7 x8 x9 x10 x11 x12 x13 x14 x15 => ⟨x0,x1,x2,x,x4,x5,x6,x7,x8,x9,x10,x11,x12,x13,x14,x15⟩) e) (fun x e => N16.rec (motive := fun _ => N16 α) (fun x0 x1 x2 x3 _ x5 x6 x7 x8 x9 x10 x11 x12 x13 x14 x15 => ⟨x0,x1,x2,x3,x,x5,x6,x7,x8,x9,x10,x11,x12,x13,x14,x15⟩) e) (fun x e => N16.rec (motive := fun _ => N16 α) (fun x0 x1 x2 x3 x4 _ x6 x7 x8 x9 x10 x11 x12 x13 x14 x15 => ⟨x0,x1,x2,x3,x4,x,x6,x7,x8,x9,x10,x11,x12,x13,x14,x15⟩) e) (fun x e => N16.rec (motive := fun _ => N16 α) (fun x0 x1 x2 x3 x4 x5 _ x7 x8 x9 x10 x11 x12 x13 x14 x15 => ⟨x0,x1,x2,x3,x4,x5,x,x7,x8,x9,x10,x11,x12,x13,x14,x15⟩) e) (fun x e => N16.rec (motive := fun _ => N16 α) (fun x0 x1 x2 x3 x4 x5 x6 _ x8 x9 x10 x11 x12 x13 x14 x15 => ⟨x0,x1,x2,x3,x4,x5,x6,x,x8,x9,x10,x11,x12,x13,x14,x15⟩) e) (fun x e => N16.rec (motive := fun _ => N16 α) (fun x0 x1 x2 x3 x4 x5 x6 x7 _ x9 x10 x11 x12 x13 x14 x15 => ⟨x0,x1,x2,x3,x4,x5,x6,x7,x,x9,x10,x11,x12,x13,x14,x15⟩) e) (fun x e => N16.rec (motive := fun _ => N16 α) (fun x0 x1 x2 x3 x4 x5 x6 x7 x8 _ x10 x11 x12 x13 x14 x15 => ⟨x0,x1,x2,x3,x4,x5,x6,x7,x8,x,x10,x11,x12,x13,x14,x15⟩) e) (fun x e => N16.rec (motive := fun _ => N16 α) (fun x0 x1 x2 x3 x4 x5 x6 x7 x8 x9 _ x11 x12 x13 x14 x15 => ⟨x0,x1,x2,x3,x4,x5,x6,x7,x8,x9,x,x11,x12,x13,x14,x15⟩) e) (fun x e => N16.rec (motive := fun _ => N16 α) (fun x0 x1 x2 x3 x4 x5 x6 x7 x8 x9 x10 _ x12 x13 x14 x15 => ⟨x0,x1,x2,x3,x4,x5,x6,x7,x8,x9,x10,x,x12,x13,x14,x15⟩) e) (fun x e => N16.rec (motive := fun _ => N16 α) (fun x0 x1 x2 x3 x4 x5 x6 x7 x8 x9 x10 x11 _ x13 x14 x15 => ⟨x0,x1,x2,x3,x4,x5,x6,x7,x8,x9,x10,x11,x,x13,x14,x15⟩) e) (fun x e => N16.rec (motive := fun _ => N16 α) (fun x0 x1 x2 x3 x4 x5 x6 x7 x8 x9 x10 x11 x12 _ x14 x15 => ⟨x0,x1,x2,x3,x4,x5,x6,x7,x8,x9,x10,x11,x12,x,x14,x15⟩) e) (fun x e => N16.rec (motive := fun _ => N16 α) (fun x0 x1 x2 x3 x4 x5 x6 x7 x8 x9 x10 x11 x12 x13 _ x15 => ⟨x0,x1,x2,x3,x4,x5,x6,x7,x8,x9,x10,x11,x12,x13,x,x15⟩) e) (fun x e => N16.rec (motive := fun _ => N16 α) (fun x0 x1 x2 x3 x4 x5 x6 x7 x8 x9 x10 x11 x12 x13 x14 _ => ⟨x0,x1,x2,x3,x4,x5,x6,x7,x8,x9,x10,x11,x12,x13,x14,x⟩) e) i
def I16.no : I16 → Nat
 | .i0 => 0
 | .i1 => 1
 | .i2 => 2
 | .i3 => 3
 | .i4 => 4
 | .i5 => 5
 | .i6 => 6
 | .i7 => 7
 | .i8 => 8
 | .i9 => 9
 | .i10 => 10
 | .i11 => 11
 | .i12 => 12
 | .i13 => 13
 | .i14 => 14
 | .i15 => 15
def i16 (n : Nat) : I16 := match n % 16 with
 | 0 => .i0
 | 1 => .i1
 | 2 => .i2
 | 3 => .i3
 | 4 => .i4
 | 5 => .i5
 | 6 => .i6
 | 7 => .i7
 | 8 => .i8
 | 9 => .i9
 | 10 => .i10
 | 11 => .i11
 | 12 => .i12
 | 13 => .i13
 | 14 => .i14
 | _ => .i15
theorem i16_no (n : Nat) : (i16 n).no = n % 16 := by
 have h : n % 16 < 16 := Nat.mod_lt _ (by omega)
 unfold i16
 generalize n % 16 = k at h
 match k,h with
 | 0,_ => rfl
 | 1,_ => rfl
 | 2,_ => rfl
 | 3,_ => rfl
 | 4,_ => rfl
 | 5,_ => rfl
 | 6,_ => rfl
 | 7,_ => rfl
 | 8,_ => rfl
 | 9,_ => rfl
 | 10,_ => rfl
 | 11,_ => rfl
 | 12,_ => rfl
 | 13,_ => rfl
 | 14,_ => rfl
 | 15,_ => rfl
 | k + 16,h => omega
theorem N16.get_same {α : Type} (i : I16) (x : α) (e : N16 α) : N16.get i (N16.set i x e) = x := by cases i <;> rfl
theorem N16.get_other {α : Type} {i j : I16} (h : i ≠ j) (x : α) (e : N16 α) : N16.get i (N16.set j x e) = N16.get i e := by
 cases i <;> cases j <;> first | rfl | exact absurd rfl h
theorem I16.no_inj {i j : I16} (h : i.no = j.no) : i = j := by
 cases i <;> cases j <;> first | rfl | cases h
inductive Slot where
 | f (hi lo : I16)
 | s (n : Nat)
def slotOf (n : Nat) : Slot := bif Nat.blt n 256 then .f (i16 (n / 16)) (i16 n) else .s n
end Cr.Cl
namespace Cr.Cl
open Go
theorem i16_mod (n : Nat) : i16 (n % 16) = i16 n := by unfold i16; rw [Nat.mod_mod]
theorem i16_inj {m n : Nat} (h : i16 m = i16 n) : m % 16 = n % 16 := by rw [← i16_no,← i16_no,h]
theorem N16.set_set {α : Type} (i : I16) (x y : α) (e : N16 α) : N16.set i y (N16.set i x e) = N16.set i y e := by cases i <;> cases e <;> rfl
structure Laws {S α : Type} (get : S → Nat → Option α) (put : S → Nat → Option α → S) (list : S → List (Nat × α)) (b : Nat) : Prop where
 get_put : ∀ s n m x,n < b → m < b → get (put s n x) m = if m = n then x else get s m
 put_put : ∀ s n x y,n < b → put (put s n x) n y = put s n y
 perm : ∀ s n,n < b → (list s).Perm ((match get s n with | some x => [(n,x)] | none => []) ++ list (put s n none))
theorem Laws.set_old {S α : Type} {get : S → Nat → Option α} {put : S → Nat → Option α → S} {list : S → List (Nat × α)} {b : Nat} (L : Laws get put list b) {s : S} {n : Nat} {x : α} (y : α) (hn : n < b) (hg : get s n = some x) : (list s).Perm ((n,x) :: list (put s n none)) ∧ (list (put s n (some y))).Perm ((n,y) :: list (put s n none)) := by
 have h1 := L.perm s n hn
 rw [hg] at h1
 have h2 := L.perm (put s n (some y)) n hn
 rw [L.get_put _ _ _ _ hn hn,if_pos rfl,L.put_put _ _ _ _ hn] at h2
 exact ⟨h1,h2⟩
theorem Laws.set_new {S α : Type} {get : S → Nat → Option α} {put : S → Nat → Option α → S} {list : S → List (Nat × α)} {b : Nat} (L : Laws get put list b) {s : S} {n : Nat} (x : α) (hn : n < b) (hg : get s n = none) : (list (put s n (some x))).Perm ((n,x) :: list s) := by
 have h1 := L.perm s n hn
 rw [hg] at h1
 have h2 := L.perm (put s n (some x)) n hn
 rw [L.get_put _ _ _ _ hn hn,if_pos rfl,L.put_put _ _ _ _ hn] at h2
 exact h2.trans (h1.symm.cons (n,x))
theorem Laws.mem {S α : Type} {get : S → Nat → Option α} {put : S → Nat → Option α → S} {list : S → List (Nat × α)} {b : Nat} (L : Laws get put list b) {s : S} {n : Nat} {x : α} (hn : n < b) (hg : get s n = some x) : (n,x) ∈ list s :=
 (L.set_old x hn hg).1.mem_iff.2 (List.mem_cons_self ..)
section
variable {α : Type}
def get0 (o : Option α) (_ : Nat) : Option α := o
def put0 (_ : Option α) (_ : Nat) (x : Option α) : Option α := x
def list0 (o : Option α) : List (Nat × α) := match o with | some x => [(0,x)] | none => []
theorem laws0 : Laws (get0 (α := α)) put0 list0 1 :=
 ⟨fun s n m x hn hm => by rw [if_pos (by omega)]; rfl,fun _ _ _ _ _ => rfl,fun s n hn => by
  obtain rfl : n = 0 := by omega
  cases s <;> exact .refl _⟩
section
variable {S : Type} (get : S → Nat → Option α) (put : S → Nat → Option α → S) (list : S → List (Nat × α))
noncomputable def getN (e : N16 S) (n : Nat) : Option α := get (N16.get (i16 n) e) (Nat.div n 16)
noncomputable def putN (e : N16 S) (n : Nat) (x : Option α) : N16 S := N16.set (i16 n) (put (N16.get (i16 n) e) (Nat.div n 16) x) e
noncomputable def listN (e : N16 S) : List (Nat × α) := (List.range 16).flatMap fun i => (list (N16.get (i16 i) e)).map fun q => (16 * q.1 + i,q.2)
end
theorem flatMap_eq {β γ : Type} {f g : β → List γ} : ∀ {l : List β},(∀ x ∈ l,f x = g x) → l.flatMap f = l.flatMap g
 | [],_ => rfl
 | a :: l,h => by rw [List.flatMap_cons,List.flatMap_cons,h a (List.mem_cons_self ..),flatMap_eq fun x hx => h x (List.mem_cons_of_mem _ hx)]
theorem lawsN {S : Type} {get : S → Nat → Option α} {put : S → Nat → Option α → S} {list : S → List (Nat × α)} {b : Nat} (L : Laws get put list b) : Laws (getN get) (putN put) (listN list) (16 * b) := by
 refine ⟨fun s n m x hn hm => ?_,fun s n x y hn => ?_,fun s n hn => ?_⟩
 ·unfold getN putN
  have h1 : Nat.div n 16 < b := by show n / 16 < b; omega
  have h2 : Nat.div m 16 < b := by show m / 16 < b; omega
  by_cases e : m % 16 = n % 16
  ·have e2 : i16 m = i16 n := I16.no_inj (by rw [i16_no,i16_no,e])
   rw [e2,N16.get_same,L.get_put _ _ _ _ h1 h2]
   by_cases e3 : m / 16 = n / 16
   ·rw [if_pos (show Nat.div m 16 = Nat.div n 16 from e3),if_pos (by omega)]
   ·rw [if_neg (show ¬ Nat.div m 16 = Nat.div n 16 from e3),if_neg (by intro q; exact e3 (by rw [q]))]
  ·rw [N16.get_other (fun q => e (i16_inj q)),if_neg (by rintro rfl; exact e rfl)]
 ·unfold putN
  have h1 : Nat.div n 16 < b := by show n / 16 < b; omega
  rw [N16.get_same,L.put_put _ _ _ _ h1,N16.set_set]
 ·have h1 : Nat.div n 16 < b := by show n / 16 < b; omega
  have hi : n % 16 ∈ List.range 16 := List.mem_range.2 (Nat.mod_lt _ (by omega))
  have hp := List.perm_cons_erase hi
  have hrest : ∀ j ∈ (List.range 16).erase (n % 16),N16.get (i16 j) (putN put s n none) = N16.get (i16 j) s := fun j hj => by
   have hj2 := (List.Nodup.mem_erase_iff List.nodup_range).1 hj
   have hj3 := List.mem_range.1 hj2.2
   unfold putN
   rw [N16.get_other fun q => hj2.1 (by have := i16_inj q; omega)]
  have hdig : N16.get (i16 (n % 16)) (putN put s n none) = put (N16.get (i16 n) s) (Nat.div n 16) none := by
   unfold putN; rw [i16_mod,N16.get_same]
  have hn16 : 16 * (Nat.div n 16) + n % 16 = n := by show 16 * (n / 16) + n % 16 = n; omega
  unfold listN
  refine (hp.flatMap_right _).trans ?_
  refine List.Perm.trans ?_ (List.Perm.append_left _ (hp.flatMap_right _).symm)
  rw [List.flatMap_cons,List.flatMap_cons,hdig,i16_mod]
  rw [flatMap_eq (f := fun i => (list (N16.get (i16 i) (putN put s n none))).map fun q => (16 * q.1 + i,q.2)) (g := fun i => (list (N16.get (i16 i) s)).map fun q => (16 * q.1 + i,q.2)) fun j hj => by rw [hrest j hj]]
  rw [← List.append_assoc]
  refine List.Perm.append_right _ ?_
  have := (L.perm (N16.get (i16 n) s) (Nat.div n 16) h1).map fun q : Nat × α => (16 * q.1 + n % 16,q.2)
  rw [List.map_append] at this
  have e2 : getN get s n = get (N16.get (i16 n) s) (Nat.div n 16) := rfl
  rw [e2]
  cases hg : get (N16.get (i16 n) s) (Nat.div n 16) with
  | none => rw [hg] at this; exact this
  | some x =>
   rw [hg] at this
   simp only [List.map_cons,List.map_nil,hn16] at this
   exact this
abbrev H1 (α : Type) := N16 (Option α)
abbrev H2 (α : Type) := N16 (H1 α)
abbrev H3 (α : Type) := N16 (H2 α)
abbrev H4 (α : Type) := N16 (H3 α)
abbrev H5 (α : Type) := N16 (H4 α)
def n16 {β : Type} (x : β) : N16 β := ⟨x,x,x,x,x,x,x,x,x,x,x,x,x,x,x,x⟩
def hnil : H5 α := n16 (n16 (n16 (n16 (n16 none))))
noncomputable def get5 : H5 α → Nat → Option α := getN (getN (getN (getN (getN get0))))
noncomputable def put5 : H5 α → Nat → Option α → H5 α := putN (putN (putN (putN (putN put0))))
noncomputable def list5 : H5 α → List (Nat × α) := listN (listN (listN (listN (listN list0))))
theorem laws5 : Laws (get5 (α := α)) put5 list5 1048576 := lawsN (lawsN (lawsN (lawsN (lawsN laws0))))
theorem N16.get_n16 {β : Type} (i : I16) (x : β) : N16.get i (n16 x) = x := by cases i <;> rfl
theorem listN_nil {S : Type} {list : S → List (Nat × α)} {x : S} (h : list x = []) : listN list (n16 x) = [] := by
 unfold listN
 rw [List.flatMap_eq_nil_iff]
 intro i _
 rw [N16.get_n16,h]; rfl
theorem list5_nil : list5 (hnil : H5 α) = [] := listN_nil (listN_nil (listN_nil (listN_nil (listN_nil rfl))))
end
attribute [irreducible] get5 put5 list5
noncomputable def forceN {β : Type} (n : Nat) (k : Nat → β) : β := Nat.rec (motive := fun _ => β) (k 0) (fun p _ => k (Nat.succ p)) n
theorem forceN_eq {β : Type} (n : Nat) (k : Nat → β) : forceN n k = k n := by cases n <;> rfl
end Cr.Cl
