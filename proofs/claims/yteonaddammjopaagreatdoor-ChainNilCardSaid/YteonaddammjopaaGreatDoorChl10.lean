/-
  bytes.Join (without a separator) and bytes.Equal.
  Layer 4 (wal): big,small,full,front,note.
  Layer 1 (block): what each function of package block does to a disk in memory.
  Layer 1 (block): New,Write,Flush.
  Layer 1 (block): Write,Flush.
  slices.Backward: what the function that it hands back does,round by round.
  Layer 1 (block): lay,Flush,Read.
  Layer 1 (block): Read.
-/
import Derived.Test.YteonaddammjopaaGreatDoorChl9
import Derived.Test.YteonaddammjopaaGreatDoorChl3
import Derived.Test.YteonaddammjopaaGreatDoorChl4
import Derived.Lib.MakeNoZero
import Derived.Laws.Externs
import Derived.Test.YteonaddammjopaaGreatDoorChl2
namespace Cr
open Go Go.Proofs
set_option maxRecDepth 100000
set_option maxHeartbeats 4000000
attribute [local irreducible] Calls

theorem equal_ (a b : Option Addr) (n m c c' : Nat) (s t : List UInt8) (W : World) (ha : Rd W (bytes a s)) (hb : Rd W (bytes b t)) (hn : s.length = n) (hm : t.length = m) :
  Calls Tryz.prog 119 #[.slice a n c,.slice b m c'] W (Ret fun v w => v = .bool (decide (s = t)) ∧ W = w) := by
 refine Zaq Tryz.func119 rfl Tryz.ntmps119 rfl ?_
 repeat (first|(refine G_id ?_;first|refine Zah ?_|refine Zac rfl rfl ?_)|(refine X_id ?_;first|refine X_yl (Zad rfl rfl) rfl rfl ?_|refine X_yl (Zab rfl rfl) rfl rfl ?_)|(refine C_id ?_;first|refine Zaj ?_|refine Zaa ?_)|(refine E_id ?_;first|refine Zae ?_))
 refine X_yl (Yl_bytesStr rfl rfl ha hn) rfl rfl ?_
 repeat (first|(refine G_id ?_;first|refine Zac rfl rfl ?_)|(refine X_id ?_;first|refine X_yl (Zad rfl rfl) rfl rfl ?_))
 refine X_yl (Yl_bytesStr rfl rfl hb hm) rfl rfl ?_
 repeat (first|(refine G_id ?_;first|refine Zac rfl rfl ?_))
 refine X_yl (Yl_eqlStr rfl rfl rfl) rfl rfl ?_
 repeat (first|(refine G_id ?_;first|refine Zah ?_|refine Zac rfl rfl ?_)|(refine X_id ?_;first|refine X_yl (Zab rfl rfl) rfl rfl ?_)|(refine C_id ?_;first|refine Za0 ?_)|(refine E_id ?_;first|refine Zae ?_|refine Zax rfl (Zao rfl) (Ret.mk ?_)))
 exact ⟨rfl,rfl⟩

theorem mkNoZero (n : Nat) (w : World) (hn : n ≤ 281474976710656) : ∃ cs : Array Value,(callFunc 111 #[.int .i64 n]).run Tryz.prog w = .ok (.value (.slice (some ⟨w.heap.size,0,none⟩) n cs.size)) (w.drew.drew.alloc (.cells cs 5)) ∧ n ≤ cs.size := by
 obtain ⟨cs,hrun,hle,_⟩ := Lib.run_makeNoZero (P := Tryz.prog) (w := w) #[3] 36 5 (Und.und (P := Tryz.prog) (t := 36) (d := .slice 5)) n hn
 refine ⟨cs,?_,hle⟩
 rw [run_callFunc_extern Tryz.func111 (by kernel_rfl) (by kernel_rfl) (by kernel_rfl) (e := Extern.BytealgMakeNoZero.makeNoZero #[3] #[36]) (by kernel_rfl),hrun]
 rfl
theorem St.alloc2 {W : World} {F : Nat → Prop} {rs : List Res} {w : World} (hS : St W F rs w) (o : Obj) : St W F (pts w.heap.size o :: rs) (w.drew.drew.alloc o) := hS.drew.drew.alloc o

theorem join_ (ab ao c : Nat) (l : List Bs) (W : World) (hB : Bss W noF (some ⟨ab,ao,none⟩) l) (h2 : 2 ≤ l.length) (hc : l.length ≤ c) (hl : l.length ≤ 1099511627776) (hn : (Zba l).length ≤ 1099511627776) :
  Calls Tryz.prog 233 #[.slice (some ⟨ab,ao,none⟩) l.length c,.slice none 0 0] W (Ret fun v w => ∃ p,v = .slice (some ⟨p,0,none⟩) (Zba l).length (Zba l).length ∧ St W noF [bytes (some ⟨p,0,none⟩) (Zba l)] w) := by
 have hS := St.start W
 refine Zaq Tryz.func233 rfl Tryz.ntmps233 rfl ?_
 repeat (first|(refine G_id ?_;first|refine Zah ?_|refine Zac rfl rfl ?_)|(refine X_id ?_;first|refine X_yl (Zad rfl rfl) rfl rfl ?_|refine X_yl (Zab rfl rfl) rfl rfl ?_|refine X_yl (Zby rfl rfl) rfl rfl ?_|refine X_yl (Zd3 rfl rfl rfl (by omega)) rfl rfl ?_|refine X_yl (Zdo rfl rfl rfl (by omega)) rfl rfl ?_)|(refine C_id ?_;first|refine Zaj ?_|refine Zaa ?_|refine Zat ?_|refine Zav ?_|refine Zak rfl ?_)|(refine E_id ?_;first|refine Zae ?_))
 refine Zb8 (α := Nat) (fun i => [(0,.slice (some ⟨ab,ao,none⟩) l.length c),(1,.slice none 0 0),(5,.int .i64 ((Zba (l.take i)).length : Nat)),(42,.slice (some ⟨ab,ao,none⟩) l.length c),(43,.int .i64 (l.length : Nat)),(44,.int .i64 (i : Nat))])
  (fun i w => i ≤ l.length ∧ St W noF [] w) (fun i => l.length - i) 0 ⟨rfl,rfl,rfl,rfl,rfl,rfl,trivial⟩ ⟨Nat.zero_le _,hS⟩ ?_
 clear hS
 rintro i w ⟨hi,hS⟩
 have hr := hB.row
 by_cases hlt : i < l.length
 ·have hx0 : l[i]? = some l[i] := List.getElem?_eq_getElem hlt
  generalize l[i] = x at hx0
  have hx : (l.map Bs.val)[i]? = some (.slice x.a x.s.length x.c) := by simp [hx0,Bs.val]
  have hj := Zd6 hx0
  have hle := Zc0 l (i + 1)
  have hjl : (Zba (l.take (i + 1))).length = (Zba (l.take i)).length + x.s.length := by rw [hj]; simp
  rw [hjl] at hle
  clear hj
  repeat (first|(refine G_id ?_;first|refine Zah ?_|refine Zac rfl rfl ?_)|(refine X_id ?_;first|refine X_yl (Zad rfl rfl) rfl rfl ?_|refine X_yl (Zab rfl rfl) rfl rfl ?_|refine X_yl (Zby rfl rfl) rfl rfl ?_|refine X_yl (Za7 rfl rfl rfl (by omega)) rfl rfl ?_|refine X_yl (Zdo rfl rfl rfl (by omega)) rfl rfl ?_|refine X_yl (Zau rfl rfl rfl (by omega) (by omega) (by first|assumption|exact ⟨_,_,rfl⟩)) rfl rfl ?_|refine X_yl (Zbo rfl rfl rfl (w64 (by omega) (by omega))) rfl rfl ?_|refine X_yl (Zdx rfl rfl rfl (w64 (by omega) (by omega))) rfl rfl ?_|refine X_yl (Zap rfl rfl ((hr.rd hS).cellX (by omega) hx)) rfl rfl ?_)|(refine C_id ?_;first|refine Zaj ?_|refine Zaa ?_|refine Zat ?_|refine Zav ?_|refine Zam rfl ?_|refine Zak rfl ?_)|(refine E_id ?_;first|refine Zae ?_|refine Zbh ?_))
  refine Zbu (i + 1) ⟨rfl,rfl,by rw [hjl]; rfl,rfl,rfl,rfl,trivial⟩ ⟨by omega,hS⟩ (by omega)
 ·obtain rfl : i = l.length := by omega
  rw [List.take_length]
  repeat (first|(refine G_id ?_;first|refine Zah ?_|refine Zac rfl rfl ?_)|(refine X_id ?_;first|refine X_yl (Zad rfl rfl) rfl rfl ?_|refine X_yl (Za8 rfl rfl rfl (by omega)) rfl rfl ?_)|(refine C_id ?_;first|refine Zaj ?_|refine Zaa ?_|refine Zb2 ?_|refine Zak rfl ?_)|(refine E_id ?_;first|refine Zae ?_|refine Zaw ?_|refine Za1 ?_))
  obtain ⟨cs,hrun,hcs⟩ := mkNoZero (Zba l).length w (by omega)
  refine X_run rfl rfl rfl hrun rfl rfl ?_
  replace hS := hS.alloc2 (.cells cs 5)
  generalize w.drew.drew.alloc (.cells cs 5) = w2 at hS ⊢
  generalize w.heap.size = p at hS ⊢
  clear hrun
  obtain ⟨T,hT⟩ : ∃ T,T = (Zba l).length := ⟨_,rfl⟩
  have hjt := Zc0 l
  rw [← hT] at hcs hn hjt ⊢
  repeat (first|(refine G_id ?_;first|refine Zac rfl rfl ?_)|(refine X_id ?_;first|refine X_yl (Zad rfl rfl) rfl rfl ?_))
  refine X_yl (Yl_slice3 (l := 0) (h := T) (k := T) rfl rfl rfl rfl rfl ⟨_,_,rfl,by omega,by omega,hcs⟩ ⟨_,_,rfl,by omega,by omega,Nat.le_refl _⟩ (.inl ⟨rfl,rfl⟩)) rfl rfl ?_
  rw [sub_zero,Nat.sub_zero]
  obtain ⟨x,hx0⟩ : ∃ x,l[0]? = some x := ⟨_,List.getElem?_eq_getElem (by omega)⟩
  have hx : (l.map Bs.val)[0]? = some (.slice x.a x.s.length x.c) := by simp [hx0,Bs.val]
  have hbx := hB.all x (List.mem_of_getElem? hx0)
  have hj0 := Zd6 hx0
  simp only [List.take_zero,Nat.zero_add] at hj0
  replace hj0 : Zba (l.take 1) = x.s := by rw [hj0]; rfl
  have hx1 := hjt 1
  rw [hj0] at hx1
  obtain ⟨c0,rfl⟩ : ∃ c0 : List Value,cs = c0.toArray := ⟨cs.toList,by simp⟩
  have hc0 : T ≤ c0.length := by simpa using hcs
  repeat (first|(refine G_id ?_;first|refine Zah ?_|refine Zac rfl rfl ?_)|(refine X_id ?_;first|refine X_yl (Zad rfl rfl) rfl rfl ?_|refine X_yl (Zab rfl rfl) rfl rfl ?_|refine X_yl (Zau rfl rfl rfl (by omega) (by omega) (by first|assumption|exact ⟨_,_,rfl⟩)) rfl rfl ?_|refine X_yl (Zap rfl rfl ((hr.rd hS).cellX (by omega) hx)) rfl rfl ?_)|(refine C_id ?_;first|refine Zaj ?_|refine Zaa ?_)|(refine E_id ?_;first|refine Zae ?_))
  refine X_copy rfl rfl rfl rfl rfl hS (hbx.rd hS) (by simp) bv_one (by omega) (fun w hS => ?_)
  rw [List.take_of_length_le (by simp; omega)] at hS
  replace hS : St W noF [pts p (.cells (bv (Zba (l.take 1)) ++ c0.drop x.s.length).toArray 5)] w := by
   rw [hj0]; simpa [Zbt] using hS
  have hmin : min x.s.length T = (Zba (l.take 1)).length := by rw [hj0]; omega
  rw [hmin]
  have hjx : (Zba (l.take 1)).length = x.s.length := by rw [hj0]
  clear hmin hx hx0 hbx hj0
  repeat (first|(refine G_id ?_;first|refine Zah ?_|refine Zac rfl rfl ?_)|(refine X_id ?_;first|refine X_yl (Zad rfl rfl) rfl rfl ?_|refine X_yl (Zab rfl rfl) rfl rfl ?_)|(refine C_id ?_;first|refine Zaj ?_|refine Zaa ?_)|(refine E_id ?_;first|refine Zae ?_))
  refine X_yl (Zcx (l := 1) (h := l.length) rfl rfl rfl rfl (.inl ⟨rfl,rfl⟩) (.inr ⟨_,_,rfl,by omega,by omega,by omega⟩)) rfl rfl ?_
  rw [show sub (some ⟨ab,ao,none⟩) 1 1 c = some ⟨ab,ao + 1,none⟩ by unfold sub; rw [if_neg (by omega)]; simp [Zcj]]
  have hr' : Ro W noF (row (some ⟨ab,ao + 1,none⟩) ((l.map Bs.val).drop 1)) := hr.mono fun h hh => by
   have := row.part (a := some ⟨ab,ao,none⟩) (cs' := (l.map Bs.val).drop 1) (i := 1) (fun j v hv => by simpa [Nat.add_comm] using hv) h hh
   simpa [adr] using this
  clear hr
  repeat (first|(refine G_id ?_;first|refine Zah ?_|refine Zac rfl rfl ?_)|(refine X_id ?_;first|refine X_yl (Zad rfl rfl) rfl rfl ?_|refine X_yl (Zby rfl rfl) rfl rfl ?_)|(refine C_id ?_;first|refine Zat ?_)|(refine E_id ?_;first|refine Zae ?_))
  refine Zb8 (α := Nat) (fun i => [(1,.slice none 0 0),(8,.slice (some ⟨p,0,none⟩) T T),(9,.int .i64 ((Zba (l.take (i + 1))).length : Nat)),(70,.slice (some ⟨ab,ao + 1,none⟩) (l.length - 1) (c - 1)),(71,.int .i64 ((l.length - 1 : Nat) : Int)),(72,.int .i64 (i : Nat))])
   (fun i w => i ≤ l.length - 1 ∧ ∃ r,r.length + (Zba (l.take (i + 1))).length = c0.length ∧ St W noF [pts p (.cells (bv (Zba (l.take (i + 1))) ++ r).toArray 5)] w) (fun i => l.length - 1 - i) 0 ⟨rfl,rfl,rfl,rfl,rfl,rfl,trivial⟩ ⟨Nat.zero_le _,_,by simp; omega,hS⟩ ?_
  clear hS
  rintro i w ⟨hi,r,hrl,hS⟩
  have hjt1 := hjt (i + 1)
  obtain ⟨J,hJ⟩ : ∃ J,J = Zba (l.take (i + 1)) := ⟨_,rfl⟩
  rw [← hJ] at hS hrl hjt1 ⊢
  by_cases hlt : i < l.length - 1
  ·obtain ⟨x,hx0⟩ : ∃ x,l[i + 1]? = some x := ⟨_,List.getElem?_eq_getElem (by omega)⟩
   have hbx := hB.all x (List.mem_of_getElem? hx0)
   have hj0 := Zd6 hx0
   have hx : ((l.map Bs.val).drop 1)[i]? = some (.slice x.a x.s.length x.c) := by simp [hx0,Bs.val]
   have hx1 := hjt (i + 1 + 1)
   rw [hj0,← hJ,List.length_append] at hx1
   have hr := hr'
   repeat (first|(refine G_id ?_;first|refine Zah ?_|refine Zac rfl rfl ?_)|(refine X_id ?_;first|refine X_yl (Zad rfl rfl) rfl rfl ?_|refine X_yl (Zab rfl rfl) rfl rfl ?_|refine X_yl (Za7 rfl rfl rfl (by omega)) rfl rfl ?_|refine X_yl (Zau rfl rfl rfl (by omega) (by omega) (by first|assumption|exact ⟨_,_,rfl⟩)) rfl rfl ?_|refine X_yl (Zap rfl rfl ((hr.rd hS).cellX (by omega) hx)) rfl rfl ?_)|(refine C_id ?_;first|refine Zaj ?_|refine Zaa ?_|refine Zat ?_|refine Zav ?_|refine Zam rfl ?_)|(refine E_id ?_;first|refine Zae ?_))
   refine X_yl (Zcx (l := J.length) (h := T) rfl rfl rfl rfl (.inl ⟨rfl,rfl⟩) (.inr ⟨_,_,rfl,by omega,by omega,by omega⟩)) rfl rfl ?_
   obtain ⟨off,hoff,hof⟩ : ∃ off,sub (some ⟨p,0,none⟩) J.length 1 T = some ⟨p,off,none⟩ ∧ (off = J.length ∨ (T = J.length ∧ off = 0)) := by
    unfold sub
    by_cases e : T = J.length
    ·exact ⟨0,by rw [if_pos e],.inr ⟨e,rfl⟩⟩
    ·exact ⟨J.length,by rw [if_neg e]; simp [Zcj],.inl rfl⟩
   rw [hoff]
   repeat (first|(refine G_id ?_;first|refine Zac rfl rfl ?_)|(refine X_id ?_;first|refine X_yl (Zad rfl rfl) rfl rfl ?_))
   refine X_copy (news := []) rfl rfl rfl rfl rfl hS (Rd_nil _ _) rfl (fun _ h => by cases h) (by simp; omega) (fun w hS => ?_)
   rw [show Zbt (bv J ++ r) off (([] : List Value).take (T - J.length)) = bv J ++ r by simp [Zbt]] at hS
   rw [show ((min 0 (T - J.length) : Nat) : Int) = 0 by omega]
   repeat (first|(refine G_id ?_;first|refine Zah ?_|refine Zac rfl rfl ?_)|(refine X_id ?_;first|refine X_yl (Zad rfl rfl) rfl rfl ?_|refine X_yl (Zab rfl rfl) rfl rfl ?_|refine X_yl (Zbo rfl rfl rfl (w64 (by omega) (by omega))) rfl rfl ?_)|(refine C_id ?_;first|refine Zaa ?_)|(refine E_id ?_;first|refine Zae ?_))
   rw [show (J.length : Int) + 0 = (J.length : Nat) by omega]
   refine X_yl (Zcx (l := J.length) (h := T) rfl rfl rfl rfl (.inl ⟨rfl,rfl⟩) (.inr ⟨_,_,rfl,by omega,by omega,by omega⟩)) rfl rfl ?_
   rw [hoff]
   repeat (first|(refine G_id ?_;first|refine Zac rfl rfl ?_)|(refine X_id ?_;first|refine X_yl (Zad rfl rfl) rfl rfl ?_))
   refine X_copy rfl rfl rfl rfl rfl hS (hbx.rd hS) (by simp) bv_one (by simp; omega) (fun w hS => ?_)
   repeat (first|(refine G_id ?_;first|refine Zah ?_|refine Zac rfl rfl ?_)|(refine X_id ?_;first|refine X_yl (Zad rfl rfl) rfl rfl ?_|refine X_yl (Zab rfl rfl) rfl rfl ?_|refine X_yl (Zbo rfl rfl rfl (w64 (by omega) (by omega))) rfl rfl ?_)|(refine C_id ?_;first|refine Zaa ?_)|(refine E_id ?_;first|refine Zae ?_|refine Zbh ?_))
   refine Zbu (i + 1) ⟨rfl,rfl,?_,rfl,rfl,rfl,trivial⟩ ⟨by omega,r.drop x.s.length,by rw [hj0,← hJ]; simp; omega,?_⟩ (by omega)
   ·show some _ = some _
    rw [hj0,← hJ]
    congr 2
    simp
    omega
   ·rw [hj0,← hJ,bv_append]
    rcases hof with rfl | ⟨e,rfl⟩
    ·rw [List.take_of_length_le (by simp; omega)] at hS
     have : Zbt (bv J ++ r) J.length (bv x.s) = bv J ++ bv x.s ++ r.drop x.s.length := by
      have := splice_mid (l := bv J) (m := r) (vs := bv x.s) (k := J.length) (n := 0) (by simp)
      rw [Nat.add_zero] at this
      rw [this]; simp [Zbt]
     rw [this] at hS
     exact hS
    ·have h0 : x.s = [] := List.length_eq_zero_iff.1 (by omega)
     rw [h0] at hS ⊢
     simpa [Zbt,bv] using hS
  ·obtain rfl : i = l.length - 1 := by omega
   have hJj : J = Zba l := by rw [hJ,show l.length - 1 + 1 = l.length by omega,List.take_length]
   repeat (first|(refine G_id ?_;first|refine Zah ?_|refine Zac rfl rfl ?_)|(refine X_id ?_;first|refine X_yl (Zad rfl rfl) rfl rfl ?_|refine X_yl (Zab rfl rfl) rfl rfl ?_|refine X_yl (Za8 rfl rfl rfl (by omega)) rfl rfl ?_)|(refine C_id ?_;first|refine Zaj ?_|refine Zaa ?_|refine Za0 ?_|refine Zb2 ?_|refine Zak rfl ?_)|(refine E_id ?_;first|refine Zae ?_|refine Zaw ?_|refine Za1 ?_|refine Zax rfl (Zao rfl) (Ret.mk ?_)))
   refine ⟨p,rfl,hS.head fun h hh => row_pts_at (n := J.length) ?_ h hh⟩
   rw [← hJj]; simp
end Cr
namespace Cr
open Go Go.Proofs
set_option maxRecDepth 100000
set_option maxHeartbeats 4000000
attribute [local irreducible] Calls

/-! ### big -/
def bigAt (n : Int) (c i : Nat) : UInt8 := b8 (ishr .u64 (IntKind.u64.wrap n) (8 * (c - 1 - i)))
def bigTo (n : Int) (c : Nat) : Nat → List UInt8
 | 0 => List.replicate c 0
 | i + 1 => (bigTo n c i).set i (bigAt n c i)
theorem Zfi (n : Int) (c : Nat) : ∀ i,(bigTo n c i).length = c
 | 0 => by simp [bigTo]
 | i + 1 => by simp [bigTo,Zfi n c i]
def bigB (n : Int) (c : Nat) : List UInt8 := bigTo n c c
theorem Zaz (n : Int) (c : Nat) : (bigB n c).length = c := Zfi n c c
attribute [irreducible] bigB
theorem big_ (n : Int) (c : Nat) (W : World) (hc : c ≤ 1048576) :
  Calls Tryz.prog 206 #[.int .i64 n,.int .i64 (c : Nat)] W (Ret fun v w => ∃ p,v = .slice (some ⟨p,0,none⟩) c c ∧ St W noF [pts p (.cells (bv (bigB n c)).toArray 5)] w) := by
 have hS := St.start W
 refine Zaq Tryz.func206 rfl Tryz.ntmps206 rfl ?_
 repeat (first|(refine G_id ?_;first|refine Zah ?_|refine Zac rfl rfl ?_)|(refine X_id ?_;first|refine X_yl (Zad rfl rfl) rfl rfl ?_|refine X_yl (Zab rfl rfl) rfl rfl ?_|refine X_yl (Zby rfl rfl) rfl rfl ?_|refine X_makeB rfl rfl rfl (by omega) (by omega) rfl rfl hS (fun _ _ hS => ?_))|(refine C_id ?_;first|refine Zaj ?_|refine Zaa ?_|refine Zat ?_)|(refine E_id ?_;first|refine Zae ?_))
 rename_i p w0
 refine Zb8 (α := Nat) (fun i => [(0,.int .i64 n),(1,.int .i64 (c : Nat)),(5,.slice (some ⟨p,0,none⟩) c c),(10,.int .i64 (c : Nat)),(11,.int .i64 (i : Nat))])
  (fun i w => i ≤ c ∧ St W noF [pts p (.cells (bv (bigTo n c i)).toArray 5)] w) (fun i => c - i) 0 ⟨rfl,rfl,rfl,rfl,rfl,trivial⟩ ⟨Nat.zero_le _,hS⟩ ?_
 clear hS
 rintro i w ⟨hi,hS⟩
 obtain ⟨L,hLe⟩ : ∃ L,L = bigTo n c i := ⟨_,rfl⟩
 have hL : L.length = c := by rw [hLe]; exact Zfi n c i
 rw [← hLe] at hS
 by_cases hlt : i < c
 ·repeat (first|(refine G_id ?_;first|refine Zah ?_|refine Zac rfl rfl ?_)|(refine X_id ?_;first|refine X_yl (Zad rfl rfl) rfl rfl ?_|refine X_yl (Zab rfl rfl) rfl rfl ?_|refine X_yl (Za7 rfl rfl rfl (by omega)) rfl rfl ?_|refine X_yl (Zau rfl rfl rfl (by omega) (by omega) (by first|assumption|exact ⟨_,_,rfl⟩)) rfl rfl ?_|refine X_yl (Zbo rfl rfl rfl (w64 (by omega) (by omega))) rfl rfl ?_|refine X_yl (Zdx rfl rfl rfl (w64 (by omega) (by omega))) rfl rfl ?_|refine X_yl (Zfk rfl rfl rfl (w64 (by omega) (by omega))) rfl rfl ?_|refine X_yl (Yl_convU8 rfl rfl) rfl rfl ?_|refine X_yl (Zeb rfl rfl rfl) rfl rfl ?_|refine X_yl (Yl_shr rfl rfl rfl (by omega)) rfl rfl ?_|refine X_storeBA rfl rfl rfl rfl hS (by omega) (fun _ hS => ?_))|(refine C_id ?_;first|refine Zaj ?_|refine Zaa ?_|refine Zat ?_|refine Zav ?_|refine Zam rfl ?_)|(refine E_id ?_;first|refine Zae ?_|refine Zbh ?_))
  refine Zbu (i + 1) ⟨rfl,rfl,rfl,rfl,rfl,trivial⟩ ⟨by omega,?_⟩ (by omega)
  simp only [bigTo,bigAt]
  rw [← hLe]
  rw [show 0 + (i : Int).toNat * 1 = i by omega,show (8 * ((c : Int) - 1 - (i : Int))).toNat = 8 * (c - 1 - i) by omega] at hS
  exact hS
 ·obtain rfl : i = c := by omega
  repeat (first|(refine G_id ?_;first|refine Zah ?_|refine Zac rfl rfl ?_)|(refine X_id ?_;first|refine X_yl (Zad rfl rfl) rfl rfl ?_|refine X_yl (Zab rfl rfl) rfl rfl ?_|refine X_yl (Za8 rfl rfl rfl (by omega)) rfl rfl ?_)|(refine C_id ?_;first|refine Zaj ?_|refine Zaa ?_|refine Za0 ?_|refine Zb2 ?_|refine Zak rfl ?_)|(refine E_id ?_;first|refine Zae ?_|refine Zaw ?_|refine Za1 ?_|refine Zax rfl (Zao rfl) (Ret.mk ?_)))
  refine ⟨p,rfl,?_⟩
  unfold bigB
  rw [← hLe]
  exact hS

/-! ### small -/
def smallTo (s : List UInt8) : Nat → Int
 | 0 => 0
 | i + 1 => ior .i64 (ishl .i64 (smallTo s i) 8) ((s.getD i 0).toNat : Int)
def Zd5 (s : List UInt8) : Int := smallTo s s.length
theorem small_ (a : Option Addr) (c : Nat) (s : List UInt8) (W : World) (hs : Rd W (bytes a s)) (hl : s.length ≤ 1048576) :
  Calls Tryz.prog 203 #[.slice a s.length c] W (Ret fun v w => v = .int .i64 (Zd5 s) ∧ W = w) := by
 have hS := St.start W
 have hso := hs.ro
 refine Zaq Tryz.func203 rfl Tryz.ntmps203 rfl ?_
 repeat (first|(refine G_id ?_;first|refine Zah ?_|refine Zac rfl rfl ?_)|(refine X_id ?_;first|refine X_yl (Zad rfl rfl) rfl rfl ?_|refine X_yl (Zab rfl rfl) rfl rfl ?_|refine X_yl (Zby rfl rfl) rfl rfl ?_)|(refine C_id ?_;first|refine Zaj ?_|refine Zaa ?_|refine Zat ?_)|(refine E_id ?_;first|refine Zae ?_))
 refine Zb8 (α := Nat) (fun i => [(3,.int .i64 (smallTo s i)),(6,.slice a s.length c),(7,.int .i64 (s.length : Nat)),(8,.int .i64 (i : Nat))])
  (fun i w => i ≤ s.length ∧ w = W) (fun i => s.length - i) 0 ⟨rfl,rfl,rfl,rfl,trivial⟩ ⟨Nat.zero_le _,rfl⟩ ?_
 rintro i w ⟨hi,rfl⟩
 by_cases hlt : i < s.length
 ·obtain ⟨xb,xo,rfl⟩ := hs.base (by intro e; have := Zbw s; rw [e] at this; simp at this; omega)
  have hb : Ro w noF (bytes (some ⟨xb,xo,none⟩) s) := hso
  have h256 := UInt8.toNat_lt (s.getD ((i : Int).toNat * 1) 0)
  repeat (first|(refine G_id ?_;first|refine Zah ?_|refine Zac rfl rfl ?_)|(refine X_id ?_;first|refine X_yl (Zad rfl rfl) rfl rfl ?_|refine X_yl (Zab rfl rfl) rfl rfl ?_|refine X_yl (Za7 rfl rfl rfl (by omega)) rfl rfl ?_|refine X_yl (Zau rfl rfl rfl (by omega) (by omega) (by first|assumption|exact ⟨_,_,rfl⟩)) rfl rfl ?_|refine X_yl (Zbo rfl rfl rfl (w64 (by omega) (by omega))) rfl rfl ?_|refine X_yl (Zeb rfl rfl (w64 (by omega) (by omega))) rfl rfl ?_|refine X_yl (Yl_or rfl rfl rfl) rfl rfl ?_|refine X_yl (Yl_shl rfl rfl rfl (by omega)) rfl rfl ?_|refine X_yl (Zap rfl rfl ((hb.rd hS).cellB' (by omega))) rfl rfl ?_)|(refine C_id ?_;first|refine Zaj ?_|refine Zaa ?_|refine Zat ?_|refine Zav ?_|refine Zam rfl ?_)|(refine E_id ?_;first|refine Zae ?_|refine Zbh ?_))
  refine Zbu (i + 1) ⟨?_,rfl,rfl,rfl,trivial⟩ ⟨by omega,rfl⟩ (by omega)
  show some _ = some _
  simp only [smallTo]
  rw [show (i : Int).toNat * 1 = i by omega]
  rfl
 ·obtain rfl : i = s.length := by omega
  repeat (first|(refine G_id ?_;first|refine Zah ?_|refine Zac rfl rfl ?_)|(refine X_id ?_;first|refine X_yl (Zad rfl rfl) rfl rfl ?_|refine X_yl (Zab rfl rfl) rfl rfl ?_|refine X_yl (Za8 rfl rfl rfl (by omega)) rfl rfl ?_)|(refine C_id ?_;first|refine Zaj ?_|refine Zaa ?_|refine Za0 ?_|refine Zb2 ?_|refine Zak rfl ?_)|(refine E_id ?_;first|refine Zae ?_|refine Zaw ?_|refine Za1 ?_|refine Zax rfl (Zao rfl) (Ret.mk ?_)))
  exact ⟨rfl,rfl⟩
end Cr
namespace Cr
open Go Go.Proofs
set_option maxRecDepth 100000

structure DiskM where
 off : Bool
 armed : Bool
 left : Int
 laid : List (List UInt8)
 line : List (Int × List UInt8)
 writes : Int
 flushes : Int
structure DiskM.ok (D : DiskM) : Prop where
 laid64 : ∀ s ∈ D.laid,s.length = 64
 line64 : ∀ x ∈ D.line,x.2.length = 64 ∧ 0 ≤ x.1 ∧ x.1 < D.laid.length
 some_ : 1 ≤ D.laid.length
 most : D.laid.length ≤ 4096
 left0 : 0 ≤ D.left
 left1 : D.left ≤ 9223372036854775807
def Zcg (l : List (List UInt8)) : List Value := l.flatMap bv
def Zce (l : List (Int × List UInt8)) : List Value := l.flatMap fun x => .int .i64 x.1 :: bv x.2
def disk (p : Nat) (D : DiskM) : Res := fun h => D.ok ∧ ∃ al cl ai ci,D.laid.length ≤ cl ∧ D.line.length ≤ ci ∧
 Sep [pts p (.cells #[.bool D.off,.bool D.armed,.int .i64 D.left,.slice al D.laid.length cl,.slice ai D.line.length ci,.int .i64 D.writes,.int .i64 D.flushes] 220),
  own 332 64 al cl (Zcg D.laid),own 334 65 ai ci (Zce D.line)] h

theorem St.shutR {W : World} {F : Nat → Prop} {r : Res} {rs rs' : List Res} {w : World} (hS : St W F (rs' ++ rs) w) (hr : ∀ h,Sep rs' h → r h) : St W F (r :: rs) w :=
 hS.imp fun h hh => by
  obtain ⟨h1,h2,a,b,c,d⟩ := Sep.append hh
  exact ⟨h1,h2,hr _ a,b,c,d⟩
/-! ### On,Sectors,has,use -/
theorem Rd.disk {w : World} {p : Nat} {D : DiskM} (h : Rd w (disk p D)) : D.ok ∧ ∃ al cl ai ci,D.laid.length ≤ cl ∧ D.line.length ≤ ci ∧
  w.heap[p]? = some (.cells #[.bool D.off,.bool D.armed,.int .i64 D.left,.slice al D.laid.length cl,.slice ai D.line.length ci,.int .i64 D.writes,.int .i64 D.flushes] 220) ∧
  Rd w (row al (Zcg D.laid)) ∧ Rd w (row ai (Zce D.line)) := by
 obtain ⟨f,⟨hok,al,cl,ai,ci,h1,h2,hs⟩,ha⟩ := h
 have hr := Rd.sep ⟨f,hs,ha⟩
 exact ⟨hok,al,cl,ai,ci,h1,h2,(hr _ (by simp)).pts,(hr _ (List.mem_cons_of_mem _ (List.mem_cons_self ..))).own_row,(hr _ (List.mem_cons_of_mem _ (List.mem_cons_of_mem _ (List.mem_cons_self ..)))).own_row⟩
theorem on_ (p : Nat) (D : DiskM) (W : World) (hd : Rd W (disk p D)) :
  Calls Tryz.prog 112 #[.pointer (some ⟨p,0,none⟩)] W (Ret fun v w => v = .bool (!D.off) ∧ W = w) := by
 obtain ⟨_,al,cl,ai,ci,_,_,hc,_,_⟩ := hd.disk
 have hS := St.start W
 refine Zaq Tryz.func112 rfl Tryz.ntmps112 rfl ?_
 repeat (first|(refine G_id ?_;first|refine Zah ?_|refine Zac rfl rfl ?_|refine Zcp rfl rfl rfl rfl ?_)|(refine X_id ?_;first|refine X_yl (Zad rfl rfl) rfl rfl ?_|refine X_yl (Zab rfl rfl) rfl rfl ?_|refine X_yl (Zag rfl rfl) rfl rfl ?_|refine X_yl (Zaf rfl rfl rfl) rfl rfl ?_|refine X_yl (Zbp rfl rfl rfl) rfl rfl ?_|refine X_yl (Yl_not_b rfl rfl) rfl rfl ?_|refine X_yl (Yl_neqNil_some rfl rfl rfl) rfl rfl ?_|refine X_yl (Zap rfl rfl (Zan (by assumption))) rfl rfl ?_)|(refine C_id ?_;first|refine Zaj ?_|refine Zaa ?_|refine Za0 ?_)|(refine E_id ?_;first|refine Zae ?_|refine Zax rfl (Zao rfl) (Ret.mk ?_)))
 exact ⟨rfl,rfl⟩
theorem sectors_ (p : Nat) (D : DiskM) (W : World) (hd : Rd W (disk p D)) :
  Calls Tryz.prog 113 #[.pointer (some ⟨p,0,none⟩)] W (Ret fun v w => v = .int .i64 (D.laid.length : Nat) ∧ W = w) := by
 obtain ⟨_,al,cl,ai,ci,_,_,hc,_,_⟩ := hd.disk
 have hS := St.start W
 refine Zaq Tryz.func113 rfl Tryz.ntmps113 rfl ?_
 repeat (first|(refine G_id ?_;first|refine Zah ?_|refine Zac rfl rfl ?_)|(refine X_id ?_;first|refine X_yl (Zad rfl rfl) rfl rfl ?_|refine X_yl (Zab rfl rfl) rfl rfl ?_|refine X_yl (Zag rfl rfl) rfl rfl ?_|refine X_yl (Zaf rfl rfl rfl) rfl rfl ?_|refine X_yl (Zby rfl rfl) rfl rfl ?_|refine X_yl (Zbd rfl rfl rfl) rfl rfl ?_|refine X_yl (Zap rfl rfl (Zan (by assumption))) rfl rfl ?_)|(refine C_id ?_;first|refine Zaj ?_|refine Zaa ?_|refine Za0 ?_|refine Zav ?_|refine Zak rfl ?_)|(refine E_id ?_;first|refine Zae ?_|refine Zax rfl (Zao rfl) (Ret.mk ?_)))
 exact ⟨rfl,rfl⟩
def Zek (D : DiskM) (no : Int) : Bool := decide (0 ≤ no ∧ no < D.laid.length)
theorem has_ (p : Nat) (D : DiskM) (no : Int) (W : World) (hd : Rd W (disk p D)) :
  Calls Tryz.prog 200 #[.pointer (some ⟨p,0,none⟩),.int .i64 no] W (Ret fun v w => v = .bool (Zek D no) ∧ W = w) := by
 by_cases h : 0 ≤ no
 ·refine Zaq Tryz.func200 rfl Tryz.ntmps200 rfl ?_
  repeat (first|(refine G_id ?_;first|refine Zah ?_|refine Zac rfl rfl ?_|refine Zcp rfl rfl rfl rfl ?_)|(refine X_id ?_;first|refine X_yl (Zad rfl rfl) rfl rfl ?_|refine X_yl (Zab rfl rfl) rfl rfl ?_|refine X_yl (Zc8 rfl rfl rfl (by omega)) rfl rfl ?_)|(refine C_id ?_;first|refine Zaj ?_|refine Zaa ?_)|(refine E_id ?_;first|refine Zae ?_))
  refine Zal _ rfl rfl rfl rfl rfl (sectors_ p D W hd) ?_
  rintro _ _ ⟨rfl,rfl⟩
  repeat (first|(refine G_id ?_;first|refine Zah ?_|refine Zac rfl rfl ?_|refine Zcp rfl rfl rfl rfl ?_)|(refine X_id ?_;first|refine X_yl (Zab rfl rfl) rfl rfl ?_|refine X_yl (Zbp rfl rfl rfl) rfl rfl ?_|refine X_yl (Yl_lss rfl rfl rfl) rfl rfl ?_)|(refine C_id ?_;first|refine Za0 ?_)|(refine E_id ?_;first|refine Zae ?_|refine Zax rfl (Zao rfl) (Ret.mk ?_)))
  exact ⟨by simp [Zek,h],rfl⟩
 ·refine Zaq Tryz.func200 rfl Tryz.ntmps200 rfl ?_
  repeat (first|(refine G_id ?_;first|refine Zah ?_|refine Zac rfl rfl ?_|refine G_no rfl rfl rfl rfl rfl rfl ?_)|(refine X_id ?_;first|refine X_yl (Zad rfl rfl) rfl rfl ?_|refine X_yl (Zab rfl rfl) rfl rfl ?_|refine X_yl (Za6 rfl rfl rfl) rfl rfl ?_|refine X_yl (Zdp rfl rfl rfl (by omega)) rfl rfl ?_)|(refine C_id ?_;first|refine Zaj ?_|refine Zaa ?_|refine Za0 ?_)|(refine E_id ?_;first|refine Zae ?_|refine Zax rfl (Zao rfl) (Ret.mk ?_)))
  exact ⟨by simp [Zek,h],rfl⟩

/-! ### power -/
def useB (off armed : Bool) (left : Int) : Bool := !off && (!armed || decide (¬ left = 0))
def useOff (off armed : Bool) (left : Int) : Bool := off || (armed && decide (left = 0))
def useLeft (off armed : Bool) (left : Int) : Int := if off = false ∧ armed = true ∧ ¬ left = 0 then left - 1 else left
theorem use_ (p : Nat) (off armed : Bool) (left : Int) (r : List Value) (T : TypeId) (W : World) (F : Nat → Prop) (h0 : 0 ≤ left) (h1 : left ≤ 9223372036854775807)
  (hS : St W F [pts p (.cells (.bool off :: .bool armed :: .int .i64 left :: r).toArray T)] W) :
  Calls Tryz.prog 231 #[.pointer (some ⟨p,0,none⟩)] W (Ret fun v w => v = .bool (useB off armed left) ∧
   St W F [pts p (.cells (.bool (useOff off armed left) :: .bool armed :: .int .i64 (useLeft off armed left) :: r).toArray T)] w) := by
 cases off
 ·cases armed
  ·refine Zaq Tryz.func231 rfl Tryz.ntmps231 rfl ?_
   repeat (first|(refine G_id ?_;first|refine Zah ?_|refine Zac rfl rfl ?_)|(refine X_id ?_;first|refine X_yl (Zad rfl rfl) rfl rfl ?_|refine X_yl (Zab rfl rfl) rfl rfl ?_|refine X_yl (Zag rfl rfl) rfl rfl ?_|refine X_yl (Zaf rfl rfl rfl) rfl rfl ?_|refine X_yl (Zb5 rfl rfl) rfl rfl ?_|refine X_yl (Zap rfl rfl hS.cell) rfl rfl ?_)|(refine C_id ?_;first|refine Zaj ?_|refine Zaa ?_|refine Zat ?_|refine Za0 ?_|refine Zam rfl ?_|refine Zak rfl ?_)|(refine E_id ?_;first|refine Zae ?_|refine Zar ?_|refine Zbe ?_|refine Zax rfl (Zao rfl) (Ret.mk ?_)))
   exact ⟨rfl,hS⟩
  ·by_cases h : left = 0
   ·subst h
    refine Zaq Tryz.func231 rfl Tryz.ntmps231 rfl ?_
    repeat (first|(refine G_id ?_;first|refine Zah ?_|refine Zac rfl rfl ?_)|(refine X_id ?_;first|refine X_yl (Zad rfl rfl) rfl rfl ?_|refine X_yl (Zab rfl rfl) rfl rfl ?_|refine X_yl (Zag rfl rfl) rfl rfl ?_|refine X_yl (Zaf rfl rfl rfl) rfl rfl ?_|refine X_yl (Zbg rfl rfl) rfl rfl ?_|refine X_yl (Zdq rfl rfl rfl (by omega)) rfl rfl ?_|refine X_yl (Zap rfl rfl hS.cell) rfl rfl ?_|refine Za2 rfl rfl rfl rfl hS (fun _ hS _ => ?_))|(refine C_id ?_;first|refine Zaj ?_|refine Zaa ?_|refine Zat ?_|refine Za0 ?_|refine Zam rfl ?_|refine Zak rfl ?_)|(refine E_id ?_;first|refine Zae ?_|refine Zar ?_|refine Zbe ?_|refine Zax rfl (Zao rfl) (Ret.mk ?_)))
    exact ⟨rfl,hS⟩
   ·refine Zaq Tryz.func231 rfl Tryz.ntmps231 rfl ?_
    repeat (first|(refine G_id ?_;first|refine Zah ?_|refine Zac rfl rfl ?_)|(refine X_id ?_;first|refine X_yl (Zad rfl rfl) rfl rfl ?_|refine X_yl (Zab rfl rfl) rfl rfl ?_|refine X_yl (Zag rfl rfl) rfl rfl ?_|refine X_yl (Zaf rfl rfl rfl) rfl rfl ?_|refine X_yl (Zbg rfl rfl) rfl rfl ?_|refine X_yl (Zd3 rfl rfl rfl (by omega)) rfl rfl ?_|refine X_yl (Zdx rfl rfl rfl (w64 (by omega) (by omega))) rfl rfl ?_|refine X_yl (Zap rfl rfl hS.cell) rfl rfl ?_|refine Za2 rfl rfl rfl rfl hS (fun _ hS _ => ?_))|(refine C_id ?_;first|refine Zaj ?_|refine Zaa ?_|refine Zat ?_|refine Za0 ?_|refine Zav ?_|refine Zak rfl ?_)|(refine E_id ?_;first|refine Zae ?_|refine Zbh ?_|refine Zax rfl (Zao rfl) (Ret.mk ?_)))
    exact ⟨by simp [useB,h],by simpa [useOff,useLeft,h] using hS⟩
 ·refine Zaq Tryz.func231 rfl Tryz.ntmps231 rfl ?_
  repeat (first|(refine G_id ?_;first|refine Zah ?_|refine Zac rfl rfl ?_)|(refine X_id ?_;first|refine X_yl (Zad rfl rfl) rfl rfl ?_|refine X_yl (Zab rfl rfl) rfl rfl ?_|refine X_yl (Zag rfl rfl) rfl rfl ?_|refine X_yl (Zaf rfl rfl rfl) rfl rfl ?_|refine X_yl (Zap rfl rfl hS.cell) rfl rfl ?_)|(refine C_id ?_;first|refine Zaj ?_|refine Zaa ?_|refine Zat ?_|refine Za0 ?_|refine Zam rfl ?_)|(refine E_id ?_;first|refine Zae ?_|refine Zar ?_|refine Zbe ?_|refine Zax rfl (Zao rfl) (Ret.mk ?_)))
  exact ⟨rfl,hS⟩
end Cr
namespace Cr
open Go Go.Proofs
set_option maxRecDepth 100000

/-! ### New -/
def zero64 : List UInt8 := List.replicate 64 0
def Zcd (n : Nat) : DiskM := { off := false,armed := false,left := 0,laid := List.replicate n zero64,line := [],writes := 0,flushes := 0 }
theorem newDisk_ok {n : Nat} (h : 1 ≤ n) (h' : n ≤ 4096) : (Zcd n).ok := by
 refine ⟨fun s hs => ?_,fun x hx => by simp [Zcd] at hx,by simpa [Zcd] using h,by simpa [Zcd] using h',by simp [Zcd],by simp [Zcd]⟩
 simp [Zcd] at hs; rw [hs.2]; simp [zero64]
theorem Ze8 (n : Nat) : Zcg (List.replicate n zero64) = List.replicate (n * 64) (.int .u8 0) := by
 induction n with
 | zero => rfl
 | succ n ih =>
  have e : bv zero64 = List.replicate 64 (.int .u8 0) := by simp [bv,zero64]
  have : Zcg (List.replicate (n + 1) zero64) = bv zero64 ++ Zcg (List.replicate n zero64) := by simp [Zcg,List.replicate_succ]
  rw [this,ih,e,List.replicate_append_replicate]
  congr 1; omega
theorem madeCells_zeros (m n : Nat) : madeCells (List.replicate m (Value.int .u8 0)).toArray n = (List.replicate n (if m = 0 then default else Value.int .u8 0)).toArray := by
 apply Array.ext
 ·simp [madeCells]
 ·intro i h1 h2
  simp only [madeCells,Array.getElem_map,Array.getElem_range,List.size_toArray,List.length_replicate]
  by_cases hm : m = 0
  ·subst hm; simp
  ·have : i % m < m := Nat.mod_lt _ (by omega)
   simp [hm,this]
theorem new_ (n : Nat) (W : World) (h1 : 1 ≤ n) (h2 : n ≤ 4096) : Calls Tryz.prog 79 #[.int .i64 (n : Int)] W (Ret fun v w => ∃ p,v = .tuple #[.pointer (some ⟨p,0,none⟩),.int .i64 0] ∧ St W noF [disk p (Zcd n)] w) := by
 have hS := St.start W
 refine Zaq Tryz.func79 rfl Tryz.ntmps79 rfl ?_
 repeat (first|(refine G_id ?_;first|refine Zah ?_|refine Zac rfl rfl ?_|refine Zcp rfl rfl rfl rfl ?_)|(refine X_id ?_;first|refine X_yl (Zad rfl rfl) rfl rfl ?_|refine X_yl (Zab rfl rfl) rfl rfl ?_|refine X_yl (Za6 rfl rfl rfl) rfl rfl ?_|refine X_yl (Za8 rfl rfl rfl (by omega)) rfl rfl ?_|refine X_yl (Zdo rfl rfl rfl (by omega)) rfl rfl ?_)|(refine C_id ?_;first|refine Zaj ?_|refine Zaa ?_|refine Zav ?_|refine Zak rfl ?_)|(refine E_id ?_;first|refine Zae ?_))
 refine X_make rfl rfl rfl (by omega) (by omega) (by omega) (by omega) rfl rfl hS (fun al w hS _ => ?_)
 repeat (first|(refine G_id ?_;first|refine Zah ?_|refine Zac rfl rfl ?_)|(refine X_id ?_;first|refine X_yl (Zab rfl rfl) rfl rfl ?_|refine X_yl (Zcq rfl rfl rfl) rfl rfl ?_|refine Zel rfl rfl rfl rfl hS (fun _ _ hS _ => ?_))|(refine C_id ?_;first|refine Za0 ?_)|(refine E_id ?_;first|refine Zae ?_|refine Zcy rfl (Zao rfl) (Zao rfl) (Ret.mk ?_)))
 refine ⟨_,rfl,?_⟩
 have e : madeCells (Value.agg (List.replicate 64 (Value.int .u8 0)).toArray).cells ((n : Int).toNat * 64) = (Zcg (Zcd n).laid).toArray := by
  show madeCells (List.replicate 64 (Value.int .u8 0)).toArray _ = _
  rw [madeCells_zeros,Zcd,Ze8]; simp
 rw [e] at hS
 have hl : (Zcg (Zcd n).laid).length = n * 64 := by rw [Zcd,Ze8]; simp
 have hS := ((hS.second (Zcn (c := n) (cs := Zcg (Zcd n).laid) hl (by simp only [maxLen]; omega) (by simp))).own_none 334 65 none).sel [false,true,true]
 refine St.shutR (rs' := [_,_,_]) (rs := []) hS fun h hh => ⟨newDisk_ok h1 h2,some ⟨al,0,none⟩,n,none,0,by simp [Zcd],by simp [Zcd],?_⟩
 have el : (Zcd n).laid.length = n := by simp [Zcd]
 rw [el]
 exact hh

/-! ### slices.Clone at bytes -/
theorem clone_ (a : Option Addr) (n c : Nat) (s : List UInt8) (W : World) (hs : Rd W (bytes a s)) (hn : s.length = n) (hlim : n ≤ 1073741824) :
  Calls Tryz.prog 202 #[.slice a n c] W (Ret fun v w => ∃ a' c',v = .slice a' n c' ∧ (a' = none ↔ a = none) ∧ n ≤ c' ∧ St W noF [own 5 1 a' c' (bv s)] w) := by
 have hS := St.start W
 cases a with
 | none =>
  have h0 : bv s = [] := hs.none_nil
  obtain rfl : n = 0 := by rw [← hn,← Zbw s,h0]; rfl
  refine Zaq Tryz.func202 rfl Tryz.ntmps202 rfl ?_
  repeat (first|(refine G_id ?_;first|refine Zah ?_|refine Zac rfl rfl ?_)|(refine X_id ?_;first|refine X_yl (Zad rfl rfl) rfl rfl ?_|refine X_yl (Zab rfl rfl) rfl rfl ?_|refine X_yl (Zcm rfl rfl rfl) rfl rfl ?_)|(refine C_id ?_;first|refine Zaj ?_|refine Zaa ?_|refine Za0 ?_|refine Zam rfl ?_)|(refine E_id ?_;first|refine Zae ?_|refine Zar ?_|refine Zax rfl (Zao rfl) (Ret.mk ?_)))
  refine ⟨none,0,rfl,by simp,by omega,?_⟩
  rw [h0]
  exact hS.own_none _ _ _
 | some ad =>
  refine Zaq Tryz.func202 rfl Tryz.ntmps202 rfl ?_
  repeat (first|(refine G_id ?_;first|refine Zah ?_|refine Zac rfl rfl ?_)|(refine X_id ?_;first|refine X_yl (Zad rfl rfl) rfl rfl ?_|refine X_yl (Zab rfl rfl) rfl rfl ?_|refine X_yl (Zcm rfl rfl rfl) rfl rfl ?_|refine Zbb rfl rfl rfl rfl rfl rfl rfl rfl hS (fun _ _ hS _ => ?_))|(refine C_id ?_;first|refine Zaj ?_|refine Zaa ?_|refine Zav ?_|refine Zak rfl ?_)|(refine E_id ?_;first|refine Zae ?_))
  rename_i b w hb
  have hs := hs.below hb
  repeat (first|fail)
  refine Zd4 rfl rfl rfl rfl rfl hS rfl (by omega) hs (by simp [hn]) bv_one (by omega) (by simp only [maxLen]; omega) (fun a' c' w hS hc hnil => ?_)
  repeat (first|(refine G_id ?_;first|refine Zah ?_|refine Zac rfl rfl ?_)|(refine X_id ?_;first|refine X_yl (Zab rfl rfl) rfl rfl ?_)|(refine C_id ?_;first|refine Za0 ?_)|(refine E_id ?_;first|refine Zae ?_|refine Zax rfl (Zao rfl) (Ret.mk ?_)))
  refine ⟨a',c',by rw [Nat.zero_add],by rw [hnil]; simp,by omega,hS⟩
end Cr
namespace Cr
open Go Go.Proofs
set_option maxRecDepth 100000
set_option maxHeartbeats 4000000

theorem add64_ (b off : Nat) (x y : Int) (l l' : List Value) (T : TypeId) (W : World) (F : Nat → Prop) [hn : Nth l off (.int .i64 x)] [hs : Spl l off [.int .i64 (IntKind.i64.wrap (x + y))] l'] (hS : St W F [pts b (.cells l.toArray T)] W) :
  Calls Tryz.prog 232 #[.pointer (some ⟨b,off,none⟩),.int .i64 y] W (Ret fun v w => v = .int .i64 (IntKind.i64.wrap (x + y)) ∧ St W F [pts b (.cells l'.toArray T)] w) := by
 refine Zaq Tryz.func232 rfl Tryz.ntmps232 rfl ?_
 repeat (first|(refine G_id ?_;first|refine Zah ?_|refine Zac rfl rfl ?_)|(refine X_id ?_;first|refine X_yl (Zad rfl rfl) rfl rfl ?_|refine X_yl (Zab rfl rfl) rfl rfl ?_|refine X_yl (Zag rfl rfl) rfl rfl ?_|refine X_yl (Zbr rfl rfl rfl) rfl rfl ?_|refine X_eadd rfl rfl rfl rfl rfl rfl hS (fun _ hS => ?_))|(refine C_id ?_;first|refine Zaj ?_|refine Zaa ?_|refine Za0 ?_)|(refine E_id ?_;first|refine Zae ?_|refine Zax rfl (Zao rfl) (Ret.mk ?_)))
 exact ⟨rfl,hS⟩

def DiskM.used (D : DiskM) : DiskM := { D with off := useOff D.off D.armed D.left,left := useLeft D.off D.armed D.left }
def DiskM.write (D : DiskM) (no : Int) (b : List UInt8) : Int × DiskM :=
 if D.off then (9,D) else if Zek D no = false ∨ b.length ≠ 64 then (1,D) else if useB D.off D.armed D.left = false then (9,D.used)
 else (0,{ D.used with line := D.line ++ [(no,b)],writes := IntKind.i64.wrap (D.writes + 1) })
theorem DiskM.write_use {D : DiskM} {no : Int} {b : List UInt8} (h : D.off = false) (hin : Zek D no = true) (hb : b.length = 64) (hu : useB D.off D.armed D.left = false) : D.write no b = (9,D.used) := by
 unfold DiskM.write
 rw [if_neg (by simp [h]),if_neg (by simp [hin,hb]),if_pos hu]
theorem DiskM.write_yes {D : DiskM} {no : Int} {b : List UInt8} (h : D.off = false) (hin : Zek D no = true) (hb : b.length = 64) (hu : useB D.off D.armed D.left = true) : D.write no b = (0,{ D.used with line := D.line ++ [(no,b)],writes := IntKind.i64.wrap (D.writes + 1) }) := by
 unfold DiskM.write
 rw [if_neg (by simp [h]),if_neg (by simp [hin,hb]),if_neg (by simp [hu])]
theorem DiskM.used_ok {D : DiskM} (h : D.ok) : D.used.ok := by
 obtain ⟨h1,h2,h3,h4,h5,h6⟩ := h
 refine ⟨h1,h2,h3,h4,?_,?_⟩ <;> simp only [DiskM.used,useLeft] <;> split <;> omega
theorem DiskM.line_ok {D : DiskM} (h : D.ok) {no : Int} {b : List UInt8} {wr : Int} (hn : Zek D no = true) (hb : b.length = 64) : ({ D with line := D.line ++ [(no,b)],writes := wr } : DiskM).ok := by
 obtain ⟨h1,h2,h3,h4,h5,h6⟩ := h
 refine ⟨h1,fun x hx => ?_,h3,h4,h5,h6⟩
 simp only [List.mem_append,List.mem_singleton] at hx
 rcases hx with hx | rfl
 ·exact h2 x hx
 ·have : 0 ≤ no ∧ no < D.laid.length := by simpa [Zek] using hn
  exact ⟨hb,this.1,this.2⟩
theorem St.openDisk {W : World} {F : Nat → Prop} {p : Nat} {D : DiskM} {rs : List Res} {w : World} (hS : St W F (disk p D :: rs) w) : D.ok ∧ ∃ al cl ai ci,D.laid.length ≤ cl ∧ D.line.length ≤ ci ∧
  St W F (pts p (.cells #[.bool D.off,.bool D.armed,.int .i64 D.left,.slice al D.laid.length cl,.slice ai D.line.length ci,.int .i64 D.writes,.int .i64 D.flushes] 220) ::
   own 332 64 al cl (Zcg D.laid) :: own 334 65 ai ci (Zce D.line) :: rs) w := by
 obtain ⟨h,⟨h1,h2,⟨hok,al,cl,ai,ci,c1,c2,hs⟩,hr,hd,hu⟩,s⟩ := hS
 exact ⟨hok,al,cl,ai,ci,c1,c2,h,Sep.append_mk (rs := [_,_,_]) hs hr hd hu,s⟩
theorem St.shutDisk {W : World} {F : Nat → Prop} {p : Nat} {D : DiskM} {rs : List Res} {w : World} {al ai : Option Addr} {cl ci : Nat} (hok : D.ok) (c1 : D.laid.length ≤ cl) (c2 : D.line.length ≤ ci)
  (hS : St W F (pts p (.cells #[.bool D.off,.bool D.armed,.int .i64 D.left,.slice al D.laid.length cl,.slice ai D.line.length ci,.int .i64 D.writes,.int .i64 D.flushes] 220) ::
   own 332 64 al cl (Zcg D.laid) :: own 334 65 ai ci (Zce D.line) :: rs) w) : St W F (disk p D :: rs) w :=
 St.shutR (rs' := [_,_,_]) (rs := rs) hS fun _ hh => ⟨hok,al,cl,ai,ci,c1,c2,hh⟩
theorem lineCells_append (l m : List (Int × List UInt8)) : Zce (l ++ m) = Zce l ++ Zce m := by simp [Zce]
theorem Zep {l : List (Int × List UInt8)} (h : ∀ x ∈ l,x.2.length = 64) : (Zce l).length = l.length * 65 := by
 induction l with
 | nil => rfl
 | cons x l ih =>
  have := ih fun y hy => h y (List.mem_cons_of_mem _ hy)
  have h0 := h x (List.mem_cons_self ..)
  simp only [Zce,List.flatMap_cons,List.length_append,List.length_cons,Zbw,h0] at this ⊢
  omega
theorem Zeq {l : List (List UInt8)} (h : ∀ x ∈ l,x.length = 64) : (Zcg l).length = l.length * 64 := by
 induction l with
 | nil => rfl
 | cons x l ih =>
  have := ih fun y hy => h y (List.mem_cons_of_mem _ hy)
  have h0 := h x (List.mem_cons_self ..)
  simp only [Zcg,List.flatMap_cons,List.length_append,List.length_cons,Zbw,h0] at this ⊢
  omega

theorem one_int {k : IntKind} {n : Int} {l : List Value} (h : ∀ u ∈ l,u.oneCell' = true) : ∀ u ∈ Value.int k n :: l,u.oneCell' = true := fun u hu => by
 rcases List.mem_cons.mp hu with rfl | hu
 ·rfl
 ·exact h u hu
theorem write_ (p : Nat) (D : DiskM) (no : Int) (a : Option Addr) (n c : Nat) (b : List UInt8) (W : World) (F : Nat → Prop) (hS : St W F [disk p D] W) (hb : Ro W F (bytes a b)) (hn : b.length = n) (hline : D.line.length < 1073741824) :
  Calls Tryz.prog 207 #[.pointer (some ⟨p,0,none⟩),.int .i64 no,.slice a n c] W (Ret fun v w => v = .int .i64 (D.write no b).1 ∧ St W F [disk p (D.write no b).2] w) := by
 have hd := hS.rd (List.mem_cons_self ..)
 cases hoff : D.off
 ·have hon := on_ p D W hd
  rw [hoff] at hon
  cases hin : Zek D no
  ·have hhas := has_ p D no W hd
   rw [hin] at hhas
   refine Zaq Tryz.func207 rfl Tryz.ntmps207 rfl ?_
   repeat (first|(refine G_id ?_;first|refine Zah ?_|refine Zac rfl rfl ?_|refine G_no rfl rfl rfl rfl rfl rfl ?_)|(refine X_id ?_;first|(refine Zal 112 rfl rfl rfl rfl rfl hon ?_;rintro _ _ ⟨rfl,rfl⟩)|(refine Zal 200 rfl rfl rfl rfl rfl hhas ?_;rintro _ _ ⟨rfl,rfl⟩)|refine X_yl (Zad rfl rfl) rfl rfl ?_|refine X_yl (Zab rfl rfl) rfl rfl ?_|refine X_yl (Zbp rfl rfl rfl) rfl rfl ?_|refine X_yl (Zbg rfl rfl) rfl rfl ?_|refine X_yl (Zb5 rfl rfl) rfl rfl ?_)|(refine C_id ?_;first|refine Zaj ?_|refine Zaa ?_|refine Zat ?_|refine Za0 ?_|refine Zam rfl ?_|refine Zak rfl ?_)|(refine E_id ?_;first|refine Zae ?_|refine Zar ?_|refine Zbe ?_|refine Zax rfl (Zao rfl) (Ret.mk ?_)))
   refine ⟨by simp [DiskM.write,hoff,hin],by simpa [DiskM.write,hoff,hin] using hS⟩
  ·have hhas := has_ p D no W hd
   rw [hin] at hhas
   by_cases hb64 : b.length = 64
   ·have hn64 : n = 64 := by omega
    subst hn64
    obtain ⟨hok,al,cl,ai,ci,c1,c2,hS⟩ := hS.openDisk
    have hbr := hb.start
    obtain ⟨bb,bo,rfl⟩ := hbr.base (fun e => by rw [← Zbw,e] at hb64; cases hb64)
    have hcells := hbr.cellsAt rfl
    have hlc : LenIs (bv b) 64 := ⟨by simp [hb64]⟩
    cases huse : useB D.off D.armed D.left
    ·refine Zaq Tryz.func207 rfl Tryz.ntmps207 rfl ?_
     repeat (first|(refine G_id ?_;first|refine Zah ?_|refine Zac rfl rfl ?_|refine Zcp rfl rfl rfl rfl ?_)|(refine X_id ?_;first|(refine Zal 112 rfl rfl rfl rfl rfl hon ?_;rintro _ _ ⟨rfl,rfl⟩)|(refine Zal 200 rfl rfl rfl rfl rfl hhas ?_;rintro _ _ ⟨rfl,rfl⟩)|refine X_yl (Zad rfl rfl) rfl rfl ?_|refine X_yl (Zab rfl rfl) rfl rfl ?_|refine X_yl (Zag rfl rfl) rfl rfl ?_|refine X_yl (Zaf rfl rfl rfl) rfl rfl ?_|refine X_yl (Za6 rfl rfl rfl) rfl rfl ?_|refine X_yl (Zbg rfl rfl) rfl rfl ?_|refine X_yl (Zby rfl rfl) rfl rfl ?_|refine X_yl (Zbz rfl rfl rfl (by omega)) rfl rfl ?_)|(refine C_id ?_;first|refine Zaj ?_|refine Zaa ?_|refine Zat ?_|refine Zak rfl ?_)|(refine E_id ?_;first|refine Zae ?_))
     obtain ⟨_,hc,hr,hw,hbk⟩ := hS.call [true,false,false]
     refine Zal _ rfl rfl rfl rfl rfl (use_ p D.off D.armed D.left _ _ _ _ hok.left0 hok.left1 hc) ?_
     rintro _ w ⟨rfl,hS⟩
     replace hS := hbk hS
     clear hc hr hw hbk
     rw [huse]
     repeat (first|(refine G_id ?_;first|refine Zah ?_|refine Zac rfl rfl ?_)|(refine X_id ?_;first|refine X_yl (Zab rfl rfl) rfl rfl ?_|refine X_yl (Zb5 rfl rfl) rfl rfl ?_)|(refine C_id ?_;first|refine Zaj ?_|refine Zaa ?_|refine Za0 ?_|refine Zam rfl ?_)|(refine E_id ?_;first|refine Zae ?_|refine Zar ?_|refine Zbe ?_|refine Zax rfl (Zao rfl) (Ret.mk ?_)))
     rw [DiskM.write_use hoff hin hb64 huse]
     exact ⟨rfl,St.shutDisk (DiskM.used_ok hok) c1 c2 hS⟩
    ·refine Zaq Tryz.func207 rfl Tryz.ntmps207 rfl ?_
     repeat (first|(refine G_id ?_;first|refine Zah ?_|refine Zac rfl rfl ?_|refine Zcp rfl rfl rfl rfl ?_)|(refine X_id ?_;first|(refine Zal 112 rfl rfl rfl rfl rfl hon ?_;rintro _ _ ⟨rfl,rfl⟩)|(refine Zal 200 rfl rfl rfl rfl rfl hhas ?_;rintro _ _ ⟨rfl,rfl⟩)|refine X_yl (Zad rfl rfl) rfl rfl ?_|refine X_yl (Zab rfl rfl) rfl rfl ?_|refine X_yl (Zag rfl rfl) rfl rfl ?_|refine X_yl (Zaf rfl rfl rfl) rfl rfl ?_|refine X_yl (Za6 rfl rfl rfl) rfl rfl ?_|refine X_yl (Zbg rfl rfl) rfl rfl ?_|refine X_yl (Zby rfl rfl) rfl rfl ?_|refine X_yl (Zbz rfl rfl rfl (by omega)) rfl rfl ?_)|(refine C_id ?_;first|refine Zaj ?_|refine Zaa ?_|refine Zat ?_|refine Zak rfl ?_)|(refine E_id ?_;first|refine Zae ?_))
     obtain ⟨_,hc,hr,hw,hbk⟩ := hS.call [true,false,false]
     refine Zal _ rfl rfl rfl rfl rfl (use_ p D.off D.armed D.left _ _ _ _ hok.left0 hok.left1 hc) ?_
     rintro _ w ⟨rfl,hS⟩
     replace hS := hbk hS
     clear hc hr hw hbk
     rw [huse]
     repeat (first|(refine G_id ?_;first|refine Zah ?_|refine Zac rfl rfl ?_)|(refine X_id ?_;first|refine X_yl (Zab rfl rfl) rfl rfl ?_|refine X_yl (Zbg rfl rfl) rfl rfl ?_)|(refine C_id ?_;first|refine Zaj ?_|refine Zav ?_|refine Zak rfl ?_)|(refine E_id ?_;first|refine Zae ?_|refine Zbh ?_))
     have hcells : CellsAt w.drew ⟨bb,bo,none⟩ (bv b) := (hb.rd hS).cellsAt rfl
     refine Zco (.s 0 (.s 1 (.s 2 (.s 3 (.s 4 (.s 5 (.s 6 (.s 7 (.s 8 (.s 9 (.h 10 (.h 11 (.s 12 (.s 13 (.h 14 .nil .no))) .no) .no))))))))))) mixed (by kernel_rfl) rfl ?_
     have hS := hS.drew
     repeat (first|(refine X_id ?_;first|refine Zbb rfl rfl rfl rfl rfl rfl rfl rfl hS (fun _ _ hS _ => ?_))|(refine Zbm ?_;first|refine Zai rfl rfl (fun _ => Zad rfl rfl) rfl rfl ?_|refine Zai rfl rfl (fun _ => Zag rfl rfl) rfl rfl ?_|refine Zai rfl rfl (fun _ => Zaf rfl rfl rfl) rfl rfl ?_|refine Zai rfl rfl (fun _ => Zcq rfl rfl rfl) rfl rfl ?_|refine Zai rfl rfl (fun _ => Yl_arrayAt rfl rfl (by omega)) rfl rfl ?_|refine Zbq (fun w' => w'.cell? _ = some _) rfl rfl hS.cell (fun _ hc => Zap rfl rfl hc) rfl rfl ?_|refine Zbq (fun w' => CellsAt w' _ _) rfl rfl (by assumption) (fun _ hc => Zea rfl rfl hc (by simp;omega)) rfl rfl ?_|refine Za9 rfl rfl ?_)|(refine Za3 ?_;first|refine And.intro (by repeat (first|exact trivial|refine And.intro (.inl (by decide +kernel)) ?_|refine And.intro (.inr (by first|assumption|exact hS.cell|exact Zan (by assumption)|exact hS.cellI (by omega)|exact hS.cellIP (by omega)|exact hS.cellsN|exact ((hr.rd hS).cellX (by omega) hx)|exact ((hr2.rd hS).cellX (by omega) hx2)|exact hS.cellB (by omega)|exact hS.cellBA (by omega)|exact (hb.rd hS).cellB' (by omega)|exact (hb2.rd hS).cellB' (by omega)|exact (hg.rd hS).cellI (by omega)|exact (hg2.rd hS).cellI (by omega)|exact ((hr.rd hS).cellF (by first|omega|(dsimp only;omega)) hx)|exact ((hr2.rd hS).cellF (by first|omega|(dsimp only;omega)) hx2)|exact hS.cellO 0 (by omega)|exact hS.cellO 1 (by omega)|exact hS.cellIA (by omega)|exact (hg.rd hS).cellIA (by omega)|exact (hg2.rd hS).cellIA (by omega)|exact Zan (hc.rd hS).pts|exact hb.rd hS|exact (hr.rd hS).cellsF7 (by first|omega|(dsimp only;omega)) hst4 rfl|exact (hr2.rd hS).cellsF7 (by first|omega|(dsimp only;omega)) hst4 rfl|exact hS.cellO 4 (by omega)|exact hS.cellO 5 (by omega)|exact hS.cellO 6 (by omega)|exact hS.cellO 7 (by omega)|exact hS.cellO 8 (by omega)|exact hS.cellO 9 (by omega)|exact hS.cellO 10 (by omega)|exact hS.cellO 11 (by omega)|exact hS.cellO 12 (by omega)|exact hS.cellO 13 (by omega)|exact hS.cellO 2 (by omega)|exact hS.cellO 3 (by omega))) ?_)) ?_))
     refine Zd4 rfl rfl rfl rfl rfl hS (Zep fun x hx => (hok.line64 x hx).1) c2 (hS.rd (List.mem_cons_self ..)).own_row (by simp [hb64]) (one_int bv_one) (by omega) (by simp only [maxLen]; omega) (fun a' c' w hS hc hnil => ?_)
     repeat (first|(refine G_id ?_;first|refine Zac rfl rfl ?_)|(refine X_id ?_;first|refine X_yl (Zad rfl rfl) rfl rfl ?_|refine X_yl (Zag rfl rfl) rfl rfl ?_|refine X_yl (Zaf rfl rfl rfl) rfl rfl ?_|refine Za2 rfl rfl rfl rfl hS (fun _ hS _ => ?_))|(refine C_id ?_;first|refine Zaj ?_|refine Zaa ?_)|(refine E_id ?_;first|refine Zae ?_)|(refine Zbm ?_;first|refine Zbv ?_|refine Zai rfl rfl (fun _ => Zag rfl rfl) rfl rfl ?_|refine Zai rfl rfl (fun _ => Zaf rfl rfl rfl) rfl rfl ?_|refine Za9 rfl rfl ?_)|(refine Za3 ?_;first|refine And.intro (by repeat (first|exact trivial|refine And.intro (.inl (by decide +kernel)) ?_|refine And.intro (.inr (by first|assumption|exact hS.cell|exact Zan (by assumption)|exact hS.cellI (by omega)|exact hS.cellIP (by omega)|exact hS.cellsN|exact ((hr.rd hS).cellX (by omega) hx)|exact ((hr2.rd hS).cellX (by omega) hx2)|exact hS.cellB (by omega)|exact hS.cellBA (by omega)|exact (hb.rd hS).cellB' (by omega)|exact (hb2.rd hS).cellB' (by omega)|exact (hg.rd hS).cellI (by omega)|exact (hg2.rd hS).cellI (by omega)|exact ((hr.rd hS).cellF (by first|omega|(dsimp only;omega)) hx)|exact ((hr2.rd hS).cellF (by first|omega|(dsimp only;omega)) hx2)|exact hS.cellO 0 (by omega)|exact hS.cellO 1 (by omega)|exact hS.cellIA (by omega)|exact (hg.rd hS).cellIA (by omega)|exact (hg2.rd hS).cellIA (by omega)|exact Zan (hc.rd hS).pts|exact hb.rd hS|exact (hr.rd hS).cellsF7 (by first|omega|(dsimp only;omega)) hst4 rfl|exact (hr2.rd hS).cellsF7 (by first|omega|(dsimp only;omega)) hst4 rfl|exact hS.cellO 4 (by omega)|exact hS.cellO 5 (by omega)|exact hS.cellO 6 (by omega)|exact hS.cellO 7 (by omega)|exact hS.cellO 8 (by omega)|exact hS.cellO 9 (by omega)|exact hS.cellO 10 (by omega)|exact hS.cellO 11 (by omega)|exact hS.cellO 12 (by omega)|exact hS.cellO 13 (by omega)|exact hS.cellO 2 (by omega)|exact hS.cellO 3 (by omega))) ?_)) ?_))
     obtain ⟨_,hc,hr,hw,hbk⟩ := hS.call [false,false,true,false]
     refine Zal _ rfl rfl rfl rfl rfl (add64_ p 5 D.writes 1 _ _ _ _ _ hc) ?_
     rintro _ w ⟨rfl,hS⟩
     replace hS := hbk hS
     clear hc hr hw hbk
     repeat (first|(refine G_id ?_;first|refine Zah ?_|refine Zac rfl rfl ?_)|(refine X_id ?_;first|refine X_yl (Zab rfl rfl) rfl rfl ?_)|(refine C_id ?_;first|refine Zaj ?_|refine Zaa ?_|refine Za0 ?_)|(refine E_id ?_;first|refine Zae ?_|refine Zax rfl (Zao rfl) (Ret.mk ?_)))
     rw [DiskM.write_yes hoff hin hb64 huse]
     have hok' := DiskM.line_ok (wr := IntKind.i64.wrap (D.writes + 1)) (DiskM.used_ok hok) (no := no) (b := b) hin hb64
     refine ⟨rfl,St.shutDisk (al := al) (ai := a') hok' c1 (show (D.line ++ [(no,b)]).length ≤ c' by simpa using hc) ?_⟩
     have hS := hS.pick [0,2,0]
     show St W F [pts p (.cells #[_,_,_,_,.slice a' ((D.line ++ [(no,b)]).length : Nat) c',_,_] 220),_,own _ _ _ _ (Zce (D.line ++ [(no,b)]))] w
     rw [lineCells_append,List.length_append]
     simpa [Zce,DiskM.used] using hS
   ·refine Zaq Tryz.func207 rfl Tryz.ntmps207 rfl ?_
    repeat (first|(refine G_id ?_;first|refine Zah ?_|refine Zac rfl rfl ?_|refine Zcp rfl rfl rfl rfl ?_)|(refine X_id ?_;first|(refine Zal 112 rfl rfl rfl rfl rfl hon ?_;rintro _ _ ⟨rfl,rfl⟩)|(refine Zal 200 rfl rfl rfl rfl rfl hhas ?_;rintro _ _ ⟨rfl,rfl⟩)|refine X_yl (Zad rfl rfl) rfl rfl ?_|refine X_yl (Zab rfl rfl) rfl rfl ?_|refine X_yl (Za6 rfl rfl rfl) rfl rfl ?_|refine X_yl (Zbg rfl rfl) rfl rfl ?_|refine X_yl (Zby rfl rfl) rfl rfl ?_|refine X_yl (Zck rfl rfl rfl (by omega)) rfl rfl ?_)|(refine C_id ?_;first|refine Zaj ?_|refine Zaa ?_|refine Zat ?_|refine Za0 ?_|refine Zam rfl ?_|refine Zak rfl ?_)|(refine E_id ?_;first|refine Zae ?_|refine Zar ?_|refine Zbe ?_|refine Zax rfl (Zao rfl) (Ret.mk ?_)))
    refine ⟨by simp [DiskM.write,hoff,hin,hb64],by simpa [DiskM.write,hoff,hin,hb64] using hS⟩
 ·have hon := on_ p D W hd
  rw [hoff] at hon
  refine Zaq Tryz.func207 rfl Tryz.ntmps207 rfl ?_
  repeat (first|(refine G_id ?_;first|refine Zah ?_|refine Zac rfl rfl ?_)|(refine X_id ?_;first|(refine Zal 112 rfl rfl rfl rfl rfl hon ?_;rintro _ _ ⟨rfl,rfl⟩)|refine X_yl (Zad rfl rfl) rfl rfl ?_|refine X_yl (Zab rfl rfl) rfl rfl ?_|refine X_yl (Zb5 rfl rfl) rfl rfl ?_)|(refine C_id ?_;first|refine Zaj ?_|refine Zaa ?_|refine Zat ?_|refine Za0 ?_|refine Zam rfl ?_)|(refine E_id ?_;first|refine Zae ?_|refine Zar ?_|refine Zbe ?_|refine Zax rfl (Zao rfl) (Ret.mk ?_)))
  exact ⟨by simp [DiskM.write,hoff],by simpa [DiskM.write,hoff] using hS⟩
end Cr
namespace Cr
open Go Go.Proofs
set_option maxRecDepth 100000

theorem backward_waiting (l bx n c : Nat) (a : Option Addr) (cs : List Value) (w : World) (T : TypeId) (hn : n ≤ 4611686018427387904) (hcs : cs.length = n * 65) (Inv : Nat → World → Prop) (Stop : World → Prop)
  (hbx : ∀ k w,Inv k w → w.heap[bx]? = some (.cells #[.slice a n c] T)) (hrow : ∀ k w,Inv k w → Rd w (row a cs)) (hl : ∀ k w,Inv k w → ∃ r : Loop,r.params.size = 2 ∧ w.heap[l]? = some (.loop r) ∧ (k ≠ 0 →
   RoundIn Fence.wide 0 Tryz.prog l r.fn ((r.params.zip #[.int .i64 ((k - 1 : Nat) : Int),.agg ((cs.drop ((k - 1) * 65)).take 65).toArray]).foldl (fun tmps (t,a) => tmps.setIfInBounds t a) r.tmps) r.assign r.body w
    (Ret fun v w' => (v = .bool true ∧ Inv (k - 1) w') ∨ (v = .bool false ∧ Stop w')))) (h0 : Inv n w) :
  CallsIn Fence.wide 0 Tryz.prog 230 #[.func (.yield l) #[] #[],.pointer (some ⟨bx,0,none⟩)] w (Ret fun _ w' => Inv 0 w' ∨ Stop w') := by
 refine callsIn_wide.2 ?_
 have hb := hbx _ _ h0
 refine Zaq Tryz.func230 rfl Tryz.ntmps230 rfl ?_
 repeat (first|(refine G_id ?_;first|refine Zah ?_|refine Zac rfl rfl ?_)|(refine X_id ?_;first|refine X_yl (Zab rfl rfl) rfl rfl ?_|refine X_yl (Zby rfl rfl) rfl rfl ?_|refine X_yl (Zdx rfl rfl rfl (w64 (by omega) (by omega))) rfl rfl ?_|refine X_yl (Zap rfl rfl (Zan (by assumption))) rfl rfl ?_)|(refine C_id ?_;first|refine Zaj ?_|refine Zaa ?_|refine Zat ?_)|(refine E_id ?_;first|refine Zae ?_))
 refine Zb8 (α := Nat) (fun k => [(0,.func (.yield l) #[] #[]),(1,.pointer (some ⟨bx,0,none⟩)),(3,.int .i64 ((k : Int) - 1))]) (fun k w => k ≤ n ∧ Inv k w) (fun k => k) n ⟨rfl,rfl,rfl,trivial⟩ ⟨Nat.le_refl _,h0⟩ ?_
 clear hb h0
 rintro k w ⟨hk,hi⟩
 have hb := hbx _ _ hi
 by_cases h0 : k = 0
 ·subst h0
  repeat (first|(refine G_id ?_;first|refine Zah ?_|refine Zac rfl rfl ?_)|(refine X_id ?_;first|refine X_yl (Zad rfl rfl) rfl rfl ?_|refine X_yl (Zdp rfl rfl rfl (by omega)) rfl rfl ?_)|(refine C_id ?_;first|refine Zaj ?_|refine Zaa ?_|refine Zb2 ?_|refine Zak rfl ?_)|(refine E_id ?_;first|refine Zae ?_|refine Zaw ?_|refine Za1 ?_|refine Zem rfl (Ret.mk ?_)))
  exact .inl hi
 ·obtain ⟨r,hp,hlr,hr⟩ := hl _ _ hi
  have hr := hr h0
  have hcs0 : cs ≠ [] := by intro e; rw [e] at hcs; simp at hcs; omega
  have ha := (hrow _ _ hi).base hcs0
  have hseg := (hrow _ _ hi).seg ((k - 1) * 65) 65
  have e1 : ((k : Int) - 1).toNat = k - 1 := by omega
  have e2 : ((k - 1 : Nat) : Int) = (k : Int) - 1 := by omega
  rw [e2] at hr
  repeat (first|(refine G_id ?_;first|refine Zah ?_|refine Zac rfl rfl ?_)|(refine X_id ?_;first|refine X_yl (Zad rfl rfl) rfl rfl ?_|refine X_yl (Zc8 rfl rfl rfl (by omega)) rfl rfl ?_|refine X_yl (Zau rfl rfl rfl (by omega) (by omega) (by first|assumption|exact ⟨_,_,rfl⟩)) rfl rfl ?_|refine X_yl (Zap rfl rfl (Zan (by assumption))) rfl rfl ?_)|(refine C_id ?_;first|refine Zaj ?_|refine Zaa ?_|refine Zat ?_|refine Zav ?_|refine Zam rfl ?_)|(refine E_id ?_;first|refine Zae ?_))
  rw [e1]
  refine X_yl (Zea rfl rfl hseg (by simp; omega)) rfl rfl ?_
  refine G_yield rfl rfl rfl rfl rfl rfl hlr (by rw [hp]; rfl) hr ?_
  rintro v w' (⟨rfl,hi'⟩ | ⟨rfl,hs⟩)
  ·repeat (first|(refine G_id ?_;first|refine Zah ?_|refine Zac rfl rfl ?_)|(refine X_id ?_;first|refine X_yl (Zad rfl rfl) rfl rfl ?_|refine X_yl (Zab rfl rfl) rfl rfl ?_|refine X_yl (Zbg rfl rfl) rfl rfl ?_|refine X_yl (Zdx rfl rfl rfl (w64 (by omega) (by omega))) rfl rfl ?_)|(refine C_id ?_;first|refine Zaa ?_|refine Zav ?_|refine Zak rfl ?_)|(refine E_id ?_;first|refine Zae ?_|refine Zbh ?_))
   refine Zbu (k - 1) ⟨rfl,rfl,?_,trivial⟩ ⟨by omega,hi'⟩ (by omega)
   rw [e2]; rfl
  ·repeat (first|(refine G_id ?_;first|refine Zah ?_|refine Zac rfl rfl ?_)|(refine X_id ?_;first|refine X_yl (Zb5 rfl rfl) rfl rfl ?_)|(refine C_id ?_;first|refine Za0 ?_|refine Zam rfl ?_)|(refine E_id ?_;first|refine Zae ?_|refine Zar ?_|refine Zbe ?_|refine E_ret0 rfl (Ret.mk ?_)))
   exact .inr hs
end Cr
namespace Cr
open Go Go.Proofs
set_option maxRecDepth 100000
set_option maxHeartbeats 4000000

theorem flatMap_len {α β : Type} {f : α → List β} {n : Nat} {l : List α} (h : ∀ x ∈ l,(f x).length = n) : (l.flatMap f).length = l.length * n := by
 induction l with
 | nil => simp
 | cons x l ih =>
  have := ih fun y hy => h y (List.mem_cons_of_mem _ hy)
  have h0 := h x (List.mem_cons_self ..)
  simp only [List.flatMap_cons,List.length_append,List.length_cons,h0,this,Nat.succ_mul]
  omega
theorem Ze9 {α β : Type} {f : α → List β} {n : Nat} {l : List α} (h : ∀ x ∈ l,(f x).length = n) {k : Nat} {x : α} (hx : l[k]? = some x) : ((l.flatMap f).drop (k * n)).take n = f x := by
 induction l generalizing k with
 | nil => simp at hx
 | cons y l ih =>
  have h0 := h y (List.mem_cons_self ..)
  cases k with
  | zero =>
   have e : y = x := by simpa using hx
   subst e
   simp [List.flatMap_cons,← h0]
  | succ k =>
   have hx' : l[k]? = some x := by simpa using hx
   have := ih (fun z hz => h z (List.mem_cons_of_mem _ hz)) hx'
   rw [List.flatMap_cons,List.drop_append,h0,show (k + 1) * n - n = k * n by rw [Nat.succ_mul]; omega,List.drop_of_length_le (by rw [h0,Nat.succ_mul]; omega)]
   simpa using this
theorem flatMap_set {α : Type} {f : α → List Value} {n : Nat} {l : List α} (h : ∀ x ∈ l,(f x).length = n) {k : Nat} {y : α} (hy : (f y).length = n) (hk : k < l.length) : Zbt (l.flatMap f) (k * n) (f y) = (l.set k y).flatMap f := by
 induction l generalizing k with
 | nil => simp at hk
 | cons x l ih =>
  have h0 := h x (List.mem_cons_self ..)
  cases k with
  | zero =>
   simp only [List.flatMap_cons,List.set_cons_zero,Nat.zero_mul,Zbt]
   simp [hy,← h0]
  | succ k =>
   have := ih (fun z hz => h z (List.mem_cons_of_mem _ hz)) (k := k) (by simpa using hk)
   simp only [List.flatMap_cons,List.set_cons_succ]
   rw [← this]
   unfold Zbt
   rw [List.take_append,List.drop_append,h0,show (k + 1) * n - n = k * n by rw [Nat.succ_mul]; omega,List.take_of_length_le (by rw [h0,Nat.succ_mul]; omega),List.drop_of_length_le (by rw [h0,Nat.succ_mul]; omega),
    show (k + 1) * n + (f y).length - n = k * n + (f y).length by rw [Nat.succ_mul]; omega]
   simp

def Zde (l : List (List UInt8)) (xs : List (Int × List UInt8)) : List (List UInt8) := xs.foldl (fun l x => l.set x.1.toNat x.2) l
theorem Zb1 (xs : List (Int × List UInt8)) : ∀ l,(Zde l xs).length = l.length := by
 induction xs with
 | nil => intro l; rfl
 | cons x xs ih => intro l; simp [Zde,List.foldl_cons] at ih ⊢; rw [ih]; simp
theorem layOn_64 (xs : List (Int × List UInt8)) (hx : ∀ x ∈ xs,x.2.length = 64) : ∀ l,(∀ s ∈ l,s.length = 64) → ∀ s ∈ Zde l xs,s.length = 64 := by
 induction xs with
 | nil => intro l h; exact h
 | cons x xs ih =>
  intro l h
  refine ih (fun y hy => hx y (List.mem_cons_of_mem _ hy)) _ fun s hs => ?_
  rcases List.mem_or_eq_of_mem_set hs with h' | rfl
  ·exact h s h'
  ·exact hx x (List.mem_cons_self ..)
theorem layOn_take {l : List (List UInt8)} {xs : List (Int × List UInt8)} {k : Nat} {x : Int × List UInt8} (hx : xs[k]? = some x) : Zde l (xs.take (k + 1)) = (Zde l (xs.take k)).set x.1.toNat x.2 := by
 have : xs.take (k + 1) = xs.take k ++ [x] := by
  rw [List.take_add_one,hx]; rfl
 rw [this,Zde,List.foldl_append]; rfl

theorem always_ (x : Value) (W : World) : Calls Tryz.prog 235 #[x] W (Ret fun v w => v = .bool true ∧ W = w) := by
 refine Zaq Tryz.func235 rfl Tryz.ntmps235 rfl ?_
 repeat (first|(refine G_id ?_;first|refine Zah ?_|refine Zac rfl rfl ?_)|(refine X_id ?_;first|refine X_yl (Zab rfl rfl) rfl rfl ?_)|(refine C_id ?_;first|refine Zaj ?_|refine Zaa ?_|refine Za0 ?_)|(refine E_id ?_;first|refine Zae ?_|refine Zax rfl (Zao rfl) (Ret.mk ?_)))
 exact ⟨rfl,rfl⟩
def DiskM.flushed (D : DiskM) : DiskM := { D with laid := Zde D.laid D.line,line := [] }
theorem DiskM.flushed_ok {D : DiskM} (h : D.ok) : D.flushed.ok := by
 obtain ⟨h1,h2,h3,h4,h5,h6⟩ := h
 refine ⟨layOn_64 _ (fun x hx => (h2 x hx).1) _ h1,fun x hx => (by cases hx),?_,?_,h5,h6⟩ <;> simpa [DiskM.flushed,Zb1] using (by assumption)
theorem lay_ (p : Nat) (D : DiskM) (W : World) (F : Nat → Prop) (hS : St W F [disk p D] W) (hline : D.line.length < 1073741824) :
  Calls Tryz.prog 234 #[.pointer (some ⟨p,0,none⟩),.func (.func 235) #[] #[]] W (Ret fun _ w => True ∧ St W F [disk p D.flushed] w) := by
 obtain ⟨hok,al,cl,ai,ci,c1,c2,hS⟩ := hS.openDisk
 refine Zaq Tryz.func234 rfl Tryz.ntmps234 rfl ?_
 repeat (first|(refine G_id ?_;first|refine Zah ?_|refine Zac rfl rfl ?_)|(refine X_id ?_;first|refine X_yl (Zad rfl rfl) rfl rfl ?_|refine X_yl (Zab rfl rfl) rfl rfl ?_|refine X_yl (Zag rfl rfl) rfl rfl ?_|refine X_yl (Zaf rfl rfl rfl) rfl rfl ?_|refine X_yl (Zby rfl rfl) rfl rfl ?_|refine X_yl (Zap rfl rfl hS.cell) rfl rfl ?_)|(refine C_id ?_;first|refine Zaj ?_|refine C_label ?_|refine C_scope rfl ?_|refine Zaa ?_|refine Zat ?_)|(refine E_id ?_;first|refine Zae ?_))
 refine Zb8 (α := Nat) (fun k => [(0,.pointer (some ⟨p,0,none⟩)),(1,.func (.func 235) #[] #[]),(5,.int .i64 (k : Nat)),(11,.slice ai D.line.length ci),(12,.int .i64 (D.line.length : Nat)),(13,.int .i64 (k : Nat))])
  (fun k w => k ≤ D.line.length ∧ St W F [pts p (.cells #[.bool D.off,.bool D.armed,.int .i64 D.left,.slice al D.laid.length cl,.slice ai D.line.length ci,.int .i64 D.writes,.int .i64 D.flushes] 220),
   own 332 64 al cl (Zcg (Zde D.laid (D.line.take k))),own 334 65 ai ci (Zce D.line)] w) (fun k => D.line.length - k) 0 ⟨rfl,rfl,rfl,rfl,rfl,rfl,trivial⟩ ⟨Nat.zero_le _,hS⟩ ?_
 clear hS
 rintro k w ⟨hk,hS⟩
 by_cases hlt : k < D.line.length
 ·obtain ⟨x,hx⟩ : ∃ x,D.line[k]? = some x := ⟨_,List.getElem?_eq_getElem hlt⟩
  have hxm := List.mem_of_getElem? hx
  have hln : ∀ x ∈ D.line,(Value.int .i64 x.1 :: bv x.2).length = 65 := fun x hx => by simp [(hok.line64 x hx).1]
  have hseg : CellsAt w (adr ai (k * 65)) (.int .i64 x.1 :: bv x.2) := by
   have := (hS.rd (List.mem_cons_of_mem _ (List.mem_cons_of_mem _ (List.mem_cons_self ..)))).own_row.seg (k * 65) 65
   rwa [show ((Zce D.line).drop (k * 65)).take 65 = _ from Ze9 hln hx] at this
  obtain ⟨ab,ao,hae⟩ := (hS.rd (List.mem_cons_of_mem _ (List.mem_cons_of_mem _ (List.mem_cons_self ..)))).own_row.base (by intro e; have h := Zep fun x hx => (hok.line64 x hx).1; rw [e] at h; simp at h; omega)
  subst hae
  have hx64 := (hok.line64 x hxm).1
  have hx0 := (hok.line64 x hxm).2.1
  have hx1 := (hok.line64 x hxm).2.2
  have hl64 := layOn_64 (D.line.take k) (fun y hy => (hok.line64 y (List.mem_of_mem_take hy)).1) _ hok.laid64
  have hlay := Zeq hl64
  rw [Zb1] at hlay
  obtain ⟨lb,lo,rfl⟩ := (hS.rd (List.mem_cons_of_mem _ (List.mem_cons_self ..))).own_row.base (by intro e; rw [e] at hlay; simp at hlay; omega)
  have hlen : LenIs (bv x.2) 64 := ⟨by simp [(hok.line64 x hxm).1]⟩
  repeat (first|(refine G_id ?_;first|refine Zah ?_|refine Zac rfl rfl ?_)|(refine X_id ?_;first|refine X_yl (Zad rfl rfl) rfl rfl ?_|refine X_yl (Za7 rfl rfl rfl (by omega)) rfl rfl ?_|refine X_yl (Zau rfl rfl rfl (by omega) (by omega) (by first|assumption|exact ⟨_,_,rfl⟩)) rfl rfl ?_)|(refine C_id ?_;first|refine Zaj ?_|refine Zaa ?_|refine Zat ?_|refine Zav ?_|refine Zam rfl ?_)|(refine E_id ?_;first|refine Zae ?_))
  refine X_yl (Zea rfl rfl hseg (by simp [(hok.line64 x hxm).1])) rfl rfl ?_
  repeat (first|(refine G_id ?_;first|refine Zah ?_|refine Zac rfl rfl ?_)|(refine X_id ?_;first|refine X_yl (Zad rfl rfl) rfl rfl ?_|refine X_yl (Zab rfl rfl) rfl rfl ?_|refine Za2 rfl rfl rfl rfl hS (fun _ hS _ => ?_)|refine Zbc rfl rfl rfl hS (fun _ _ hS _ => ?_))|(refine C_id ?_;first|refine Zaj ?_|refine Zaa ?_)|(refine E_id ?_;first|refine Zae ?_))
  refine Zal 235 rfl rfl rfl rfl rfl (always_ _ _) ?_
  rintro _ _ ⟨rfl,rfl⟩
  repeat (first|(refine G_id ?_;first|refine Zah ?_|refine Zac rfl rfl ?_)|(refine X_id ?_;first|refine X_yl (Zbg rfl rfl) rfl rfl ?_)|(refine C_id ?_;first|refine Zaj ?_|refine Zav ?_|refine Zak rfl ?_)|(refine E_id ?_;first|refine Zae ?_))
  refine Zco (.s 0 (.s 1 (.s 2 (.s 3 (.s 4 (.s 5 (.s 6 (.s 7 (.s 8 (.h 9 .nil .no)))))))))) mixed (by kernel_rfl) rfl ?_
  have hS := hS.drew
  repeat (first|(refine Zbm ?_;first|refine Zai rfl rfl (fun _ => Zad rfl rfl) rfl rfl ?_|refine Zai rfl rfl (fun _ => Zag rfl rfl) rfl rfl ?_|refine Zai rfl rfl (fun _ => Zaf rfl rfl rfl) rfl rfl ?_|refine Zai rfl rfl (fun _ => Zau rfl rfl rfl (by omega) (by omega) (by first|assumption|exact ⟨_,_,rfl⟩)) rfl rfl ?_|refine Zbq (fun w' => w'.cell? _ = some _) rfl rfl hS.cell (fun _ hc => Zap rfl rfl hc) rfl rfl ?_|refine Zbq (fun w' => Zfe w' _ _ _) rfl rfl hS.cellsN (fun _ hc => Zbf rfl rfl hc) rfl rfl ?_|refine Za9 rfl rfl ?_))
  refine X_storeOwnN (a := some ⟨lb,lo,none⟩) (i := x.1.toNat * 64) rfl rfl ?_ rfl (bv_one) (by simp [hx64]) rfl hS (by simp [hx64,hlay]; omega) (by omega) (fun w hS => ?_)
  ·rfl
  repeat (first|(refine G_id ?_;first|refine Zah ?_|refine Zac rfl rfl ?_)|(refine X_id ?_;first|refine X_yl (Zad rfl rfl) rfl rfl ?_|refine X_yl (Zab rfl rfl) rfl rfl ?_|refine X_yl (Zbo rfl rfl rfl (w64 (by omega) (by omega))) rfl rfl ?_)|(refine C_id ?_;first|refine Zaa ?_)|(refine E_id ?_;first|refine Zae ?_|refine Zbh ?_)|(refine Zbm ?_;first|refine Zbv ?_)|(refine Za3 ?_;first|refine And.intro (by repeat (first|exact trivial|refine And.intro (.inl (by decide +kernel)) ?_|refine And.intro (.inr (by first|assumption|exact hS.cell|exact Zan (by assumption)|exact hS.cellI (by omega)|exact hS.cellIP (by omega)|exact hS.cellsN|exact ((hr.rd hS).cellX (by omega) hx)|exact ((hr2.rd hS).cellX (by omega) hx2)|exact hS.cellB (by omega)|exact hS.cellBA (by omega)|exact (hb.rd hS).cellB' (by omega)|exact (hb2.rd hS).cellB' (by omega)|exact (hg.rd hS).cellI (by omega)|exact (hg2.rd hS).cellI (by omega)|exact ((hr.rd hS).cellF (by first|omega|(dsimp only;omega)) hx)|exact ((hr2.rd hS).cellF (by first|omega|(dsimp only;omega)) hx2)|exact hS.cellO 0 (by omega)|exact hS.cellO 1 (by omega)|exact hS.cellIA (by omega)|exact (hg.rd hS).cellIA (by omega)|exact (hg2.rd hS).cellIA (by omega)|exact Zan (hc.rd hS).pts|exact hb.rd hS|exact (hr.rd hS).cellsF7 (by first|omega|(dsimp only;omega)) hst4 rfl|exact (hr2.rd hS).cellsF7 (by first|omega|(dsimp only;omega)) hst4 rfl|exact hS.cellO 4 (by omega)|exact hS.cellO 5 (by omega)|exact hS.cellO 6 (by omega)|exact hS.cellO 7 (by omega)|exact hS.cellO 8 (by omega)|exact hS.cellO 9 (by omega)|exact hS.cellO 10 (by omega)|exact hS.cellO 11 (by omega)|exact hS.cellO 12 (by omega)|exact hS.cellO 13 (by omega)|exact hS.cellO 2 (by omega)|exact hS.cellO 3 (by omega))) ?_)) ?_))
  refine Zbu (k + 1) ⟨rfl,rfl,rfl,rfl,rfl,rfl,trivial⟩ ⟨hlt,?_⟩ (by omega)
  rw [layOn_take hx]
  have hS := hS.pick [2,0,1]
  rwa [show Zbt (Zcg (Zde D.laid (D.line.take k))) (x.1.toNat * 64) (bv x.2) = _ from flatMap_set (fun y hy => by simp [hl64 y hy]) (by simp [hx64]) (by rw [Zb1]; omega)] at hS
 ·obtain rfl : k = D.line.length := by omega
  repeat (first|(refine G_id ?_;first|refine Zah ?_|refine Zac rfl rfl ?_)|(refine X_id ?_;first|refine X_yl (Zad rfl rfl) rfl rfl ?_|refine X_yl (Zab rfl rfl) rfl rfl ?_|refine X_yl (Zag rfl rfl) rfl rfl ?_|refine X_yl (Zaf rfl rfl rfl) rfl rfl ?_|refine X_yl (Za8 rfl rfl rfl (by omega)) rfl rfl ?_|refine Za2 rfl rfl rfl rfl hS (fun _ hS _ => ?_))|(refine C_id ?_;first|refine Zaj ?_|refine Zaa ?_|refine Za0 ?_|refine Zb2 ?_|refine Zak rfl ?_)|(refine E_id ?_;first|refine Zae ?_|refine Zef (fun _ h => by cases h) ?_|refine Zaw ?_|refine Za1 ?_|refine Zax rfl (Zao rfl) (Ret.mk ?_)))
  refine ⟨trivial,?_⟩
  refine St.shutDisk (D := D.flushed) (al := al) (ai := none) (cl := cl) (ci := 0) (DiskM.flushed_ok hok) (by simpa [DiskM.flushed,Zb1]) (by simp [DiskM.flushed]) ?_
  have hS := ((hS.pick [0,0]).own_none 334 65 none).pick [1,1,0]
  rw [List.take_length] at hS
  simpa [DiskM.flushed,Zb1,Zce] using hS
/-! ### Flush -/
def DiskM.flush (D : DiskM) : Int × DiskM :=
 if D.off then (9,D) else if useB D.off D.armed D.left = false then (9,D.used)
 else (0,{ D.used.flushed with flushes := IntKind.i64.wrap (D.flushes + 1) })
theorem DiskM.flush_use {D : DiskM} (h : D.off = false) (hu : useB D.off D.armed D.left = false) : D.flush = (9,D.used) := by
 unfold DiskM.flush
 rw [if_neg (by simp [h]),if_pos hu]
theorem DiskM.flush_yes {D : DiskM} (h : D.off = false) (hu : useB D.off D.armed D.left = true) : D.flush = (0,{ D.used.flushed with flushes := IntKind.i64.wrap (D.flushes + 1) }) := by
 unfold DiskM.flush
 rw [if_neg (by simp [h]),if_neg (by simp [hu])]
theorem flush_ (p : Nat) (D : DiskM) (W : World) (F : Nat → Prop) (hS : St W F [disk p D] W) (hline : D.line.length < 1073741824) :
  Calls Tryz.prog 209 #[.pointer (some ⟨p,0,none⟩)] W (Ret fun v w => v = .int .i64 D.flush.1 ∧ St W F [disk p D.flush.2] w) := by
 have hd := hS.rd (List.mem_cons_self ..)
 have hon := on_ p D W hd
 have hok := hd.disk.1
 cases hoff : D.off
 ·rw [hoff] at hon
  refine Zaq Tryz.func209 rfl Tryz.ntmps209 rfl ?_
  repeat (first|(refine G_id ?_;first|refine Zah ?_|refine Zac rfl rfl ?_|refine Zcp rfl rfl rfl rfl ?_)|(refine X_id ?_;first|(refine Zal 112 rfl rfl rfl rfl rfl hon ?_;rintro _ _ ⟨rfl,rfl⟩)|refine X_yl (Zad rfl rfl) rfl rfl ?_|refine X_yl (Zab rfl rfl) rfl rfl ?_|refine X_yl (Zag rfl rfl) rfl rfl ?_|refine X_yl (Zaf rfl rfl rfl) rfl rfl ?_|refine X_yl (Zbg rfl rfl) rfl rfl ?_)|(refine C_id ?_;first|refine Zaj ?_|refine Zaa ?_)|(refine E_id ?_;first|refine Zae ?_))
  obtain ⟨hok,al,cl,ai,ci,c1,c2,hS⟩ := hS.openDisk
  cases huse : useB D.off D.armed D.left
  ·skip
   obtain ⟨_,hc,hr,hw,hbk⟩ := hS.call [true,false,false]
   refine Zal _ rfl rfl rfl rfl rfl (use_ p D.off D.armed D.left _ _ _ _ hok.left0 hok.left1 hc) ?_
   rintro _ w ⟨rfl,hS⟩
   replace hS := hbk hS
   clear hc hr hw hbk
   rw [huse]
   repeat (first|(refine G_id ?_;first|refine Zah ?_|refine Zac rfl rfl ?_|refine Zcp rfl rfl rfl rfl ?_)|(refine X_id ?_;first|refine X_yl (Zab rfl rfl) rfl rfl ?_|refine X_yl (Za6 rfl rfl rfl) rfl rfl ?_|refine X_yl (Zb5 rfl rfl) rfl rfl ?_)|(refine C_id ?_;first|refine Zaj ?_|refine Zaa ?_|refine Za0 ?_|refine Zam rfl ?_)|(refine E_id ?_;first|refine Zae ?_|refine Zar ?_|refine Zax rfl (Zao rfl) (Ret.mk ?_)))
   rw [DiskM.flush_use hoff huse]
   exact ⟨rfl,St.shutDisk (DiskM.used_ok hok) c1 c2 hS⟩
  ·skip
   obtain ⟨_,hc,hr,hw,hbk⟩ := hS.call [true,false,false]
   refine Zal _ rfl rfl rfl rfl rfl (use_ p D.off D.armed D.left _ _ _ _ hok.left0 hok.left1 hc) ?_
   rintro _ w ⟨rfl,hS⟩
   replace hS := hbk hS
   clear hc hr hw hbk
   rw [huse]
   replace hS : St W F [disk p D.used] w := St.shutDisk (DiskM.used_ok hok) c1 c2 hS
   repeat (first|(refine G_id ?_;first|refine Zah ?_|refine Zac rfl rfl ?_|refine Zcp rfl rfl rfl rfl ?_)|(refine X_id ?_;first|refine X_yl (Zad rfl rfl) rfl rfl ?_|refine X_yl (Za6 rfl rfl rfl) rfl rfl ?_|refine X_yl (Zbg rfl rfl) rfl rfl ?_)|(refine C_id ?_;first|refine Zaj ?_|refine Zaa ?_|refine Zav ?_|refine Zak rfl ?_)|(refine E_id ?_;first|refine Zae ?_))
   obtain ⟨_,hc,hr,hw,hbk⟩ := hS.call [true]
   refine Zal _ rfl rfl rfl rfl rfl (lay_ p D.used _ _ hc hline) ?_
   rintro _ w ⟨_,hS⟩
   replace hS := hbk hS
   clear hc hr hw hbk
   obtain ⟨hok2,al2,cl2,ai2,ci2,d1,d2,hS⟩ := hS.openDisk
   repeat (first|(refine G_id ?_;first|refine Zah ?_|refine Zac rfl rfl ?_)|(refine X_id ?_;first|refine X_yl (Zad rfl rfl) rfl rfl ?_|refine X_yl (Zag rfl rfl) rfl rfl ?_|refine X_yl (Zaf rfl rfl rfl) rfl rfl ?_)|(refine C_id ?_;first|refine Zaj ?_|refine Zaa ?_)|(refine E_id ?_;first|refine Zae ?_))
   obtain ⟨_,hc,hr,hw,hbk⟩ := hS.call [true,false,false]
   refine Zal _ rfl rfl rfl rfl rfl (add64_ p 6 D.flushes 1 _ _ _ _ _ hc) ?_
   rintro _ w ⟨rfl,hS⟩
   replace hS := hbk hS
   clear hc hr hw hbk
   repeat (first|(refine G_id ?_;first|refine Zah ?_|refine Zac rfl rfl ?_)|(refine X_id ?_;first|refine X_yl (Zab rfl rfl) rfl rfl ?_)|(refine C_id ?_;first|refine Zaj ?_|refine Zaa ?_|refine Za0 ?_)|(refine E_id ?_;first|refine Zae ?_|refine Zax rfl (Zao rfl) (Ret.mk ?_)))
   rw [DiskM.flush_yes hoff huse]
   exact ⟨rfl,St.shutDisk (D := { D.used.flushed with flushes := IntKind.i64.wrap (D.flushes + 1) }) ⟨hok2.1,hok2.2,hok2.3,hok2.4,hok2.5,hok2.6⟩ d1 d2 hS⟩
 ·rw [hoff] at hon
  refine Zaq Tryz.func209 rfl Tryz.ntmps209 rfl ?_
  repeat (first|(refine G_id ?_;first|refine Zah ?_|refine Zac rfl rfl ?_|refine G_no rfl rfl rfl rfl rfl rfl ?_)|(refine X_id ?_;first|(refine Zal 112 rfl rfl rfl rfl rfl hon ?_;rintro _ _ ⟨rfl,rfl⟩)|refine X_yl (Zad rfl rfl) rfl rfl ?_|refine X_yl (Zab rfl rfl) rfl rfl ?_|refine X_yl (Zbp rfl rfl rfl) rfl rfl ?_|refine X_yl (Zb5 rfl rfl) rfl rfl ?_)|(refine C_id ?_;first|refine Zaj ?_|refine Zaa ?_|refine Za0 ?_|refine Zam rfl ?_)|(refine E_id ?_;first|refine Zae ?_|refine Zar ?_|refine Zax rfl (Zao rfl) (Ret.mk ?_)))
  exact ⟨by simp [DiskM.flush,hoff],by simpa [DiskM.flush,hoff] using hS⟩

/-! ### Read -/
theorem row_pts {b : Nat} {l : List Value} {T : TypeId} : ∀ h,pts b (.cells l.toArray T (0,0)) h → row (some ⟨b,0,none⟩) l h := fun _ hg => .inr ⟨b,0,l.toArray,T,(0,0),rfl,hg,fun j v hv => by simpa using hv⟩
theorem row_pts_mid {b off n : Nat} {l cs : List Value} {T : TypeId} (hs : (l.drop off).take n = cs) : ∀ h,pts b (.cells l.toArray T (0,0)) h → row (some ⟨b,off,none⟩) cs h := fun _ hg => .inr ⟨b,off,l.toArray,T,(0,0),rfl,hg,fun j v hv => by
 subst hs
 rw [List.getElem?_take] at hv
 split at hv
 ·rw [List.getElem?_drop] at hv
  simpa using hv
 ·cases hv⟩
theorem St.row_none {W : World} {F : Nat → Prop} {rs : List Res} {w : World} (hS : St W F rs w) : St W F (row none [] :: rs) w :=
 hS.imp fun h hh => ⟨fun _ => none,h,.inl ⟨rfl,fun _ => rfl⟩,hh,fun _ => .inl rfl,fun _ => by simp⟩
theorem St.more {W : World} {F : Nat → Prop} {rs : List Res} {w : World} (hS : St W noF rs w) : St W F rs w := by
 obtain ⟨h,hs,s⟩ := hS
 exact ⟨h,hs,s.agrees,fun b o e => (s.foot b o e).elim (fun h => h.elim) .inr,s.size,s.os,s.tape,s.output,fun k hk _ => s.kept k hk (fun h => h)⟩
theorem St.kept {W : World} {rs : List Res} {w : World} {b : Nat} {o : Obj} (hS : St W noF rs w) (h : W.heap[b]? = some o) : w.heap[b]? = some o := by
 have : Rd W (pts b o) := ⟨Zet b o,rfl,fun k o' e => by obtain ⟨rfl,rfl⟩ := of_single e; exact h⟩
 exact (this.ro.rd hS).pts
theorem on_b (p : Nat) (D : DiskM) (b : Bool) (hb : D.off = b) (W : World) (hd : Rd W (disk p D)) : Calls Tryz.prog 112 #[.pointer (some ⟨p,0,none⟩)] W (Ret fun v w => v = .bool (!b) ∧ W = w) := by
 subst hb; exact on_ p D W hd
theorem has_b (p : Nat) (D : DiskM) (no : Int) (b : Bool) (hb : Zek D no = b) (W : World) (hd : Rd W (disk p D)) : Calls Tryz.prog 200 #[.pointer (some ⟨p,0,none⟩),.int .i64 no] W (Ret fun v w => v = .bool b ∧ W = w) := by
 subst hb; exact has_ p D no W hd
theorem backward_mk (a : Option Addr) (n c : Nat) (W : World) : Calls Tryz.prog 201 #[.slice a n c] W
  (Ret fun v w => ∃ bx,v = .func (.func 230) #[] #[.pointer (some ⟨bx,0,none⟩)] ∧ St W noF [pts bx (.cells #[.slice a n c] 218)] w) := by
 have hS := St.start W
 refine Zaq Tryz.func201 rfl Tryz.ntmps201 rfl ?_
 repeat (first|(refine G_id ?_;first|refine Zah ?_|refine Zac rfl rfl ?_)|(refine X_id ?_;first|refine X_yl (Zab rfl rfl) rfl rfl ?_|refine X_yl (Zdu rfl rfl rfl) rfl rfl ?_|refine Zel rfl rfl rfl rfl hS (fun _ _ hS _ => ?_))|(refine C_id ?_;first|refine Zaj ?_|refine Zaa ?_|refine Za0 ?_)|(refine E_id ?_;first|refine Zae ?_|refine Zax rfl (Zao rfl) (Ret.mk ?_)))
 exact ⟨_,rfl,hS⟩
def DiskM.find (D : DiskM) (no : Int) : List UInt8 := match D.line.reverse.find? (fun x => x.1 == no) with | some x => x.2 | none => D.laid.getD no.toNat []
def DiskM.read (D : DiskM) (no : Int) : Int × List UInt8 := if D.off then (9,[]) else if Zek D no = false then (1,[]) else (0,D.find no)
end Cr
namespace Cr
open Go Go.Proofs
set_option maxRecDepth 100000
set_option maxHeartbeats 4000000

theorem callsIn_post {F : Fence} {n : Nat} {P : Program} {f : FuncId} {args : Array Value} {w : World} {R R' : Value → World → Prop} (h : CallsIn F n P f args w (Ret R)) (hm : ∀ v w,R v w → R' v w) : CallsIn F n P f args w (Ret R') := by
 obtain ⟨h1,h2⟩ := h
 refine ⟨h1,fun cs hr => ?_⟩
 obtain ⟨e,w3,fr,⟨v,he,hR⟩,hrest⟩ := h2 cs hr
 exact ⟨e,w3,fr,⟨v,he,hm _ _ hR⟩,hrest⟩
theorem Fr.round2 {σ : Env} {N : Nat} {tm : Array Value} (hsz : tm.size = N) (h : ∀ n v,look σ n = some v → tm[n]? = some v) (l : Nat) {a b : Nat} (x y : Value) (ha : a < N) (hb : b < N) :
  Fr ((b,y) :: (a,x) :: σ) N ⟨[],some l⟩ { tmps := (#[a,b].zip #[x,y]).foldl (fun tmps (t,v) => tmps.setIfInBounds t v) tm,defers := [] } := by
 have := ((Fr.round hsz h l).put ha x).put hb y
 simpa [Act.put] using this
theorem own_to_row {T : TypeId} {e c : Nat} {a : Option Addr} {cs : List Value} : ∀ h,own T e a c cs h → row a cs h := fun h hh => by
 obtain ⟨h1,_,⟨rfl,h0⟩ | ⟨b,cells,rfl,rfl,hc,ht⟩⟩ := hh
 ·exact .inl ⟨by rw [Nat.zero_mul] at h1; exact List.length_eq_zero_iff.1 (by omega),h0⟩
 ·refine .inr ⟨b,0,cells,T,(0,0),rfl,rfl,fun i v hv => ?_⟩
  rw [← ht,List.getElem?_take] at hv
  split at hv
  ·simpa using hv
  ·cases hv
theorem drop_pred {α : Type} {l : List α} {k : Nat} {x : α} (hk : k ≠ 0) (hx : l[k - 1]? = some x) : l.drop (k - 1) = x :: l.drop k := by
 obtain ⟨h,rfl⟩ := List.getElem?_eq_some_iff.1 hx
 have := List.drop_eq_getElem_cons h
 rwa [show k - 1 + 1 = k by omega] at this
theorem find_none {α : Type} {l : List α} {k : Nat} {x : α} {f : α → Bool} (hk : k ≠ 0) (hx : l[k - 1]? = some x) (hf : (l.drop k).reverse.find? f = none) (h : f x = false) : (l.drop (k - 1)).reverse.find? f = none := by
 rw [drop_pred hk hx,List.reverse_cons,List.find?_append,hf]
 simp [h]
theorem find_last {α : Type} {l : List α} {k : Nat} {x : α} {f : α → Bool} (hk : k ≠ 0) (hx : l[k - 1]? = some x) (hf : (l.drop k).reverse.find? f = none) (h : f x = true) : l.reverse.find? f = some x := by
 have e : l = l.take (k - 1) ++ (x :: l.drop k) := by rw [← drop_pred hk hx]; simp
 rw [e,List.reverse_append,List.reverse_cons,List.find?_append,List.find?_append,hf]
 simp [h]
theorem Rd.slide {w : World} {b o : Nat} {cs : List Value} (H : Rd w (row (some ⟨b,o,none⟩) cs)) (k n : Nat) : Rd w (row (some ⟨b,o + k,none⟩) ((cs.drop k).take n)) :=
 H.mono fun h hr => by
  rcases hr with ⟨rfl,h0⟩ | ⟨b',off,cells,T,fz,hb,rfl,hc⟩
  ·exact ⟨h,.inl ⟨by simp,h0⟩,fun _ _ e => e⟩
  ·obtain ⟨rfl,rfl⟩ : b = b' ∧ o = off := by simpa using hb
   refine ⟨_,.inr ⟨b,o + k,cells,T,fz,rfl,rfl,fun i v hv => ?_⟩,fun _ _ e => e⟩
   rw [List.getElem?_take] at hv
   split at hv
   ·rw [List.getElem?_drop] at hv
    have := hc _ _ hv
    rwa [Nat.add_assoc]
   ·cases hv
theorem read_ (p : Nat) (D : DiskM) (no : Int) (W : World) (hd : Rd W (disk p D)) (hline : D.line.length < 1073741824) :
  Calls Tryz.prog 160 #[.pointer (some ⟨p,0,none⟩),.int .i64 no] W (Ret fun v w => ∃ a c,v = .tuple #[.slice a (D.read no).2.length c,.int .i64 (D.read no).1] ∧ (D.read no).2.length ≤ c ∧ St W noF [bytes a (D.read no).2] w) := by
 have hS := St.start W
 obtain ⟨hok,al,cl,ai,ci,c1,c2,hcd,hrl,hri⟩ := hd.disk
 have hdo := hd.ro
 cases hoff : D.off
 ·cases hin : Zek D no
  ·refine Zaq Tryz.func160 rfl Tryz.ntmps160 rfl ?_
   repeat (first|(refine G_id ?_;first|refine Zah ?_|refine Zac rfl rfl ?_)|(refine X_id ?_;first|(refine Zal 112 rfl rfl rfl rfl rfl (on_b p D _ hoff _ (hdo.rd hS)) ?_;rintro _ _ ⟨rfl,rfl⟩)|(refine Zal 200 rfl rfl rfl rfl rfl (has_b p D no _ hin _ (hdo.rd hS)) ?_;rintro _ _ ⟨rfl,rfl⟩)|refine X_yl (Zad rfl rfl) rfl rfl ?_|refine X_yl (Zab rfl rfl) rfl rfl ?_|refine X_yl (Zbg rfl rfl) rfl rfl ?_|refine X_yl (Zb5 rfl rfl) rfl rfl ?_|refine X_yl (Zap rfl rfl hS.cell) rfl rfl ?_|refine Za2 rfl rfl rfl rfl hS (fun _ hS _ => ?_)|refine Zel rfl rfl rfl rfl hS (fun _ _ hS _ => ?_)|refine Zbc rfl rfl rfl hS (fun _ _ hS _ => ?_))|(refine C_id ?_;first|refine Zaj ?_|refine Zaa ?_|refine Zat ?_|refine Za0 ?_|refine Zam rfl ?_|refine Zak rfl ?_)|(refine E_id ?_;first|refine Zae ?_|refine Zar ?_|refine Zbe ?_|refine Zcy rfl (by first|exact Zao rfl|exact Zay rfl (Za5 hS.cell)|exact Zay rfl (Za4 hS.cellsN)) (by first|exact Zao rfl|exact Zay rfl (Za5 hS.cell)|exact Zay rfl (Za4 hS.cellsN)) (Ret.mk ?_)))
   rw [show D.read no = (1,[]) by simp [DiskM.read,hoff,hin]]
   exact ⟨none,0,rfl,Nat.le_refl _,hS.drops.row_none⟩
  ·refine Zaq Tryz.func160 rfl Tryz.ntmps160 rfl ?_
   repeat (first|(refine G_id ?_;first|refine Zah ?_|refine Zac rfl rfl ?_)|(refine X_id ?_;first|(refine Zal 112 rfl rfl rfl rfl rfl (on_b p D _ hoff _ (hdo.rd hS)) ?_;rintro _ _ ⟨rfl,rfl⟩)|(refine Zal 200 rfl rfl rfl rfl rfl (has_b p D no _ hin _ (hdo.rd hS)) ?_;rintro _ _ ⟨rfl,rfl⟩)|refine X_yl (Zad rfl rfl) rfl rfl ?_|refine X_yl (Zab rfl rfl) rfl rfl ?_|refine X_yl (Zag rfl rfl) rfl rfl ?_|refine X_yl (Zaf rfl rfl rfl) rfl rfl ?_|refine X_yl (Zbg rfl rfl) rfl rfl ?_|refine X_yl (Zap rfl rfl hS.cell) rfl rfl ?_|refine Zel rfl rfl rfl rfl hS (fun _ _ hS _ => ?_)|refine Zbc rfl rfl rfl hS (fun _ _ hS _ => ?_))|(refine C_id ?_;first|refine Zaj ?_|refine Zaa ?_|refine Zat ?_|refine Zav ?_|refine Zak rfl ?_)|(refine E_id ?_;first|refine Zae ?_|refine Zbh ?_))
   have hcd1 := hS.kept hcd
   repeat (first|(refine G_id ?_;first|refine Zac rfl rfl ?_)|(refine X_id ?_;first|refine X_yl (Zap rfl rfl (Zan (by assumption))) rfl rfl ?_))
   obtain ⟨_,hc,hr,hw,hbk⟩ := hS.call []
   refine Zal _ rfl rfl rfl rfl rfl (backward_mk _ _ _ _) ?_
   rintro _ w ⟨bx,rfl,hS⟩
   replace hS := hbk hS.more
   clear hc hr hw hbk
   repeat (first|(refine G_id ?_;first|refine Zah ?_)|(refine C_id ?_;first|refine Zat ?_)|(refine E_id ?_;first|refine Zae ?_))
   rename_i b3 _ _ _ b4 _ _ _ b5 _ _ _ _
   refine C_rangeFunc (first := []) (captured := [.pointer (some ⟨bx,0,none⟩)])
    (fun l r j w => (j = none ∧ D.line.reverse.find? (fun x => x.1 == no) = none ∧ ∃ lo,St W noF [pts l lo,pts r (.deferred (some [])),pts bx (.cells #[.slice ai D.line.length ci] 218),pts b5 (.cells #[.int .i64 0] 43),pts b4 (.cells #[.slice none 0 0] 36),pts b3 (.cells #[.int .i64 no] 3)] w) ∨
     (j = some .ret ∧ ∃ x tb,D.line.reverse.find? (fun x => x.1 == no) = some x ∧ ∃ lo,St W noF [pts l lo,pts r (.deferred (some [])),pts tb (.cells (.int .i64 x.1 :: bv x.2).toArray 334),pts b5 (.cells #[.int .i64 0] 43),pts b4 (.cells #[.slice (some ⟨tb,1,none⟩) 64 64] 36)] w))
    rfl rfl hS ?_ ?_ ?_
   ·intro A B hA hB fn tm l r w1 htm hlook hS
    have hln : ∀ x ∈ D.line,(Value.int .i64 x.1 :: bv x.2).length = 65 := fun x hx => by simp [(hok.line64 x hx).1]
    have hll := Zep fun x hx => (hok.line64 x hx).1
    have hW := fun (w : World) rs (h : St W noF rs w) => hri.ro.rd h
    refine callsIn_post (backward_waiting l bx D.line.length ci ai (Zce D.line) w1 218 (by omega) hll
     (fun k w => k ≤ D.line.length ∧ (D.line.drop k).reverse.find? (fun x => x.1 == no) = none ∧ St W noF [pts l (.loop (recd fn tm #[22,23] A B r .ready none)),pts r (.deferred (some [])),pts bx (.cells #[.slice ai D.line.length ci] 218),pts b5 (.cells #[.int .i64 0] 43),pts b4 (.cells #[.slice none 0 0] 36),pts b3 (.cells #[.int .i64 no] 3)] w)
     (fun w => ∃ x tb,D.line.reverse.find? (fun x => x.1 == no) = some x ∧ St W noF [pts l (.loop (recd fn tm #[22,23] A B r .done (some .ret))),pts r (.deferred (some [])),pts tb (.cells (.int .i64 x.1 :: bv x.2).toArray 334),pts b5 (.cells #[.int .i64 0] 43),pts b4 (.cells #[.slice (some ⟨tb,1,none⟩) 64 64] 36)] w)
     (fun k w h => h.2.2.has) (fun k w h => hW _ _ h.2.2) ?_ ⟨Nat.le_refl _,by rw [List.drop_length]; rfl,hS⟩) ?_
    ·rintro k w ⟨hkl,hf,hS⟩
     refine ⟨_,rfl,hS.has,fun hk => ?_⟩
     obtain ⟨x,hx⟩ : ∃ x,D.line[k - 1]? = some x := by
      have : k - 1 < D.line.length := by omega
      exact ⟨_,List.getElem?_eq_getElem this⟩
     have hxm := List.mem_of_getElem? hx
     have hlen : LenIs (bv x.2) 64 := ⟨by simp [(hok.line64 x hxm).1]⟩
     have hagg : ((Zce D.line).drop ((k - 1) * 65)).take 65 = .int .i64 x.1 :: bv x.2 := Ze9 hln hx
     rw [hagg]
     show RoundIn Fence.wide 0 Tryz.prog l fn ((#[22,23].zip _).foldl _ tm) A B w _
     refine round_C (Fr.round2 htm hlook l (.int .i64 ((k - 1 : Nat) : Int)) (.agg (.int .i64 x.1 :: bv x.2).toArray) (by decide) (by decide)) ?_
     refine C_eq hA ?_
     by_cases hno : x.1 = no
     ·repeat (first|(refine G_id ?_;first|refine Zah ?_|refine Zac rfl rfl ?_)|(refine X_id ?_;first|refine Za2 rfl rfl rfl rfl hS (fun _ hS _ => ?_)|refine Zbc rfl rfl rfl hS (fun _ _ hS _ => ?_))|(refine C_id ?_;first|refine Zaa ?_))
      refine E_begin hS.has (fun w hset => ?_)
      replace hS := hS.upd hset
      refine C_eq hB ?_
      repeat (first|(refine G_id ?_;first|refine Zah ?_|refine Zac rfl rfl ?_)|(refine X_id ?_;first|refine X_yl (Zaf rfl rfl rfl) rfl rfl ?_|refine X_yl (Zdq rfl rfl rfl (by omega)) rfl rfl ?_|refine X_yl (Zcw rfl rfl) rfl rfl ?_|refine X_yl (Zap rfl rfl hS.cell) rfl rfl ?_|refine Za2 rfl rfl rfl rfl hS (fun _ hS _ => ?_))|(refine C_id ?_;first|refine Zaj ?_|refine Zaa ?_|refine Zat ?_|refine Za0 ?_|refine Zam rfl ?_)|(refine E_id ?_;first|refine Zae ?_|refine Zbe ?_))
      refine E_round_ret hS.has (fun w hset => ⟨_,rfl,.inr ⟨rfl,x,_,?_,(hS.upd hset).pick [1,1,0,1,1]⟩⟩)
      exact find_last hk hx hf (by simpa using hno)
     ·repeat (first|(refine G_id ?_;first|refine Zah ?_|refine Zac rfl rfl ?_)|(refine X_id ?_;first|refine Za2 rfl rfl rfl rfl hS (fun _ hS _ => ?_)|refine Zbc rfl rfl rfl hS (fun _ _ hS _ => ?_))|(refine C_id ?_;first|refine Zaa ?_))
      refine E_begin hS.has (fun w hset => ?_)
      replace hS := hS.upd hset
      refine C_eq hB ?_
      repeat (first|(refine G_id ?_;first|refine Zah ?_|refine Zac rfl rfl ?_)|(refine X_id ?_;first|refine X_yl (Zaf rfl rfl rfl) rfl rfl ?_|refine X_yl (Zd3 rfl rfl rfl (by omega)) rfl rfl ?_|refine X_yl (Zap rfl rfl hS.cell) rfl rfl ?_)|(refine C_id ?_;first|refine Zaj ?_|refine Zaa ?_|refine Zat ?_|refine Zav ?_|refine Zak rfl ?_)|(refine E_id ?_;first|refine Zae ?_|refine Zbh ?_))
      refine E_round_n hS.has (fun w hset => ⟨_,rfl,.inl ⟨rfl,by omega,?_,(hS.upd hset).pick [1,1,1,1,1,1]⟩⟩)
      exact find_none hk hx hf (by simpa using hno)
    ·rintro _ w3 (⟨_,hf,hS⟩ | ⟨x,tb,hf,hS⟩)
     ·exact ⟨_,_,by simp,hS.has,fun w4 hset => .inl ⟨rfl,by simpa using hf,_,hS.upd hset⟩⟩
     ·exact ⟨_,_,by simp,hS.has,fun w4 hset => .inr ⟨rfl,x,tb,hf,_,hS.upd hset⟩⟩
   ·intro l r w4 hJ
    rcases hJ with ⟨_,hf,lo,hS⟩ | ⟨h,_⟩
    ·repeat (first|(refine C_id ?_;first|refine Zaj ?_)|(refine E_id ?_;first|refine E_code2 rfl ?_|refine Zbh ?_))
     have hin2 : 0 ≤ no ∧ no < D.laid.length := by simpa [Zek] using hin
     have hin0 := hin2.1
     have hin1 := hin2.2
     obtain ⟨lb,lo,rfl⟩ := hrl.base (by intro e; have h := Zeq hok.laid64; rw [e] at h; simp at h; omega)
     refine Zco (.s 0 (.s 1 (.s 2 (.s 3 (.s 4 (.s 5 (.s 6 (.h 7 (.h 8 (.h 9 .nil .no) .no) .no)))))))) mixed (by kernel_rfl) rfl ?_
     have hS := hS.drew
     have hcd3 := hS.kept hcd
     repeat (first|(refine Zbm ?_;first|refine Zai rfl rfl (fun _ => Zad rfl rfl) rfl rfl ?_|refine Zai rfl rfl (fun _ => Zag rfl rfl) rfl rfl ?_|refine Zai rfl rfl (fun _ => Zaf rfl rfl rfl) rfl rfl ?_|refine Zai rfl rfl (fun _ => Zcw rfl rfl) rfl rfl ?_|refine Zai rfl rfl (fun _ => Zau rfl rfl rfl (by omega) (by omega) (by first|assumption|exact ⟨_,_,rfl⟩)) rfl rfl ?_|refine Zbq (fun w' => w'.cell? _ = some _) rfl rfl hS.cell (fun _ hc => Zap rfl rfl hc) rfl rfl ?_|refine Zbq (fun w' => w'.cell? _ = some _) rfl rfl (Zan (by assumption)) (fun _ hc => Zap rfl rfl hc) rfl rfl ?_|refine Za9 rfl rfl ?_))
     have hseg : ((Zcg D.laid).drop (no.toNat * 64)).take 64 = bv (D.laid.getD no.toNat []) := by
      obtain ⟨s,hs⟩ : ∃ s,D.laid[no.toNat]? = some s := ⟨_,List.getElem?_eq_getElem (by omega)⟩
      rw [List.getD_eq_getElem?_getD,hs]
      exact Ze9 (fun x hx => by simp [hok.laid64 x hx]) hs
     have hrs := (hrl.ro.rd hS).slide (no.toNat * 64) 64
     rw [hseg] at hrs
     have h64 : (D.laid.getD no.toNat []).length = 64 := by rw [← Zbw,← hseg,List.length_take,List.length_drop,Zeq hok.laid64]; omega
     obtain ⟨_,hc,hr,hw,hbk⟩ := hS.call []
     refine Zal _ rfl rfl rfl rfl rfl (clone_ _ 64 _ (D.laid.getD no.toNat []) _ hrs h64 (by omega)) ?_
     rintro _ w ⟨a',c',rfl,_,hcc,hS⟩
     replace hS := hbk hS.more
     clear hc hr hw hbk
     have hcd4 := hS.kept hcd
     refine And.intro (by repeat (first|exact trivial|refine And.intro (.inl (by decide +kernel)) ?_|refine And.intro (.inr (by first|exact hS.cell|exact Zan hcd4)) ?_)) ?_
     repeat (first|(refine X_id ?_;first|refine Za2 rfl rfl rfl rfl hS (fun _ hS _ => ?_))|(refine C_id ?_;first|refine Za0 ?_)|(refine E_id ?_;first|refine Zae ?_)|(refine Zbm ?_;first|refine Zbv ?_|refine Za9 rfl rfl ?_)|(refine Za3 ?_;first|refine And.intro (by repeat (first|exact trivial|refine And.intro (.inl (by decide +kernel)) ?_|refine And.intro (.inr (by first|assumption|exact hS.cell|exact Zan (by assumption)|exact hS.cellI (by omega)|exact hS.cellIP (by omega)|exact hS.cellsN|exact ((hr.rd hS).cellX (by omega) hx)|exact ((hr2.rd hS).cellX (by omega) hx2)|exact hS.cellB (by omega)|exact hS.cellBA (by omega)|exact (hb.rd hS).cellB' (by omega)|exact (hb2.rd hS).cellB' (by omega)|exact (hg.rd hS).cellI (by omega)|exact (hg2.rd hS).cellI (by omega)|exact ((hr.rd hS).cellF (by first|omega|(dsimp only;omega)) hx)|exact ((hr2.rd hS).cellF (by first|omega|(dsimp only;omega)) hx2)|exact hS.cellO 0 (by omega)|exact hS.cellO 1 (by omega)|exact hS.cellIA (by omega)|exact (hg.rd hS).cellIA (by omega)|exact (hg2.rd hS).cellIA (by omega)|exact Zan (hc.rd hS).pts|exact hb.rd hS|exact (hr.rd hS).cellsF7 (by first|omega|(dsimp only;omega)) hst4 rfl|exact (hr2.rd hS).cellsF7 (by first|omega|(dsimp only;omega)) hst4 rfl|exact hS.cellO 4 (by omega)|exact hS.cellO 5 (by omega)|exact hS.cellO 6 (by omega)|exact hS.cellO 7 (by omega)|exact hS.cellO 8 (by omega)|exact hS.cellO 9 (by omega)|exact hS.cellO 10 (by omega)|exact hS.cellO 11 (by omega)|exact hS.cellO 12 (by omega)|exact hS.cellO 13 (by omega)|exact hS.cellO 2 (by omega)|exact hS.cellO 3 (by omega))) ?_)) ?_))
     refine E_mark (.inl rfl) hS.has (fun w hset => ?_)
     replace hS := hS.upd hset
     repeat (first|(refine E_id ?_;first|refine Zcy rfl (by first|exact Zao rfl|exact Zay rfl (Za5 hS.cell)|exact Zay rfl (Za4 hS.cellsN)) (by first|exact Zao rfl|exact Zay rfl (Za5 hS.cell)|exact Zay rfl (Za4 hS.cellsN)) (Ret.mk ?_)))
     rw [show D.read no = (0,D.laid.getD no.toNat []) by simp only [DiskM.read,hoff,hin,DiskM.find,hf]; rfl]
     refine ⟨a',c',by rw [h64],by rw [h64]; exact hcc,(hS.pick [0]).head fun h hh => ?_⟩
     exact own_to_row h hh
    ·cases h
   ·intro l r c w4 hJ
    rcases hJ with ⟨h,_⟩ | ⟨h,x,tb,hf,lo,hS⟩
    ·cases h
    ·cases h
     repeat (first|(refine C_id ?_;first|refine Za0 ?_)|(refine E_id ?_;first|refine Zar ?_|refine Zbe ?_))
     refine E_mark (.inl rfl) hS.has (fun w hset => ?_)
     replace hS := hS.upd hset
     repeat (first|(refine E_id ?_;first|refine Zcy rfl (by first|exact Zao rfl|exact Zay rfl (Za5 hS.cell)|exact Zay rfl (Za4 hS.cellsN)) (by first|exact Zao rfl|exact Zay rfl (Za5 hS.cell)|exact Zay rfl (Za4 hS.cellsN)) (Ret.mk ?_)))
     have hx64 : x.2.length = 64 := (hok.line64 x (by simpa using List.mem_of_find?_eq_some hf)).1
     rw [show D.read no = (0,x.2) by simp only [DiskM.read,hoff,hin,DiskM.find,hf]; rfl]
     refine ⟨some ⟨tb,1,none⟩,64,by rw [hx64],by rw [hx64]; exact Nat.le_refl _,(hS.pick [2]).head (row_pts_mid (n := 64) ?_)⟩
     simp [← hx64,← Zbw]
 ·refine Zaq Tryz.func160 rfl Tryz.ntmps160 rfl ?_
  repeat (first|(refine G_id ?_;first|refine Zah ?_|refine Zac rfl rfl ?_)|(refine X_id ?_;first|(refine Zal 112 rfl rfl rfl rfl rfl (on_b p D _ hoff _ (hdo.rd hS)) ?_;rintro _ _ ⟨rfl,rfl⟩)|refine X_yl (Zad rfl rfl) rfl rfl ?_|refine X_yl (Zab rfl rfl) rfl rfl ?_|refine X_yl (Zb5 rfl rfl) rfl rfl ?_|refine Za2 rfl rfl rfl rfl hS (fun _ hS _ => ?_)|refine Zel rfl rfl rfl rfl hS (fun _ _ hS _ => ?_)|refine Zbc rfl rfl rfl hS (fun _ _ hS _ => ?_))|(refine C_id ?_;first|refine Zaj ?_|refine Zaa ?_|refine Zat ?_|refine Za0 ?_|refine Zam rfl ?_)|(refine E_id ?_;first|refine Zae ?_|refine Zar ?_|refine Zbe ?_|refine Zcy rfl (by first|exact Zao rfl|exact Zay rfl (Za5 hS.cell)|exact Zay rfl (Za4 hS.cellsN)) (by first|exact Zao rfl|exact Zay rfl (Za5 hS.cell)|exact Zay rfl (Za4 hS.cellsN)) (Ret.mk ?_)))
  rw [show D.read no = (9,[]) by simp [DiskM.read,hoff]]
  exact ⟨none,0,rfl,Nat.le_refl _,hS.drops.row_none⟩
end Cr
