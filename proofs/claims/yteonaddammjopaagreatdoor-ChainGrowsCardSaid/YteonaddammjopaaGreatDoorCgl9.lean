/-
  Layer 7 (inode): a node's sector,the front.
  Layer 7 (inode): the front.
  The library's bytes.Clone and bytes.Equal.
  Maps that are gone through: a map's entries bear stamps,all below its clock and no two alike; lookups,updates,deletions; 'range' in whatever order. Over any program.
  Maps that are gone through: the entry of a step,a deletion whose result nobody takes,a copy. Over any program.
  Layer 7 (inode): a table in memory as a resource; Get,Nodes.
  Layer 7 (inode): the free blocks of nodes; does a block stand in two Zih?
-/
import Derived.Test.YteonaddammjopaaGreatDoorCgl8
import Derived.Test.YteonaddammjopaaGreatDoorCgl5
import Derived.Test.YteonaddammjopaaGreatDoorCgl2
import Derived.Test.YteonaddammjopaaGreatDoorCgl3
import Derived.Test.YteonaddammjopaaGreatDoorCgl6
import Derived.Laws.IdiomRangeMap
import Derived.MapKept
namespace Cr
open Go Go.Proofs
set_option maxRecDepth 100000
set_option maxHeartbeats 8000000
attribute [local irreducible] Calls

instance seg_z (l : List Value) : Seg l 0 0 [] := ⟨by simp⟩
instance seg_pre (v : Value) (l cs : List Value) (n : Nat) [h : Seg l 0 n cs] : Seg (v :: l) 0 (n + 1) (v :: cs) := ⟨by have := h.seg; simp only [List.drop_zero] at this ⊢; rw [List.take_succ_cons,this.1]; exact ⟨rfl,by simp [this.2]⟩⟩
abbrev stoV (s : Sto) (da : Option Addr) (dc : Nat) (ba : Option Addr) (bc : Nat) : List Value := [.int .i64 s.nd.st.kind,.int .i64 s.nd.st.mode,.int .i64 s.nd.st.owner,.int .i64 s.nd.st.group,.slice da s.nd.data.length dc,.slice ba s.blocks.length bc]
def headB (s : Sto) : List UInt8 := [1] ++ bigB s.nd.st.num 8 ++ bigB (s.nd.data.length : Nat) 4
def Zez (s : Sto) (i : Nat) : List UInt8 := headB s ++ (s.blocks.take i).flatMap fun b => bigB b 4
theorem Zrn {s : Sto} {i : Nat} {b : Int} (h : s.blocks[i]? = some b) : Zez s (i + 1) = Zez s i ++ bigB b 4 := by
 unfold Zez
 rw [List.take_add_one,h]
 simp
theorem Zop (s : Sto) (i : Nat) : (Zez s i).length ≤ 13 + 4 * i := by
 have : ((s.blocks.take i).flatMap fun b => bigB b 4).length = (s.blocks.take i).length * 4 := Zfd fun b _ => Za0 b 4
 unfold Zez headB
 simp only [List.length_append,this,Za0,List.length_take,List.length_cons,List.length_nil]
 omega
theorem bodyTo_all (s : Sto) : Zez s s.blocks.length = Zgu s := by
 unfold Zez headB Zgu
 rw [List.take_length]
theorem sector_ (s : Sto) (da : Option Addr) (dc : Nat) (ba : Option Addr) (bc : Nat) (W : World) (hba : Rd W (row ba (ints .i64 s.blocks))) (hl : s.blocks.length ≤ 1048576) (_ : s.nd.data.length ≤ 1048576) :
  Calls Tryz.prog 181 #[.agg (stoV s da dc ba bc).toArray] W (Ret fun v w => ∃ p,v = .slice (some ⟨p,0,none⟩) 64 64 ∧ St W noF [bytes (some ⟨p,0,none⟩) (stoB s)] w) := by
 have hS := St.start W
 have hbr := hba.ro
 refine Zas Tryz.func181 rfl Tryz.ntmps181 rfl ?_
 repeat (first|(refine G_id ?_;first|refine Zah ?_|refine Zab rfl rfl ?_)|(refine X_id ?_;first|refine X_yl (Zac rfl rfl) rfl rfl ?_|refine Zeg rfl rfl rfl rfl hS (fun _ _ hS _ => ?_))|(refine C_id ?_;first|refine Zak ?_|refine Zaa ?_)|(refine E_id ?_;first|refine Zae ?_))
 rename_i t1 _ _
 refine C_join (α := Option Addr × Nat) (fun z => [(1,.pointer (some ⟨t1,0,none⟩)),(3,.slice z.1 (Zez s 0).length z.2)]) (fun z w => (Zez s 0).length ≤ z.2 ∧ St W noF [own 5 1 z.1 z.2 (bv (Zez s 0)),pts t1 (.cells (stoV s da dc ba bc).toArray 305)] w) ?_ ?_
 ·have hjl : Zez s 0 = [1] ++ bigB s.nd.st.num 8 ++ bigB (s.nd.data.length : Nat) 4 := by simp [Zez,headB]
  refine Zci (.s 1 (.s 2 (.s 3 (.s 6 (.s 7 (.s 8 (.s 9 (.h 0 (.h 4 (.h 5 (.h 10 (.h 11 (.h 12 (.s 13 .nil) .no) .no) .no) .no) .no) (.h 4 (.h 0 (.h 5 (.h 10 (.h 11 (.h 12 (.s 13 .nil) .no) .no) .no) .no) (.h 5 (.h 0 (.h 10 (.h 11 (.h 12 (.s 13 .nil) .no) .no) .no) (.h 10 (.h 0 (.h 11 (.h 12 (.s 13 .nil) .no) .no) .no) .no)) .no)) .no))))))))) mixed (by kernel_rfl) rfl ?_
  have hS := hS.drew
  repeat (first|(refine Zbj ?_;first|refine Zag rfl rfl (fun _ => Zaf rfl rfl rfl) rfl rfl ?_|refine Zag rfl rfl (fun _ => Zbt rfl rfl) rfl rfl ?_|refine Zbi (fun w' => w'.cell? _ = some _) rfl rfl hS.cell (fun _ hc => Zao rfl rfl hc) rfl rfl ?_|refine Zbi (fun w' => Zdj w' _ _ _) rfl rfl hS.cellsN (fun _ hc => Zbc rfl rfl hc) rfl rfl ?_))
  refine Zth ?_ ?_
  ·skip
   repeat (first|(refine X_id ?_;first|refine Za6 rfl rfl rfl rfl rfl rfl rfl rfl hS (fun _ _ hS _ => ?_))|(refine Zbj ?_;first|refine Za8 rfl rfl ?_)|(refine Za5 ?_;first|refine And.intro (by repeat (first|exact trivial|refine And.intro (.inl (by decide +kernel)) ?_|refine And.intro (.inr (by first|assumption|exact hS.cell|exact Zal (by assumption)|exact hS.cellI (by omega)|exact hS.cellIP (by omega)|exact hS.cellsN|exact ((hr.rd hS).cellX (by omega) hx)|exact hS.cellB (by omega)|exact hS.cellBA (by omega)|exact ((hr.rd hS).cellF (by first|omega|(dsimp only;omega)) hx)|exact hS.cellO 0 (by omega)|exact hS.cellO 1 (by omega)|exact hS.cellIA (by omega)|exact Zal (hc.rd hS).pts|exact hS.cellO 4 (by omega)|exact hS.cellO 5 (by omega)|exact hS.cellO 6 (by omega)|exact hS.cellO 7 (by omega)|exact hS.cellO 8 (by omega)|exact hS.cellO 9 (by omega)|exact hS.cellO 10 (by omega)|exact hS.cellO 11 (by omega)|exact hS.cellO 12 (by omega)|exact hS.cellO 13 (by omega)|exact hS.cellO 2 (by omega)|exact hS.cellO 3 (by omega))) ?_)) ?_))
   rename_i b0 _ _
   repeat (first|fail)
   refine Zbm _ rfl rfl rfl rfl rfl hS (Zsg s.nd.st _) ?_
   rintro _ w rfl hS
   repeat (first|(refine Zbj ?_;first|refine Za8 rfl rfl ?_)|(refine Za5 ?_;first|refine And.intro (by repeat (first|exact trivial|refine And.intro (.inl (by decide +kernel)) ?_|refine And.intro (.inr (by first|assumption|exact hS.cell|exact Zal (by assumption)|exact hS.cellI (by omega)|exact hS.cellIP (by omega)|exact hS.cellsN|exact ((hr.rd hS).cellX (by omega) hx)|exact hS.cellB (by omega)|exact hS.cellBA (by omega)|exact ((hr.rd hS).cellF (by first|omega|(dsimp only;omega)) hx)|exact hS.cellO 0 (by omega)|exact hS.cellO 1 (by omega)|exact hS.cellIA (by omega)|exact Zal (hc.rd hS).pts|exact hS.cellO 4 (by omega)|exact hS.cellO 5 (by omega)|exact hS.cellO 6 (by omega)|exact hS.cellO 7 (by omega)|exact hS.cellO 8 (by omega)|exact hS.cellO 9 (by omega)|exact hS.cellO 10 (by omega)|exact hS.cellO 11 (by omega)|exact hS.cellO 12 (by omega)|exact hS.cellO 13 (by omega)|exact hS.cellO 2 (by omega)|exact hS.cellO 3 (by omega))) ?_)) ?_))
   repeat (first|fail)
   refine Zan _ rfl rfl rfl rfl rfl (Zof s.nd.st.num 8 (by omega) _) ?_
   rintro _ w ⟨a1,k1,rfl,hk1,hS'⟩
   replace hS := hS.plus hS'
   clear hS'
   repeat (first|(refine Zbj ?_;first|refine Za8 rfl rfl ?_)|(refine Za5 ?_;first|refine And.intro (by repeat (first|exact trivial|refine And.intro (.inl (by decide +kernel)) ?_|refine And.intro (.inr (by first|assumption|exact hS.cell|exact Zal (by assumption)|exact hS.cellI (by omega)|exact hS.cellIP (by omega)|exact hS.cellsN|exact ((hr.rd hS).cellX (by omega) hx)|exact hS.cellB (by omega)|exact hS.cellBA (by omega)|exact ((hr.rd hS).cellF (by first|omega|(dsimp only;omega)) hx)|exact hS.cellO 0 (by omega)|exact hS.cellO 1 (by omega)|exact hS.cellIA (by omega)|exact Zal (hc.rd hS).pts|exact hS.cellO 4 (by omega)|exact hS.cellO 5 (by omega)|exact hS.cellO 6 (by omega)|exact hS.cellO 7 (by omega)|exact hS.cellO 8 (by omega)|exact hS.cellO 9 (by omega)|exact hS.cellO 10 (by omega)|exact hS.cellO 11 (by omega)|exact hS.cellO 12 (by omega)|exact hS.cellO 13 (by omega)|exact hS.cellO 2 (by omega)|exact hS.cellO 3 (by omega))) ?_)) ?_))
   repeat (first|fail)
   refine Zan _ rfl rfl rfl rfl rfl (Zof (s.nd.data.length : Nat) 4 (by omega) _) ?_
   rintro _ w ⟨a2,k2,rfl,hk2,hS'⟩
   replace hS := hS.plus hS'
   clear hS'
   repeat (first|(refine X_id ?_;first|refine Za6 rfl rfl rfl rfl rfl rfl rfl rfl hS (fun _ _ hS _ => ?_))|(refine Zbj ?_;first|refine Za8 rfl rfl ?_)|(refine Za5 ?_;first|refine And.intro (by repeat (first|exact trivial|refine And.intro (.inl (by decide +kernel)) ?_|refine And.intro (.inr (by first|assumption|exact hS.cell|exact Zal (by assumption)|exact hS.cellI (by omega)|exact hS.cellIP (by omega)|exact hS.cellsN|exact ((hr.rd hS).cellX (by omega) hx)|exact hS.cellB (by omega)|exact hS.cellBA (by omega)|exact ((hr.rd hS).cellF (by first|omega|(dsimp only;omega)) hx)|exact hS.cellO 0 (by omega)|exact hS.cellO 1 (by omega)|exact hS.cellIA (by omega)|exact Zal (hc.rd hS).pts|exact hS.cellO 4 (by omega)|exact hS.cellO 5 (by omega)|exact hS.cellO 6 (by omega)|exact hS.cellO 7 (by omega)|exact hS.cellO 8 (by omega)|exact hS.cellO 9 (by omega)|exact hS.cellO 10 (by omega)|exact hS.cellO 11 (by omega)|exact hS.cellO 12 (by omega)|exact hS.cellO 13 (by omega)|exact hS.cellO 2 (by omega)|exact hS.cellO 3 (by omega))) ?_)) ?_))
   rename_i b3 w3 _
   have hB := Bss.ofRd (w := w3) (a := some ⟨b3,0,none⟩) (l := [⟨some ⟨b0,0,none⟩,1,[1]⟩,⟨a1,k1,bigB s.nd.st.num 8⟩,⟨a2,k2,bigB (s.nd.data.length : Nat) 4⟩])
    (by simpa [Bs.val,Za0] using hS.ownRd (a := some ⟨b3,0,none⟩)) (fun x hx => by
     simp only [List.mem_cons,List.not_mem_nil,or_false] at hx
     rcases hx with rfl | rfl | rfl
     ·exact hS.ownRd
     ·exact hS.ownRd
     ·exact hS.ownRd)
   refine Zan _ rfl rfl rfl rfl rfl (Zl1 _ 3 _ _ hB (by simp) (by simp [Zbd,Za0])) ?_
   rintro _ w ⟨a',c',rfl,hc',hS'⟩
   replace hS := (hS.plus hS')
   repeat (first|(refine Zbj ?_;first|refine Zbw ?_|refine Zag rfl rfl (fun _ => Zac rfl rfl) rfl rfl ?_)|(refine Za5 ?_;first|refine And.intro (by repeat (first|exact trivial|refine And.intro (.inl (by decide +kernel)) ?_|refine And.intro (.inr (by first|assumption|exact hS.cell|exact Zal (by assumption)|exact hS.cellI (by omega)|exact hS.cellIP (by omega)|exact hS.cellsN|exact ((hr.rd hS).cellX (by omega) hx)|exact hS.cellB (by omega)|exact hS.cellBA (by omega)|exact ((hr.rd hS).cellF (by first|omega|(dsimp only;omega)) hx)|exact hS.cellO 0 (by omega)|exact hS.cellO 1 (by omega)|exact hS.cellIA (by omega)|exact Zal (hc.rd hS).pts|exact hS.cellO 4 (by omega)|exact hS.cellO 5 (by omega)|exact hS.cellO 6 (by omega)|exact hS.cellO 7 (by omega)|exact hS.cellO 8 (by omega)|exact hS.cellO 9 (by omega)|exact hS.cellO 10 (by omega)|exact hS.cellO 11 (by omega)|exact hS.cellO 12 (by omega)|exact hS.cellO 13 (by omega)|exact hS.cellO 2 (by omega)|exact hS.cellO 3 (by omega))) ?_)) ?_))
   refine Ziz (a',c') ⟨rfl,by simp only; rw [hjl]; simp [Zbd,Za0,look],trivial⟩ ⟨by simp only; rw [hjl]; simpa [Zbd,Za0] using hc',?_⟩
   have hj : Zbd [⟨some ⟨b0,0,none⟩,1,[1]⟩,⟨a1,k1,bigB s.nd.st.num 8⟩,⟨a2,k2,bigB (s.nd.data.length : Nat) 4⟩] = [1] ++ bigB s.nd.st.num 8 ++ bigB (s.nd.data.length : Nat) 4 := by simp [Zbd]
   simp only; rw [hjl,← hj]
   exact hS.took
  repeat (first|(refine Zbj ?_;first|refine Za8 rfl rfl ?_))
  refine Zbm _ rfl rfl rfl rfl rfl hS (Zsg s.nd.st _) ?_
  rintro _ w rfl hS
  repeat (first|(refine Za5 ?_;first|refine And.intro (by repeat (first|exact trivial|refine And.intro (.inl (by decide +kernel)) ?_|refine And.intro (.inr (by first|assumption|exact hS.cell|exact Zal (by assumption)|exact hS.cellI (by omega)|exact hS.cellIP (by omega)|exact hS.cellsN|exact ((hr.rd hS).cellX (by omega) hx)|exact hS.cellB (by omega)|exact hS.cellBA (by omega)|exact ((hr.rd hS).cellF (by first|omega|(dsimp only;omega)) hx)|exact hS.cellO 0 (by omega)|exact hS.cellO 1 (by omega)|exact hS.cellIA (by omega)|exact Zal (hc.rd hS).pts|exact hS.cellO 4 (by omega)|exact hS.cellO 5 (by omega)|exact hS.cellO 6 (by omega)|exact hS.cellO 7 (by omega)|exact hS.cellO 8 (by omega)|exact hS.cellO 9 (by omega)|exact hS.cellO 10 (by omega)|exact hS.cellO 11 (by omega)|exact hS.cellO 12 (by omega)|exact hS.cellO 13 (by omega)|exact hS.cellO 2 (by omega)|exact hS.cellO 3 (by omega))) ?_)) ?_))
  refine Zth ?_ ?_
  ·skip
   repeat (first|(refine X_id ?_;first|refine Za6 rfl rfl rfl rfl rfl rfl rfl rfl hS (fun _ _ hS _ => ?_))|(refine Zbj ?_;first|refine Za8 rfl rfl ?_)|(refine Za5 ?_;first|refine And.intro (by repeat (first|exact trivial|refine And.intro (.inl (by decide +kernel)) ?_|refine And.intro (.inr (by first|assumption|exact hS.cell|exact Zal (by assumption)|exact hS.cellI (by omega)|exact hS.cellIP (by omega)|exact hS.cellsN|exact ((hr.rd hS).cellX (by omega) hx)|exact hS.cellB (by omega)|exact hS.cellBA (by omega)|exact ((hr.rd hS).cellF (by first|omega|(dsimp only;omega)) hx)|exact hS.cellO 0 (by omega)|exact hS.cellO 1 (by omega)|exact hS.cellIA (by omega)|exact Zal (hc.rd hS).pts|exact hS.cellO 4 (by omega)|exact hS.cellO 5 (by omega)|exact hS.cellO 6 (by omega)|exact hS.cellO 7 (by omega)|exact hS.cellO 8 (by omega)|exact hS.cellO 9 (by omega)|exact hS.cellO 10 (by omega)|exact hS.cellO 11 (by omega)|exact hS.cellO 12 (by omega)|exact hS.cellO 13 (by omega)|exact hS.cellO 2 (by omega)|exact hS.cellO 3 (by omega))) ?_)) ?_))
   rename_i b0 _ _
   repeat (first|fail)
   refine Zan _ rfl rfl rfl rfl rfl (Zof s.nd.st.num 8 (by omega) _) ?_
   rintro _ w ⟨a1,k1,rfl,hk1,hS'⟩
   replace hS := hS.plus hS'
   clear hS'
   repeat (first|(refine Zbj ?_;first|refine Za8 rfl rfl ?_)|(refine Za5 ?_;first|refine And.intro (by repeat (first|exact trivial|refine And.intro (.inl (by decide +kernel)) ?_|refine And.intro (.inr (by first|assumption|exact hS.cell|exact Zal (by assumption)|exact hS.cellI (by omega)|exact hS.cellIP (by omega)|exact hS.cellsN|exact ((hr.rd hS).cellX (by omega) hx)|exact hS.cellB (by omega)|exact hS.cellBA (by omega)|exact ((hr.rd hS).cellF (by first|omega|(dsimp only;omega)) hx)|exact hS.cellO 0 (by omega)|exact hS.cellO 1 (by omega)|exact hS.cellIA (by omega)|exact Zal (hc.rd hS).pts|exact hS.cellO 4 (by omega)|exact hS.cellO 5 (by omega)|exact hS.cellO 6 (by omega)|exact hS.cellO 7 (by omega)|exact hS.cellO 8 (by omega)|exact hS.cellO 9 (by omega)|exact hS.cellO 10 (by omega)|exact hS.cellO 11 (by omega)|exact hS.cellO 12 (by omega)|exact hS.cellO 13 (by omega)|exact hS.cellO 2 (by omega)|exact hS.cellO 3 (by omega))) ?_)) ?_))
   repeat (first|fail)
   refine Zan _ rfl rfl rfl rfl rfl (Zof (s.nd.data.length : Nat) 4 (by omega) _) ?_
   rintro _ w ⟨a2,k2,rfl,hk2,hS'⟩
   replace hS := hS.plus hS'
   clear hS'
   repeat (first|(refine X_id ?_;first|refine Za6 rfl rfl rfl rfl rfl rfl rfl rfl hS (fun _ _ hS _ => ?_))|(refine Zbj ?_;first|refine Za8 rfl rfl ?_)|(refine Za5 ?_;first|refine And.intro (by repeat (first|exact trivial|refine And.intro (.inl (by decide +kernel)) ?_|refine And.intro (.inr (by first|assumption|exact hS.cell|exact Zal (by assumption)|exact hS.cellI (by omega)|exact hS.cellIP (by omega)|exact hS.cellsN|exact ((hr.rd hS).cellX (by omega) hx)|exact hS.cellB (by omega)|exact hS.cellBA (by omega)|exact ((hr.rd hS).cellF (by first|omega|(dsimp only;omega)) hx)|exact hS.cellO 0 (by omega)|exact hS.cellO 1 (by omega)|exact hS.cellIA (by omega)|exact Zal (hc.rd hS).pts|exact hS.cellO 4 (by omega)|exact hS.cellO 5 (by omega)|exact hS.cellO 6 (by omega)|exact hS.cellO 7 (by omega)|exact hS.cellO 8 (by omega)|exact hS.cellO 9 (by omega)|exact hS.cellO 10 (by omega)|exact hS.cellO 11 (by omega)|exact hS.cellO 12 (by omega)|exact hS.cellO 13 (by omega)|exact hS.cellO 2 (by omega)|exact hS.cellO 3 (by omega))) ?_)) ?_))
   rename_i b3 w3 _
   have hB := Bss.ofRd (w := w3) (a := some ⟨b3,0,none⟩) (l := [⟨some ⟨b0,0,none⟩,1,[1]⟩,⟨a1,k1,bigB s.nd.st.num 8⟩,⟨a2,k2,bigB (s.nd.data.length : Nat) 4⟩])
    (by simpa [Bs.val,Za0] using hS.ownRd (a := some ⟨b3,0,none⟩)) (fun x hx => by
     simp only [List.mem_cons,List.not_mem_nil,or_false] at hx
     rcases hx with rfl | rfl | rfl
     ·exact hS.ownRd
     ·exact hS.ownRd
     ·exact hS.ownRd)
   refine Zan _ rfl rfl rfl rfl rfl (Zl1 _ 3 _ _ hB (by simp) (by simp [Zbd,Za0])) ?_
   rintro _ w ⟨a',c',rfl,hc',hS'⟩
   replace hS := (hS.plus hS')
   repeat (first|(refine Zbj ?_;first|refine Zbw ?_|refine Zag rfl rfl (fun _ => Zac rfl rfl) rfl rfl ?_)|(refine Za5 ?_;first|refine And.intro (by repeat (first|exact trivial|refine And.intro (.inl (by decide +kernel)) ?_|refine And.intro (.inr (by first|assumption|exact hS.cell|exact Zal (by assumption)|exact hS.cellI (by omega)|exact hS.cellIP (by omega)|exact hS.cellsN|exact ((hr.rd hS).cellX (by omega) hx)|exact hS.cellB (by omega)|exact hS.cellBA (by omega)|exact ((hr.rd hS).cellF (by first|omega|(dsimp only;omega)) hx)|exact hS.cellO 0 (by omega)|exact hS.cellO 1 (by omega)|exact hS.cellIA (by omega)|exact Zal (hc.rd hS).pts|exact hS.cellO 4 (by omega)|exact hS.cellO 5 (by omega)|exact hS.cellO 6 (by omega)|exact hS.cellO 7 (by omega)|exact hS.cellO 8 (by omega)|exact hS.cellO 9 (by omega)|exact hS.cellO 10 (by omega)|exact hS.cellO 11 (by omega)|exact hS.cellO 12 (by omega)|exact hS.cellO 13 (by omega)|exact hS.cellO 2 (by omega)|exact hS.cellO 3 (by omega))) ?_)) ?_))
   refine Ziz (a',c') ⟨rfl,by simp only; rw [hjl]; simp [Zbd,Za0,look],trivial⟩ ⟨by simp only; rw [hjl]; simpa [Zbd,Za0] using hc',?_⟩
   have hj : Zbd [⟨some ⟨b0,0,none⟩,1,[1]⟩,⟨a1,k1,bigB s.nd.st.num 8⟩,⟨a2,k2,bigB (s.nd.data.length : Nat) 4⟩] = [1] ++ bigB s.nd.st.num 8 ++ bigB (s.nd.data.length : Nat) 4 := by simp [Zbd]
   simp only; rw [hjl,← hj]
   exact hS.took
  repeat (first|(refine Zbj ?_;first|refine Za8 rfl rfl ?_))
  refine Zan _ rfl rfl rfl rfl rfl (Zof s.nd.st.num 8 (by omega) _) ?_
  rintro _ w ⟨a1,k1,rfl,hk1,hS'⟩
  replace hS := hS.plus hS'
  clear hS'
  repeat (first|(refine Za5 ?_;first|refine And.intro (by repeat (first|exact trivial|refine And.intro (.inl (by decide +kernel)) ?_|refine And.intro (.inr (by first|assumption|exact hS.cell|exact Zal (by assumption)|exact hS.cellI (by omega)|exact hS.cellIP (by omega)|exact hS.cellsN|exact ((hr.rd hS).cellX (by omega) hx)|exact hS.cellB (by omega)|exact hS.cellBA (by omega)|exact ((hr.rd hS).cellF (by first|omega|(dsimp only;omega)) hx)|exact hS.cellO 0 (by omega)|exact hS.cellO 1 (by omega)|exact hS.cellIA (by omega)|exact Zal (hc.rd hS).pts|exact hS.cellO 4 (by omega)|exact hS.cellO 5 (by omega)|exact hS.cellO 6 (by omega)|exact hS.cellO 7 (by omega)|exact hS.cellO 8 (by omega)|exact hS.cellO 9 (by omega)|exact hS.cellO 10 (by omega)|exact hS.cellO 11 (by omega)|exact hS.cellO 12 (by omega)|exact hS.cellO 13 (by omega)|exact hS.cellO 2 (by omega)|exact hS.cellO 3 (by omega))) ?_)) ?_))
  refine Zth ?_ ?_
  ·skip
   repeat (first|(refine X_id ?_;first|refine Za6 rfl rfl rfl rfl rfl rfl rfl rfl hS (fun _ _ hS _ => ?_))|(refine Zbj ?_;first|refine Za8 rfl rfl ?_)|(refine Za5 ?_;first|refine And.intro (by repeat (first|exact trivial|refine And.intro (.inl (by decide +kernel)) ?_|refine And.intro (.inr (by first|assumption|exact hS.cell|exact Zal (by assumption)|exact hS.cellI (by omega)|exact hS.cellIP (by omega)|exact hS.cellsN|exact ((hr.rd hS).cellX (by omega) hx)|exact hS.cellB (by omega)|exact hS.cellBA (by omega)|exact ((hr.rd hS).cellF (by first|omega|(dsimp only;omega)) hx)|exact hS.cellO 0 (by omega)|exact hS.cellO 1 (by omega)|exact hS.cellIA (by omega)|exact Zal (hc.rd hS).pts|exact hS.cellO 4 (by omega)|exact hS.cellO 5 (by omega)|exact hS.cellO 6 (by omega)|exact hS.cellO 7 (by omega)|exact hS.cellO 8 (by omega)|exact hS.cellO 9 (by omega)|exact hS.cellO 10 (by omega)|exact hS.cellO 11 (by omega)|exact hS.cellO 12 (by omega)|exact hS.cellO 13 (by omega)|exact hS.cellO 2 (by omega)|exact hS.cellO 3 (by omega))) ?_)) ?_))
   rename_i b0 _ _
   repeat (first|fail)
   refine Zan _ rfl rfl rfl rfl rfl (Zof (s.nd.data.length : Nat) 4 (by omega) _) ?_
   rintro _ w ⟨a2,k2,rfl,hk2,hS'⟩
   replace hS := hS.plus hS'
   clear hS'
   repeat (first|(refine X_id ?_;first|refine Za6 rfl rfl rfl rfl rfl rfl rfl rfl hS (fun _ _ hS _ => ?_))|(refine Zbj ?_;first|refine Za8 rfl rfl ?_)|(refine Za5 ?_;first|refine And.intro (by repeat (first|exact trivial|refine And.intro (.inl (by decide +kernel)) ?_|refine And.intro (.inr (by first|assumption|exact hS.cell|exact Zal (by assumption)|exact hS.cellI (by omega)|exact hS.cellIP (by omega)|exact hS.cellsN|exact ((hr.rd hS).cellX (by omega) hx)|exact hS.cellB (by omega)|exact hS.cellBA (by omega)|exact ((hr.rd hS).cellF (by first|omega|(dsimp only;omega)) hx)|exact hS.cellO 0 (by omega)|exact hS.cellO 1 (by omega)|exact hS.cellIA (by omega)|exact Zal (hc.rd hS).pts|exact hS.cellO 4 (by omega)|exact hS.cellO 5 (by omega)|exact hS.cellO 6 (by omega)|exact hS.cellO 7 (by omega)|exact hS.cellO 8 (by omega)|exact hS.cellO 9 (by omega)|exact hS.cellO 10 (by omega)|exact hS.cellO 11 (by omega)|exact hS.cellO 12 (by omega)|exact hS.cellO 13 (by omega)|exact hS.cellO 2 (by omega)|exact hS.cellO 3 (by omega))) ?_)) ?_))
   rename_i b3 w3 _
   have hB := Bss.ofRd (w := w3) (a := some ⟨b3,0,none⟩) (l := [⟨some ⟨b0,0,none⟩,1,[1]⟩,⟨a1,k1,bigB s.nd.st.num 8⟩,⟨a2,k2,bigB (s.nd.data.length : Nat) 4⟩])
    (by simpa [Bs.val,Za0] using hS.ownRd (a := some ⟨b3,0,none⟩)) (fun x hx => by
     simp only [List.mem_cons,List.not_mem_nil,or_false] at hx
     rcases hx with rfl | rfl | rfl
     ·exact hS.ownRd
     ·exact hS.ownRd
     ·exact hS.ownRd)
   refine Zan _ rfl rfl rfl rfl rfl (Zl1 _ 3 _ _ hB (by simp) (by simp [Zbd,Za0])) ?_
   rintro _ w ⟨a',c',rfl,hc',hS'⟩
   replace hS := (hS.plus hS')
   repeat (first|(refine Zbj ?_;first|refine Zbw ?_|refine Zag rfl rfl (fun _ => Zac rfl rfl) rfl rfl ?_)|(refine Za5 ?_;first|refine And.intro (by repeat (first|exact trivial|refine And.intro (.inl (by decide +kernel)) ?_|refine And.intro (.inr (by first|assumption|exact hS.cell|exact Zal (by assumption)|exact hS.cellI (by omega)|exact hS.cellIP (by omega)|exact hS.cellsN|exact ((hr.rd hS).cellX (by omega) hx)|exact hS.cellB (by omega)|exact hS.cellBA (by omega)|exact ((hr.rd hS).cellF (by first|omega|(dsimp only;omega)) hx)|exact hS.cellO 0 (by omega)|exact hS.cellO 1 (by omega)|exact hS.cellIA (by omega)|exact Zal (hc.rd hS).pts|exact hS.cellO 4 (by omega)|exact hS.cellO 5 (by omega)|exact hS.cellO 6 (by omega)|exact hS.cellO 7 (by omega)|exact hS.cellO 8 (by omega)|exact hS.cellO 9 (by omega)|exact hS.cellO 10 (by omega)|exact hS.cellO 11 (by omega)|exact hS.cellO 12 (by omega)|exact hS.cellO 13 (by omega)|exact hS.cellO 2 (by omega)|exact hS.cellO 3 (by omega))) ?_)) ?_))
   refine Ziz (a',c') ⟨rfl,by simp only; rw [hjl]; simp [Zbd,Za0,look],trivial⟩ ⟨by simp only; rw [hjl]; simpa [Zbd,Za0] using hc',?_⟩
   have hj : Zbd [⟨some ⟨b0,0,none⟩,1,[1]⟩,⟨a1,k1,bigB s.nd.st.num 8⟩,⟨a2,k2,bigB (s.nd.data.length : Nat) 4⟩] = [1] ++ bigB s.nd.st.num 8 ++ bigB (s.nd.data.length : Nat) 4 := by simp [Zbd]
   simp only; rw [hjl,← hj]
   exact hS.took
  repeat (first|(refine Zbj ?_;first|refine Za8 rfl rfl ?_))
  refine Zan _ rfl rfl rfl rfl rfl (Zof (s.nd.data.length : Nat) 4 (by omega) _) ?_
  rintro _ w ⟨a2,k2,rfl,hk2,hS'⟩
  replace hS := hS.plus hS'
  clear hS'
  repeat (first|(refine X_id ?_;first|refine Za6 rfl rfl rfl rfl rfl rfl rfl rfl hS (fun _ _ hS _ => ?_))|(refine Zbj ?_;first|refine Za8 rfl rfl ?_)|(refine Za5 ?_;first|refine And.intro (by repeat (first|exact trivial|refine And.intro (.inl (by decide +kernel)) ?_|refine And.intro (.inr (by first|assumption|exact hS.cell|exact Zal (by assumption)|exact hS.cellI (by omega)|exact hS.cellIP (by omega)|exact hS.cellsN|exact ((hr.rd hS).cellX (by omega) hx)|exact hS.cellB (by omega)|exact hS.cellBA (by omega)|exact ((hr.rd hS).cellF (by first|omega|(dsimp only;omega)) hx)|exact hS.cellO 0 (by omega)|exact hS.cellO 1 (by omega)|exact hS.cellIA (by omega)|exact Zal (hc.rd hS).pts|exact hS.cellO 4 (by omega)|exact hS.cellO 5 (by omega)|exact hS.cellO 6 (by omega)|exact hS.cellO 7 (by omega)|exact hS.cellO 8 (by omega)|exact hS.cellO 9 (by omega)|exact hS.cellO 10 (by omega)|exact hS.cellO 11 (by omega)|exact hS.cellO 12 (by omega)|exact hS.cellO 13 (by omega)|exact hS.cellO 2 (by omega)|exact hS.cellO 3 (by omega))) ?_)) ?_))
  rename_i b0 _ _ _ b3 w3 _
  have hB := Bss.ofRd (w := w3) (a := some ⟨b3,0,none⟩) (l := [⟨some ⟨b0,0,none⟩,1,[1]⟩,⟨a1,k1,bigB s.nd.st.num 8⟩,⟨a2,k2,bigB (s.nd.data.length : Nat) 4⟩])
   (by simpa [Bs.val,Za0] using hS.ownRd (a := some ⟨b3,0,none⟩)) (fun x hx => by
    simp only [List.mem_cons,List.not_mem_nil,or_false] at hx
    rcases hx with rfl | rfl | rfl
    ·exact hS.ownRd
    ·exact hS.ownRd
    ·exact hS.ownRd)
  refine Zan _ rfl rfl rfl rfl rfl (Zl1 _ 3 _ _ hB (by simp) (by simp [Zbd,Za0])) ?_
  rintro _ w ⟨a',c',rfl,hc',hS'⟩
  replace hS := (hS.plus hS')
  repeat (first|(refine Zbj ?_;first|refine Zbw ?_|refine Zag rfl rfl (fun _ => Zac rfl rfl) rfl rfl ?_)|(refine Za5 ?_;first|refine And.intro (by repeat (first|exact trivial|refine And.intro (.inl (by decide +kernel)) ?_|refine And.intro (.inr (by first|assumption|exact hS.cell|exact Zal (by assumption)|exact hS.cellI (by omega)|exact hS.cellIP (by omega)|exact hS.cellsN|exact ((hr.rd hS).cellX (by omega) hx)|exact hS.cellB (by omega)|exact hS.cellBA (by omega)|exact ((hr.rd hS).cellF (by first|omega|(dsimp only;omega)) hx)|exact hS.cellO 0 (by omega)|exact hS.cellO 1 (by omega)|exact hS.cellIA (by omega)|exact Zal (hc.rd hS).pts|exact hS.cellO 4 (by omega)|exact hS.cellO 5 (by omega)|exact hS.cellO 6 (by omega)|exact hS.cellO 7 (by omega)|exact hS.cellO 8 (by omega)|exact hS.cellO 9 (by omega)|exact hS.cellO 10 (by omega)|exact hS.cellO 11 (by omega)|exact hS.cellO 12 (by omega)|exact hS.cellO 13 (by omega)|exact hS.cellO 2 (by omega)|exact hS.cellO 3 (by omega))) ?_)) ?_))
  refine Ziz (a',c') ⟨rfl,by simp only; rw [hjl]; simp [Zbd,Za0,look],trivial⟩ ⟨by simp only; rw [hjl]; simpa [Zbd,Za0] using hc',?_⟩
  have hj : Zbd [⟨some ⟨b0,0,none⟩,1,[1]⟩,⟨a1,k1,bigB s.nd.st.num 8⟩,⟨a2,k2,bigB (s.nd.data.length : Nat) 4⟩] = [1] ++ bigB s.nd.st.num 8 ++ bigB (s.nd.data.length : Nat) 4 := by simp [Zbd]
  simp only; rw [hjl,← hj]
  exact hS.took
 ·clear hS
  rintro ⟨a1,c1⟩ w ⟨hc1,hS⟩
  simp only at hc1 hS ⊢
  repeat (first|(refine G_id ?_;first|refine Zah ?_|refine Zab rfl rfl ?_)|(refine X_id ?_;first|refine X_yl (Zad rfl rfl) rfl rfl ?_|refine X_yl (Zaf rfl rfl rfl) rfl rfl ?_|refine X_yl (Zbt rfl rfl) rfl rfl ?_|refine X_yl (Zao rfl rfl hS.cell) rfl rfl ?_)|(refine C_id ?_;first|refine Zak ?_|refine Zaa ?_|refine Zaq ?_)|(refine E_id ?_;first|refine Zae ?_))
  refine Zb7 (α := Nat × Option Addr × Nat) (fun z => [(3,.slice z.2.1 (Zez s z.1).length z.2.2),(20,.slice ba s.blocks.length bc),(21,.int .i64 (s.blocks.length : Nat)),(22,.int .i64 (z.1 : Nat))])
   (fun z w => z.1 ≤ s.blocks.length ∧ (Zez s z.1).length ≤ z.2.2 ∧ St W noF [own 5 1 z.2.1 z.2.2 (bv (Zez s z.1))] w) (fun z => s.blocks.length - z.1) (0,a1,c1) ⟨rfl,rfl,rfl,rfl,trivial⟩ ⟨Nat.zero_le _,hc1,hS.pick [0]⟩ ?_
  clear hS
  rintro ⟨i,a2,c2⟩ w ⟨hi,hc,hS⟩
  simp only at hi hc hS ⊢
  have hbl := Zop s i
  by_cases hlt : i < s.blocks.length
  ·have hx0 : s.blocks[i]? = some s.blocks[i] := List.getElem?_eq_getElem hlt
   generalize s.blocks[i] = b at hx0
   have hsu := Zrn hx0
   have hr := hbr
   have hx : (ints .i64 s.blocks)[i]? = some (.int .i64 b) := by simp [ints,hx0]
   obtain ⟨xb,xo,rfl⟩ := (hr.rd hS).base (by intro e; rw [e] at hx; simp at hx)
   repeat (first|(refine G_id ?_;first|refine Zah ?_|refine Zab rfl rfl ?_)|(refine X_id ?_;first|refine X_yl (Zad rfl rfl) rfl rfl ?_|refine X_yl (Zac rfl rfl) rfl rfl ?_|refine X_yl (Za3 rfl rfl rfl (by omega)) rfl rfl ?_|refine X_yl (Zau rfl rfl rfl (by omega) (by omega) (by first|assumption|exact ⟨_,_,rfl⟩)) rfl rfl ?_|refine X_yl (Zao rfl rfl ((hr.rd hS).cellX (by omega) hx)) rfl rfl ?_)|(refine C_id ?_;first|refine Zak ?_|refine Zaa ?_|refine Zaq ?_|refine Zaw ?_|refine Zam rfl ?_)|(refine E_id ?_;first|refine Zae ?_))
   refine Zan _ rfl rfl rfl rfl rfl (Zof b 4 (by omega) _) ?_
   rintro _ w ⟨a3,k3,rfl,hk3,hS'⟩
   replace hS := hS.plus hS'
   clear hS'
   repeat (first|(refine G_id ?_;first|refine Zab rfl rfl ?_))
   refine Zc4 rfl rfl rfl rfl rfl hS (by simp) hc (hS.ownRd (a := a3)) (by simp [Za0]) Zfm (by omega) (by simp only [maxLen]; omega) (fun a' c' w hS hc' _ => ?_)
   repeat (first|(refine G_id ?_;first|refine Zah ?_|refine Zab rfl rfl ?_)|(refine X_id ?_;first|refine X_yl (Zad rfl rfl) rfl rfl ?_|refine X_yl (Zac rfl rfl) rfl rfl ?_|refine X_yl (Zbk rfl rfl rfl (w64 (by omega) (by omega))) rfl rfl ?_)|(refine C_id ?_;first|refine Zaa ?_)|(refine E_id ?_;first|refine Zae ?_|refine Zbf ?_))
   refine Zbu (z := (i,a2,c2)) (i + 1,a',c') ⟨?_,rfl,rfl,rfl,trivial⟩ ⟨by simp only; omega,by simp only; rw [hsu]; simp [Za0]; omega,?_⟩ (by simp only; omega)
   ·simp only
    rw [hsu]; simp only [List.length_append,Za0]; rfl
   ·simp only
    rw [hsu,Zf3]
    exact hS.took
  ·obtain rfl : i = s.blocks.length := by omega
   repeat (first|(refine G_id ?_;first|refine Zah ?_|refine Zab rfl rfl ?_)|(refine X_id ?_;first|refine X_yl (Zad rfl rfl) rfl rfl ?_|refine X_yl (Za7 rfl rfl rfl (by omega)) rfl rfl ?_)|(refine C_id ?_;first|refine Zak ?_|refine Zaa ?_|refine Zb0 ?_|refine Zaj rfl ?_)|(refine E_id ?_;first|refine Zae ?_|refine Zav ?_|refine Zaz ?_))
   refine Zan _ rfl rfl rfl rfl rfl (Zoi a2 c2 (Zez s s.blocks.length) _ hS.ownRd) ?_
   rintro _ w ⟨p,rfl,hS'⟩
   replace hS := hS.plus hS'
   clear hS'
   repeat (first|(refine G_id ?_;first|refine Zah ?_|refine Zab rfl rfl ?_)|(refine X_id ?_;first|refine X_yl (Zac rfl rfl) rfl rfl ?_)|(refine C_id ?_;first|refine Za2 ?_)|(refine E_id ?_;first|refine Zae ?_|refine Zax rfl (Zap rfl) (Ret.mk ?_)))
   refine ⟨p,rfl,?_⟩
   have h := hS.pick [0]
   rw [bodyTo_all] at h
   exact h
abbrev tabCells (lp n r : Nat) : List Value := [.pointer (some ⟨lp,0,none⟩),.int .i64 (n : Nat),.map (some r)]
abbrev Zi1 (tp lp n r : Nat) : Res := pts tp (.cells (tabCells lp n r).toArray 240)
theorem tblock_ (tp lp n r : Nat) (b : Int) (W : World) (hT : Rd W (Zi1 tp lp n r)) (hn : n ≤ 1048576) (hb : 0 ≤ b) (hb1 : b ≤ 1048576) :
  Calls Tryz.prog 180 #[.pointer (some ⟨tp,0,none⟩),.int .i64 b] W (Ret fun v w => v = .int .i64 (1 + (n : Int) + b) ∧ W = w) := by
 have hc := hT.pts
 have hS := St.start W
 refine Zas Tryz.func180 rfl Tryz.ntmps180 rfl ?_
 repeat (first|(refine G_id ?_;first|refine Zah ?_|refine Zab rfl rfl ?_)|(refine X_id ?_;first|refine X_yl (Zad rfl rfl) rfl rfl ?_|refine X_yl (Zac rfl rfl) rfl rfl ?_|refine X_yl (Zai rfl rfl) rfl rfl ?_|refine X_yl (Zaf rfl rfl rfl) rfl rfl ?_|refine X_yl (Zbk rfl rfl rfl (w64 (by omega) (by omega))) rfl rfl ?_|refine X_yl (Zao rfl rfl (Zal (by assumption))) rfl rfl ?_)|(refine C_id ?_;first|refine Zak ?_|refine Zaa ?_|refine Za2 ?_)|(refine E_id ?_;first|refine Zae ?_|refine Zax rfl (Zap rfl) (Ret.mk ?_)))
 exact ⟨rfl,rfl⟩
theorem tblocks_ (tp lp n r p j m nb : Nat) (dat : List (List UInt8)) (W : World) (hT : Rd W (Zi1 tp lp n r)) (hq : Rd W (qlog lp p j m dat)) (hd : dat.length = 1 + n + nb) :
  Calls Tryz.prog 214 #[.pointer (some ⟨tp,0,none⟩)] W (Ret fun v w => v = .int .i64 (nb : Nat) ∧ St W noF [] w) := by
 have hTo := hT.ro
 have hqo := hq.ro
 have hql := (qlen hq).1
 have hS := St.start W
 have e : (dat.length : Int) - 1 - (n : Nat) = (nb : Nat) := by omega
 rw [← e]
 refine Zas Tryz.func214 rfl Tryz.ntmps214 rfl ?_
 repeat (first|(refine G_id ?_;first|refine Zah ?_|refine Zab rfl rfl ?_)|(refine X_id ?_;first|refine X_yl (Zac rfl rfl) rfl rfl ?_)|(refine C_id ?_;first|refine Zak ?_|refine Zaa ?_)|(refine E_id ?_;first|refine Zae ?_))
 refine Zci (.s 0 (.s 1 (.s 2 (.s 3 (.s 6 (.s 7 (.s 8 (.s 9 (.h 4 (.s 5 (.s 10 (.s 11 .nil))) .no))))))))) mixed (by kernel_rfl) rfl ?_
 have hS := hS.drew
 have hc := hTo
 repeat (first|(refine X_id ?_;first|(refine Zbm 165 rfl rfl rfl rfl rfl hS (Zph lp p j m dat _ (hqo.rd hS)) ?_;rintro _ _ rfl hS))|(refine C_id ?_;first|refine Za2 ?_)|(refine E_id ?_;first|refine Zae ?_|refine Zax rfl (Zap rfl) (Ret.mk ?_))|(refine Zbj ?_;first|refine Zbw ?_|refine Zag rfl rfl (fun _ => Zad rfl rfl) rfl rfl ?_|refine Zag rfl rfl (fun _ => Zac rfl rfl) rfl rfl ?_|refine Zag rfl rfl (fun _ => Zai rfl rfl) rfl rfl ?_|refine Zag rfl rfl (fun _ => Zaf rfl rfl rfl) rfl rfl ?_|refine Zag rfl rfl (fun _ => Zdn rfl rfl rfl (w64 (by omega) (by omega))) rfl rfl ?_|refine Za8 rfl rfl ?_|refine Zbi (fun w' => w'.cell? _ = some _) rfl rfl (Zal (hc.rd hS).pts) (fun _ hc => Zao rfl rfl hc) rfl rfl ?_)|(refine Za5 ?_;first|refine And.intro (by repeat (first|exact trivial|refine And.intro (.inl (by decide +kernel)) ?_|refine And.intro (.inr (by first|assumption|exact hS.cell|exact Zal (by assumption)|exact hS.cellI (by omega)|exact hS.cellIP (by omega)|exact hS.cellsN|exact hS.cellB (by omega)|exact hS.cellBA (by omega)|exact hS.cellO 0 (by omega)|exact hS.cellO 1 (by omega)|exact hS.cellIA (by omega)|exact Zal (hc.rd hS).pts|exact hS.cellO 4 (by omega)|exact hS.cellO 5 (by omega)|exact hS.cellO 6 (by omega)|exact hS.cellO 7 (by omega)|exact hS.cellO 8 (by omega)|exact hS.cellO 9 (by omega)|exact hS.cellO 10 (by omega)|exact hS.cellO 11 (by omega)|exact hS.cellO 12 (by omega)|exact hS.cellO 13 (by omega)|exact hS.cellO 2 (by omega)|exact hS.cellO 3 (by omega))) ?_)) ?_))
 exact ⟨rfl,hS⟩
theorem may_ (lp p j m n : Nat) (dat : List (List UInt8)) (W : World) (hq : Rd W (qlog lp p j m dat)) (h1 : 1 ≤ n) (h2 : n ≤ 400) (h3 : n + 2 ≤ dat.length) :
  Calls Tryz.prog 117 #[.pointer (some ⟨lp,0,none⟩),.int .i64 (n : Nat)] W (Ret fun v w => v = .bool true ∧ St W noF [] w) := by
 have hqo := hq.ro
 have hql := (qlen hq).1
 have hS := St.start W
 refine Zas Tryz.func117 rfl Tryz.ntmps117 rfl ?_
 repeat (first|(refine G_id ?_;first|refine Zah ?_|refine Zab rfl rfl ?_|refine Zcu rfl rfl rfl rfl ?_)|(refine X_id ?_;first|(refine Zbm 165 rfl rfl rfl rfl rfl hS (Zph lp p j m dat _ (hqo.rd hS)) ?_;rintro _ _ rfl hS)|refine X_yl (Zad rfl rfl) rfl rfl ?_|refine X_yl (Zac rfl rfl) rfl rfl ?_|refine X_yl (Zbr rfl rfl rfl) rfl rfl ?_|refine X_yl (Ztd rfl rfl rfl (by omega)) rfl rfl ?_|refine X_yl (Zda rfl rfl rfl (by omega)) rfl rfl ?_|refine X_yl (Zbk rfl rfl rfl (w64 (by omega) (by omega))) rfl rfl ?_)|(refine C_id ?_;first|refine Zak ?_|refine Zaa ?_|refine Za2 ?_)|(refine E_id ?_;first|refine Zae ?_|refine Zax rfl (Zap rfl) (Ret.mk ?_)))
 exact ⟨rfl,hS⟩
end Cr
namespace Cr
open Go Go.Proofs
set_option maxRecDepth 100000
set_option maxHeartbeats 8000000
attribute [local irreducible] Calls

theorem tfront_ (n : Nat) (rd fs : List Int) (W : World) (hG : Gl W noF rd fs) :
  Calls Tryz.prog 122 #[.int .i64 (n : Nat)] W (Ret fun v w => ∃ p,v = .slice (some ⟨p,0,none⟩) 64 64 ∧ St W noF [bytes (some ⟨p,0,none⟩) (Zdw rd fs n)] w) := by
 have hS := St.start W
 have hcl : [Value.int .u8 67,.int .u8 82,.int .u8 69,.int .u8 69,.int .u8 76] = bv Zfg := rfl
 refine Zas Tryz.func122 rfl Tryz.ntmps122 rfl ?_
 repeat (first|(refine G_id ?_;first|refine Zah ?_|refine Zab rfl rfl ?_)|(refine X_id ?_;first|refine X_yl (Zad rfl rfl) rfl rfl ?_|refine X_yl (Zac rfl rfl) rfl rfl ?_)|(refine C_id ?_;first|refine Zak ?_|refine Zaa ?_)|(refine E_id ?_;first|refine Zae ?_))
 refine Zan _ rfl rfl rfl rfl rfl (Zof (n : Nat) 4 (by omega) _) ?_
 rintro _ w ⟨a1,k1,rfl,hk1,hS'⟩
 replace hS := hS.plus hS'
 clear hS'
 repeat (first|(refine G_id ?_;first|refine Zah ?_|refine Zab rfl rfl ?_)|(refine X_id ?_;first|refine X_yl (Zac rfl rfl) rfl rfl ?_|refine Za6 rfl rfl rfl rfl rfl rfl rfl rfl hS (fun _ _ hS _ => ?_))|(refine C_id ?_;first|refine Zak ?_|refine Zaa ?_)|(refine E_id ?_;first|refine Zae ?_))
 rename_i b0 _ _
 refine Zjj rfl rfl rfl rfl hS (by simp) (fun w hS => ?_)
 repeat (first|(refine G_id ?_;first|refine Zab rfl rfl ?_)|(refine X_id ?_;first|refine X_yl (Zad rfl rfl) rfl rfl ?_|refine Za6 rfl rfl rfl rfl rfl rfl rfl rfl hS (fun _ _ hS _ => ?_)))
 rename_i b1 w1 _
 have hB := Bss.ofRd (w := w1) (a := some ⟨b1,0,none⟩) (l := [⟨some ⟨b0,0,none⟩,5,Zfg⟩,⟨a1,k1,bigB (n : Nat) 4⟩]) (by simpa [Bs.val,Za0,Zfg] using hS.ownRd (a := some ⟨b1,0,none⟩)) (fun x hx => by
  simp only [List.mem_cons,List.not_mem_nil,or_false] at hx
  rcases hx with rfl | rfl
  ·exact hS.rd (by simp [bytes,← hcl])
  ·exact hS.ownRd)
 have hfl : (Zcv (Zbs [⟨some ⟨b0,0,none⟩,5,Zfg⟩,⟨a1,k1,bigB (n : Nat) 4⟩])).length < 1152921504606846976 := by simp [Zcv,Zbs,Zc7,Za0,Zfg]
 have hl32 : LenO (bv (digest rd fs (Zbs [⟨some ⟨b0,0,none⟩,5,Zfg⟩,⟨a1,k1,bigB (n : Nat) 4⟩]))) 32 := ⟨by rw [Za4]; exact Zb2 _ _ _⟩
 refine Zbm _ rfl rfl rfl rfl rfl hS (Zlv _ 2 _ rd fs _ hfl (by simp) (hG.mono fun r hr => (hr.rd hS).ro) hB) ?_
 rintro _ w rfl hS
 clear hB hfl
 repeat (first|(refine G_id ?_;first|refine Zah ?_|refine Zab rfl rfl ?_)|(refine X_id ?_;first|refine Za1 rfl rfl rfl rfl hS (fun _ hS _ => ?_)|refine Zbe rfl rfl rfl hS (fun _ _ hS _ => ?_)|refine Za6 rfl rfl rfl rfl rfl rfl rfl rfl hS (fun _ _ hS _ => ?_))|(refine C_id ?_;first|refine Zak ?_|refine Zaa ?_)|(refine E_id ?_;first|refine Zae ?_))
 rename_i b2 _ _ _ _ _ _ b4 _ _
 refine Zjj rfl rfl rfl rfl hS (by simp) (fun w hS => ?_)
 repeat (first|(refine G_id ?_;first|refine Zab rfl rfl ?_)|(refine X_id ?_;first|refine X_yl (Zad rfl rfl) rfl rfl ?_|refine X_yl (Zcq rfl rfl) rfl rfl ?_|refine Za6 rfl rfl rfl rfl rfl rfl rfl rfl hS (fun _ _ hS _ => ?_)))
 rename_i b6 w6 _
 have hB := Bss.ofRd (w := w6) (a := some ⟨b6,0,none⟩) (l := [⟨some ⟨b4,0,none⟩,5,Zfg⟩,⟨a1,k1,bigB (n : Nat) 4⟩,⟨some ⟨b2,0,none⟩,32,digest rd fs [Zfg,bigB (n : Nat) 4]⟩]) (by simpa [Bs.val,Za0,Zfg,Zb2] using hS.ownRd (a := some ⟨b6,0,none⟩)) (fun x hx => by
  simp only [List.mem_cons,List.not_mem_nil,or_false] at hx
  rcases hx with rfl | rfl | rfl
  ·exact hS.rd (by simp [bytes,← hcl])
  ·exact hS.ownRd
  ·exact (hS.rd (r := pts b2 (.cells (bv (digest rd fs [Zfg,bigB (n : Nat) 4])).toArray 23)) (by simp [Zbs])).ptsB (T := 23))
 refine Zan _ rfl rfl rfl rfl rfl (Zl1 _ 3 _ _ hB (by simp) (by simp [Zbd,Za0,Zb2,Zfg])) ?_
 rintro _ w ⟨a',c',rfl,hc',hS'⟩
 replace hS := hS.plus hS'
 clear hS' hB
 repeat (first|(refine G_id ?_;first|refine Zab rfl rfl ?_))
 refine Zan _ rfl rfl rfl rfl rfl (Zoi a' c' (Zbd [⟨some ⟨b4,0,none⟩,5,Zfg⟩,⟨a1,k1,bigB (n : Nat) 4⟩,⟨some ⟨b2,0,none⟩,32,digest rd fs [Zfg,bigB (n : Nat) 4]⟩]) _ hS.ownRd) ?_
 rintro _ w ⟨p,rfl,hS'⟩
 replace hS := hS.plus hS'
 clear hS'
 repeat (first|(refine G_id ?_;first|refine Zah ?_|refine Zab rfl rfl ?_)|(refine X_id ?_;first|refine X_yl (Zac rfl rfl) rfl rfl ?_)|(refine C_id ?_;first|refine Za2 ?_)|(refine E_id ?_;first|refine Zae ?_|refine Zax rfl (Zap rfl) (Ret.mk ?_)))
 refine ⟨p,rfl,?_⟩
 have h := hS.pick [0]
 unfold Zdw
 simpa [Zbd] using h
end Cr
namespace Cr
open Go Go.Proofs
set_option maxRecDepth 100000
set_option maxHeartbeats 4000000
attribute [local irreducible] Calls

theorem Zrp (a : Option Addr) (n c : Nat) (s : List UInt8) (W : World) (hs : Rd W (bytes a s)) (hn : s.length = n) (hlim : n ≤ 1073741824) :
  Calls Tryz.prog 41 #[.slice a n c] W (Ret fun v w => ∃ a' c',v = .slice a' n c' ∧ (a' = none ↔ a = none) ∧ n ≤ c' ∧ St W noF [own 5 1 a' c' (bv s)] w) := by
 have hS := St.start W
 cases a with
 | none =>
  have h0 : bv s = [] := hs.none_nil
  obtain rfl : n = 0 := by rw [← hn,← Za4 s,h0]; rfl
  refine Zas Tryz.func41 rfl Tryz.ntmps41 rfl ?_
  repeat (first|(refine G_id ?_;first|refine Zah ?_|refine Zab rfl rfl ?_)|(refine X_id ?_;first|refine X_yl (Zad rfl rfl) rfl rfl ?_|refine X_yl (Zac rfl rfl) rfl rfl ?_|refine X_yl (Zcr rfl rfl rfl) rfl rfl ?_)|(refine C_id ?_;first|refine Zak ?_|refine Zaa ?_|refine Za2 ?_|refine Zam rfl ?_)|(refine E_id ?_;first|refine Zae ?_|refine Zat ?_|refine Zax rfl (Zap rfl) (Ret.mk ?_)))
  refine ⟨none,0,rfl,by simp,by omega,?_⟩
  rw [h0]
  exact hS.own_none _ _ _
 | some ad =>
  refine Zas Tryz.func41 rfl Tryz.ntmps41 rfl ?_
  repeat (first|(refine G_id ?_;first|refine Zah ?_|refine Zab rfl rfl ?_)|(refine X_id ?_;first|refine X_yl (Zad rfl rfl) rfl rfl ?_|refine X_yl (Zac rfl rfl) rfl rfl ?_|refine X_yl (Zcr rfl rfl rfl) rfl rfl ?_|refine Za6 rfl rfl rfl rfl rfl rfl rfl rfl hS (fun _ _ hS _ => ?_))|(refine C_id ?_;first|refine Zak ?_|refine Zaa ?_|refine Zaw ?_|refine Zaj rfl ?_)|(refine E_id ?_;first|refine Zae ?_))
  rename_i b w hb
  have hs := hs.below hb
  repeat (first|fail)
  refine Zc4 rfl rfl rfl rfl rfl hS rfl (by omega) hs (by simp [hn]) Zfm (by omega) (by simp only [maxLen]; omega) (fun a' c' w hS hc hnil => ?_)
  repeat (first|(refine G_id ?_;first|refine Zah ?_|refine Zab rfl rfl ?_)|(refine X_id ?_;first|refine X_yl (Zac rfl rfl) rfl rfl ?_)|(refine C_id ?_;first|refine Za2 ?_)|(refine E_id ?_;first|refine Zae ?_|refine Zax rfl (Zap rfl) (Ret.mk ?_)))
  refine ⟨a',c',by rw [Nat.zero_add],by rw [hnil]; simp,by omega,hS⟩
end Cr
namespace Cr
open Go Go.MapKept
set_option maxRecDepth 10000

structure StampOk (es : Array MapEntry) (clock : Nat) : Prop where
 low : ∀ e ∈ es.toList,e.born < clock
 apart : (es.toList.map (·.born)).Nodup
def kvs (es : Array MapEntry) : List (Value × Value) := es.toList.map fun e => (e.key,e.val)
def mapq {α : Type} (mk : α → Value) (r : Nat) (L : List (α × Value)) : Res := fun h => ∃ (es : Array MapEntry) (clock : Nat),kvs es = L.map (fun x => (mk x.1,x.2)) ∧ StampOk es clock ∧ pts r (.map es clock) h
section
variable {α : Type}
theorem St.openMap {W : World} {F : Nat → Prop} {mk : α → Value} {r : Nat} {L : List (α × Value)} {rs : List Res} {w : World} (hS : St W F (mapq mk r L :: rs) w) : ∃ es clock,kvs es = L.map (fun x => (mk x.1,x.2)) ∧ StampOk es clock ∧ St W F (pts r (.map es clock) :: rs) w := by
 obtain ⟨h,⟨h1,h2,⟨es,clock,a,b,hp⟩,hs,hd,hu⟩,s⟩ := hS
 exact ⟨es,clock,a,b,h,⟨h1,h2,hp,hs,hd,hu⟩,s⟩
theorem Ro.openMap {W : World} {F : Nat → Prop} {mk : α → Value} {r : Nat} {L : List (α × Value)} (H : Ro W F (mapq mk r L)) : ∃ es clock,kvs es = L.map (fun x => (mk x.1,x.2)) ∧ StampOk es clock ∧ Ro W F (pts r (.map es clock)) := by
 obtain ⟨h,⟨es,clock,a,b,hp⟩,ha⟩ := H
 exact ⟨es,clock,a,b,h,hp,ha⟩
theorem Rd.openMap {w : World} {mk : α → Value} {r : Nat} {L : List (α × Value)} (H : Rd w (mapq mk r L)) : ∃ es clock,kvs es = L.map (fun x => (mk x.1,x.2)) ∧ StampOk es clock ∧ Rd w (Cr.pts r (.map es clock)) := by
 obtain ⟨h,⟨es,clock,a,b,hp⟩,ha⟩ := H
 exact ⟨es,clock,a,b,h,hp,ha⟩
theorem Rd.mapq_r {w : World} {mk : α → Value} {r : Nat} {L : List (α × Value)} (H : Rd w (mapq mk r L)) : Rd w (mapr mk r L) := by
 obtain ⟨h,⟨es,clock,a,b,hp⟩,ha⟩ := H
 exact ⟨h,⟨es,clock,a,hp⟩,ha⟩
end
def delM {α : Type} [DecidableEq α] (k : α) : List (α × Value) → List (α × Value)
 | [] => []
 | x :: l => if k = x.1 then l else x :: delM k l
section
variable {α : Type} [DecidableEq α]
theorem Zlx {d : TypeDesc} {mk : α → Value} [hk : Key d mk] (k : α) : ∀ (L : List (α × Value)) (es : List MapEntry) (i : Nat),es.map (fun e => (e.key,e.val)) = L.map (fun x => (mk x.1,x.2)) →
  (Instr.findNow d (mk k) es i = some none ∧ delM k L = L) ∨ ∃ j v,Instr.findNow d (mk k) es i = some (some (j,v)) ∧ i ≤ j ∧ j - i < es.length ∧ (es.eraseIdx (j - i)).map (fun e => (e.key,e.val)) = (delM k L).map (fun x => (mk x.1,x.2))
 | [],[],i,_ => .inl ⟨rfl,rfl⟩
 | [],_ :: _,_,h => by simp at h
 | _ :: _,[],_,h => by simp at h
 | x :: L,e :: es,i,h => by
  simp only [List.map_cons,List.cons.injEq,Prod.mk.injEq] at h
  obtain ⟨⟨h1,h2⟩,h3⟩ := h
  unfold Instr.findNow delM
  rw [h1,hk.same]
  by_cases hkx : k = x.1
  ·right
   exact ⟨i,e.val,by simp [hkx],Nat.le_refl _,by simp,by simp [hkx,h3]⟩
  ·rcases Zlx (d := d) k L es (i + 1) h3 with ⟨g1,g2⟩ | ⟨j,v,g1,g2,g4,g3⟩
   ·left
    exact ⟨by simp [hkx,g1],by simp [hkx,g2]⟩
   ·right
    have e1 : j - i = (j - (i + 1)) + 1 := by omega
    refine ⟨j,v,by simp [hkx,g1],by omega,by simp; omega,?_⟩
    rw [e1,List.eraseIdx_cons_succ,List.map_cons,g3,if_neg hkx,h1,h2]
    rfl
variable {P : Program} {o : Oper} {σ : Env} {w : World} {x y : Operand} {t kt et : TypeId} {N : Nat} {ds : Md} {K : Env → World → Prop} {mk : α → Value} {dd : TypeDesc}
theorem Zno {β : Type} {d : Nat} {W : World} {F : Nat → Prop} {rs : List Res} (mk : β → Value) (ho : o.op = .makeMap t none) (hd : o.dst = some d) (hN : Nat.blt d N = true) (hS : St W F rs w)
  (hk : ∀ r w',St W F (mapq mk r [] :: rs) w' → K ((d,.map (some r)) :: σ) w') : X P o N ds σ w K := ⟨fun f ha K' Q' hK => by
 unfold Oper.wp
 have hexec : (execOp f.eval o).run P w = .ok (.value (.map (some w.heap.size))) (w.alloc (.map #[] 0)) := by
  have : (Instr.makeMap t none).run P w = .ok (.map (some w.heap.size)) (w.alloc (.map #[] 0)) := rfl
  simp [execOp,ho,this]
 rw [hexec]
 have := hK _ _ _ (ha.put (Zbp hN) (.map (some w.heap.size))) (hk w.heap.size _ ((hS.alloc (.map #[] 0)).head fun h hh => ⟨#[],0,rfl,⟨by simp,by simp⟩,hh⟩))
 rw [← hd] at this
 exact this⟩
theorem Zmg {r : Nat} {L : List (α × Value)} {k : α} {z : Value} {n m : Nat} (ho : o.op = .lookup t x y true) (hx : ev σ x = some (.map (some r))) (hy : ev σ y = some (mk k)) [hu : Und P t (.map kt et)] [hkt : Und P kt dd] [hK : Key dd mk] [hi : Inf P et z n m]
  (hr : Rd w (mapr mk r L)) : Yl P o σ w (.tuple #[(getM k L).getD z,.bool (getM k L).isSome]) := ⟨fun N ds f ha => by
 obtain ⟨h,⟨es,clock,hes,rfl⟩,hag⟩ := hr
 have hb : w.heap[r]? = some (.map es clock) := hag r _ (Zbz _ _)
 obtain ⟨q,g1,g2,_⟩ := Zfe (hk := hK) k L es.toList 0 hes
 obtain ⟨i,hi',hz',_⟩ := info_parts hi.inf
 have hc := run_checkKey (P := P) (w := w) hkt.und (hK.isKey k) es.isEmpty 9999
 have hf := run_findKey (P := P) (w := w) hkt.und g1
 have hg : (getObj r).run P w = .ok (.map es clock) w := by simp [getObj,Sem.run,hb]
 simp only [execOp,ho,ha.eval hx,ha.eval hy,Instr.lookup,Sem.run_bind,run_underlying hu.und,hg,hc,hf,Result.andThen_ok,Sem.run_pure]
 rw [← g2]
 cases q <;> simp [zeroValue,typeInfo,hi',hz']⟩
theorem Ztn {es : Array MapEntry} {clock : Nat} (h : StampOk es clock) (k v : Value) : StampOk (es.push { key := k,val := v,born := clock }) (clock + 1) := by
 refine ⟨fun e he => ?_,?_⟩
 ·simp only [Array.toList_push,List.mem_append,List.mem_singleton] at he
  rcases he with he | rfl
  ·have := h.low e he; omega
  ·exact Nat.lt_succ_self _
 ·rw [Array.toList_push,List.map_append,List.nodup_append]
  refine ⟨h.apart,by simp,fun a ha b hb => ?_⟩
  obtain ⟨e,he,rfl⟩ := List.mem_map.1 ha
  have := h.low e he
  simp at hb
  omega
theorem Zo8 {es : Array MapEntry} {clock : Nat} (h : StampOk es clock) (j : Nat) (f : MapEntry → MapEntry) (hf : ∀ e,(f e).born = e.born) : StampOk (es.modify j f) clock := by
 have e1 : (es.modify j f).toList.map (·.born) = es.toList.map (·.born) := by
  rw [Array.toList_modify]
  generalize es.toList = l
  induction l generalizing j with
  | nil => simp
  | cons x l ih =>
   cases j with
   | zero => simp [hf]
   | succ j => simp [ih]
 refine ⟨fun e he => ?_,by rw [e1]; exact h.apart⟩
 have : e.born ∈ (es.modify j f).toList.map (·.born) := List.mem_map.2 ⟨e,he,rfl⟩
 rw [e1] at this
 obtain ⟨e',he',hb⟩ := List.mem_map.1 this
 rw [← hb]
 exact h.low e' he'
theorem Zqv {es : Array MapEntry} {clock : Nat} (h : StampOk es clock) (j : Nat) (hj : j < es.size) : StampOk (es.eraseIdx j hj) clock := by
 have hsub : (es.eraseIdx j hj).toList.Sublist es.toList := by rw [Array.toList_eraseIdx]; exact List.eraseIdx_sublist _ _
 exact ⟨fun e he => h.low e (hsub.subset he),h.apart.sublist (hsub.map _)⟩
theorem Zj8 {r : Nat} {L : List (α × Value)} {k : α} {v : Value} {W : World} {F : Nat → Prop} {rs : List Res} {z : Operand} (ho : o.op = .mapUpdate t x y z) (hx : ev σ x = some (.map (some r))) (hy : ev σ y = some (mk k)) (hz : ev σ z = some v) [hu : Und P t (.map kt et)] [hkt : Und P kt dd] [hK : Key dd mk]
  (hd : o.dst = none) (hS : St W F (mapq mk r L :: rs) w) (hk : ∀ w',St W F (mapq mk r (setM k v L) :: rs) w' → K σ w') : X P o N ds σ w K := ⟨fun f ha K' Q' hKK => by
 obtain ⟨es,clock,hes,hst,hS2⟩ := hS.openMap
 have hb : w.heap[r]? = some (.map es clock) := hS2.get
 obtain ⟨q,g1,g2,_⟩ := Zfe (hk := hK) k L es.toList 0 hes
 have hc := run_checkKey (P := P) (w := w) hkt.und (hK.isKey k) false 9999
 have hf := run_findKey (P := P) (w := w) hkt.und g1
 have hg : (getObj r).run P w = .ok (.map es clock) w := by simp [getObj,Sem.run,hb]
 have hset : ∀ o',(setObj r o').run P w = .ok () { w with heap := w.heap.setIfInBounds r o' } := fun o' => run_setObj_map o' hb
 unfold Oper.wp
 have key : ∃ es' clock',(execOp f.eval o).run P w = .ok .skip { w with heap := w.heap.setIfInBounds r (.map es' clock') } ∧ kvs es' = (setM k v L).map (fun x => (mk x.1,x.2)) ∧ StampOk es' clock' := by
  cases hq : q with
  | none =>
   subst hq
   refine ⟨es.push { key := mk k,val := v,born := clock },clock + 1,?_,?_,Ztn hst _ _⟩
   ·simp only [execOp,ho,ha.eval hx,ha.eval hy,ha.eval hz,Instr.mapUpdate,Sem.run_bind,run_underlying hu.und,hg,hc,hf,hset,Result.andThen_ok,Sem.run_pure]
   ·rw [Zk2 (by rw [← g2]; rfl)]
    have hes' : es.toList.map (fun e => (e.key,e.val)) = L.map (fun x => (mk x.1,x.2)) := hes
    simp [kvs,hes']
  | some p =>
   obtain ⟨j,u⟩ := p
   subst hq
   obtain ⟨g4,g5,g6⟩ := Zk1 (v := v) L es.toList 0 hes j u g1
   simp only [Nat.sub_zero] at g4 g6
   have hek : ((es[j]?).map (·.key)).getD (mk k) = mk k := by
    rw [← Array.getElem?_toList,g6]; rfl
   refine ⟨es.modify j fun e => { e with key := mk k,val := v },clock,?_,?_,Zo8 hst _ _ (fun _ => rfl)⟩
   ·simp only [execOp,ho,ha.eval hx,ha.eval hy,ha.eval hz,Instr.mapUpdate,Sem.run_bind,run_underlying hu.und,hg,hc,hf,hset,Result.andThen_ok,Sem.run_pure,hek,Instr.keyThatStays,hK.bits,if_true]
   ·simpa [kvs,Array.toList_modify] using g4
 obtain ⟨es',clock',hexec,hes',hst'⟩ := key
 rw [hexec]
 have u := Zcf (o' := .map es' clock') hb
 refine hKK _ _ _ (?_ : Fr σ N ds _) (hk _ ((hS2.set u).head fun h hh => ⟨es',clock',hes',hst',hh⟩))
 rw [hd]; exact ha⟩
end
/-! ### going through a map -/
def Zeo (es : Array MapEntry) (seen : Array Nat) : List MapEntry := es.toList.filter fun e => !seen.contains e.born
theorem Zln (es : Array MapEntry) : Zeo es #[] = es.toList := by simp [Zeo]
theorem Zii (e : MapEntry) : ∀ (l : List MapEntry),(l.map (·.born)).Nodup → e ∈ l → l.Perm (e :: l.filter fun x => !(x.born == e.born))
 | x :: l,hn,he => by
  have hn' : x.born ∉ l.map (·.born) ∧ (l.map (·.born)).Nodup := List.nodup_cons.1 hn
  by_cases hx : x.born = e.born
  ·rcases List.mem_cons.1 he with rfl | he
   ·have : l.filter (fun x => !(x.born == e.born)) = l := List.filter_eq_self.2 fun y hy => by
     have : y.born ≠ e.born := fun q => hn'.1 (by rw [← q]; exact List.mem_map.2 ⟨y,hy,rfl⟩)
     simpa using this
    rw [List.filter_cons_of_neg (by simp),this]
   ·exact absurd (show x.born ∈ l.map (·.born) by rw [hx]; exact List.mem_map.2 ⟨e,he,rfl⟩) hn'.1
  ·have he' : e ∈ l := (List.mem_cons.1 he).resolve_left fun q => hx (by rw [q])
   have ih := Zii e l hn'.2 he'
   rw [List.filter_cons_of_pos (by simpa using hx)]
   exact (ih.cons x).trans (.swap _ _ _)
theorem Zm7 {es : Array MapEntry} {clock : Nat} (h : StampOk es clock) {seen : Array Nat} {e : MapEntry} (he : e ∈ Zeo es seen) : (Zeo es seen).Perm (e :: Zeo es (seen.push e.born)) := by
 have hn : ((Zeo es seen).map (·.born)).Nodup := h.apart.sublist ((List.filter_sublist ..).map _)
 have h1 := Zii e _ hn he
 have h2 : Zeo es (seen.push e.born) = (Zeo es seen).filter fun x => !(x.born == e.born) := by
  unfold Zeo
  rw [List.filter_filter]
  refine List.filter_congr fun x _ => ?_
  have e3 : (x.born == e.born) = decide (x.born = e.born) := by by_cases h : x.born = e.born <;> simp [h]
  simp [e3,Bool.and_comm]
 rw [h2]
 exact h1
section
variable {P : Program} {o : Oper} {σ : Env} {w : World} {x y : Operand} {t kt et : TypeId} {N : Nat} {ds : Md} {K : Env → World → Prop}
theorem Zqx (w : World) (ty : TypeId) (it bm since c0 : Nat) (seen : Array Nat) (es : Array MapEntry) (clock : Nat) (hi : w.heap[it]? = some (.mapIter (some bm) since seen c0)) (hb : w.heap[bm]? = some (.map es clock)) (hold : ∀ x ∈ es.toList,x.born < since) (hsc : since ≤ c0) :
  (Zeo es seen = [] ∧ (Instr.next (.pointer (some ⟨it,0,none⟩)) false ty).run P w = .ok (.tuple #[.bool false]) w) ∨
  ∃ e ∈ Zeo es seen,∃ w1 : World,(w1 = w ∨ w1 = w.drew) ∧ (Instr.next (.pointer (some ⟨it,0,none⟩)) false ty).run P w = .ok (.tuple #[.bool true,e.key,e.val]) { w1 with heap := w1.heap.setIfInBounds it (.mapIter (some bm) since (seen.push e.born) clock) } := by
 simp only [Instr.next,getObj,Sem.run_bind,Sem.run,hi,hb,Result.andThen,next_test_false seen es since c0 hold hsc,Bool.false_eq_true,if_false]
 have hLe : Zeo es seen = (Array.filter (fun e => !seen.contains e.born) es).toList := by simp [Zeo]
 rw [hLe]
 have hmem : ∀ x ∈ (Array.filter (fun e => !seen.contains e.born) es).toList,x.born < since := fun x hx => hold x (by simp at hx ⊢; exact hx.1)
 generalize Array.filter (fun e => !seen.contains e.born) es = L at hmem ⊢
 have e1 : L.filter (fun x => decide (x.born < since)) = L := Array.filter_eq_self.2 (fun x hx => by simpa using hmem x (by simpa using hx))
 have e2 : L.filter (fun x => decide (x.born ≥ since)) = #[] := by
  rw [Array.filter_eq_empty_iff]
  intro x hx
  have := hmem x (by simpa using hx)
  simp
  omega
 simp only [e1,e2,Array.append_empty]
 by_cases h0 : L.size = 0
 ·left
  have : L = #[] := Array.eq_empty_of_size_eq_zero h0
  subst this
  refine ⟨rfl,?_⟩
  simp [choose,Sem.run,Question.forced]
 ·right
  have hne : L.isEmpty = false := by simp [Array.isEmpty,h0]
  simp only [hne,Bool.false_eq_true,if_false,Array.empty_append,Array.size_map]
  have hch : ∃ (j : Nat) (w1 : World),j < L.size ∧ (w1 = w ∨ w1 = w.drew) ∧ (choose (Question.mapNext L.size)).run P w = .ok j w1 := by
   by_cases hf : L.size ≤ 1
   ·exact ⟨0,w,by omega,.inl rfl,by simp [choose,Sem.run,Question.forced,hf]⟩
   ·exact ⟨_,w.drew,Nat.mod_lt _ (by omega),.inr rfl,by
     simp only [choose,Sem.run,Question.forced,decide_eq_true_eq,hf,if_false,Question.cut]
     rfl⟩
  obtain ⟨j,w1,hj,hal,hrun⟩ := hch
  refine ⟨L[j],by simp,w1,hal,?_⟩
  have hi1 : w1.heap[it]? = some (.mapIter (some bm) since seen c0) := by rcases hal with rfl | rfl <;> exact hi
  have hset : ∀ o' : Obj,(setObj it o').run P w1 = .ok () { w1 with heap := w1.heap.setIfInBounds it o' } := fun o' => by simp [setObj,Sem.run,hi1]
  simp only [hrun,Array.getElem?_map,Array.getElem?_eq_getElem hj,Option.map_some,Sem.run_bind,hset,Result.andThen]
  rfl
theorem Znn {bm d : Nat} {es : Array MapEntry} {clock : Nat} {W : World} {F : Nat → Prop} {rs : List Res} (ho : o.op = .range t x) (hx : ev σ x = some (.map (some bm))) [hu : Und P t (.map kt et)] (hm : Rd w (pts bm (.map es clock))) (hd : o.dst = some d) (hN : Nat.blt d N = true) (hS : St W F rs w)
  (hk : ∀ it w',St W F (pts it (.mapIter (some bm) clock #[] clock) :: rs) w' → RowKit.Below w.heap.size w w' → K ((d,.pointer (some ⟨it,0,none⟩)) :: σ) w') : X P o N ds σ w K := ⟨fun f ha K' Q' hK => by
 have hb : w.heap[bm]? = some (.map es clock) := by obtain ⟨h,rfl,hag⟩ := hm; exact hag bm _ (Zbz _ _)
 unfold Oper.wp
 have hexec : (execOp f.eval o).run P w = .ok (.value (.pointer (some ⟨w.heap.size,0,none⟩))) (w.alloc (.mapIter (some bm) clock #[] clock)) := by
  simp [execOp,ho,ha.eval hx,run_range_map w t kt et bm es clock hu.und hb]
 rw [hexec]
 have := hK _ _ _ (ha.put (Zbp hN) (.pointer (some ⟨w.heap.size,0,none⟩))) (hk w.heap.size _ (hS.alloc _) ((RowKit.Below.refl _ _).alloc (Nat.le_refl _) _))
 rw [← hd] at this
 exact this⟩
theorem Zqm {it bm d : Nat} {es : Array MapEntry} {clock : Nat} {seen : Array Nat} {W : World} {F : Nat → Prop} {rs : List Res} (ho : o.op = .next x false) (hx : ev σ x = some (.pointer (some ⟨it,0,none⟩))) (hst : StampOk es clock) (hm : Rd w (pts bm (.map es clock))) (hd : o.dst = some d) (hN : Nat.blt d N = true)
  (hS : St W F (pts it (.mapIter (some bm) clock seen clock) :: rs) w) (h0 : Zeo es seen = [] → K ((d,.tuple #[.bool false]) :: σ) w)
  (h1 : ∀ e,e ∈ Zeo es seen → ∀ w',St W F (pts it (.mapIter (some bm) clock (seen.push e.born) clock) :: rs) w' → K ((d,.tuple #[.bool true,e.key,e.val]) :: σ) w') : X P o N ds σ w K := ⟨fun f ha K' Q' hK => by
 have hb : w.heap[bm]? = some (.map es clock) := by obtain ⟨h,rfl,hag⟩ := hm; exact hag bm _ (Zbz _ _)
 have hi : w.heap[it]? = some (.mapIter (some bm) clock seen clock) := hS.get
 unfold Oper.wp
 rcases Zqx (P := P) w o.type it bm clock clock seen es clock hi hb hst.low (Nat.le_refl _) with ⟨g1,g2⟩ | ⟨e,he,w1,hw1,g2⟩
 ·have hexec : (execOp f.eval o).run P w = .ok (.value (.tuple #[.bool false])) w := by
   simp [execOp,ho,ha.eval hx,g2]
  rw [hexec]
  have := hK _ _ _ (ha.put (Zbp hN) (.tuple #[.bool false])) (h0 g1)
  rw [← hd] at this
  exact this
 ·have hexec : (execOp f.eval o).run P w = .ok (.value (.tuple #[.bool true,e.key,e.val])) { w1 with heap := w1.heap.setIfInBounds it (.mapIter (some bm) clock (seen.push e.born) clock) } := by
   simp [execOp,ho,ha.eval hx,g2]
  rw [hexec]
  have hS1 : St W F (pts it (.mapIter (some bm) clock seen clock) :: rs) w1 := by
   rcases hw1 with rfl | rfl
   ·exact hS
   ·exact hS.drew
  have := hK _ _ _ (ha.put (Zbp hN) (.tuple #[.bool true,e.key,e.val])) (h1 e he _ (hS1.set (Zcf (o' := .mapIter (some bm) clock (seen.push e.born) clock) hS1.get)))
  rw [← hd] at this
  exact this⟩
end
end Cr
namespace Cr
open Go Go.MapKept
set_option maxRecDepth 10000
theorem Znf {e : MapEntry} : ∀ {l : List MapEntry},(l.map (·.born)).Nodup → e ∈ l → l.find? (fun x => x.born == e.born) = some e
 | x :: l,hn,he => by
  have hn' : x.born ∉ l.map (·.born) ∧ (l.map (·.born)).Nodup := List.nodup_cons.1 hn
  rcases List.mem_cons.1 he with rfl | he
  ·simp
  ·have : x.born ≠ e.born := fun q => hn'.1 (by rw [q]; exact List.mem_map.2 ⟨e,he,rfl⟩)
   rw [List.find?_cons_of_neg (by simpa using this)]
   exact Znf hn'.2 he
section
variable {P : Program} {o : Oper} {σ : Env} {w : World} {x y : Operand} {t kt et : TypeId} {N : Nat} {ds : Md} {K : Env → World → Prop}
theorem Ztg {it bm since : Nat} {es : Array MapEntry} {clock : Nat} {seen : Array Nat} {e : MapEntry} (ho : o.op = .entry x) (hx : ev σ x = some (.pointer (some ⟨it,0,none⟩))) (hst : StampOk es clock) (he : e ∈ es.toList) (hi : w.heap[it]? = some (.mapIter (some bm) since (seen.push e.born) clock)) (hb : w.heap[bm]? = some (.map es clock)) :
  Yl P o σ w (.tuple #[e.key,e.val]) := ⟨fun N ds a ha => by
 have hg : (getObj it).run P w = .ok (.mapIter (some bm) since (seen.push e.born) clock) w := by simp [getObj,Sem.run,hi]
 have hm : (getObj bm).run P w = .ok (.map es clock) w := by simp [getObj,Sem.run,hb]
 have hf : es.find? (fun x => x.born == e.born) = some e := by rw [← Array.find?_toList]; exact Znf hst.apart he
 simp only [execOp,ho,ha.eval hx,Instr.entry,Sem.run_bind,hg,hm,Result.andThen_ok,Array.back?_push]
 simp [hf,Result.andThen]⟩
variable {α : Type} [DecidableEq α] {mk : α → Value} {dd : TypeDesc}
theorem Zqn {r : Nat} {L : List (α × Value)} {k : α} {W : World} {F : Nat → Prop} {rs : List Res} {ts : TypeId} (ho : o.op = .call { callee := .builtin .delete,args := #[x,y],argTypes := #[t,ts] }) (hx : ev σ x = some (.map (some r))) (hy : ev σ y = some (mk k)) [hu : Und P t (.map kt et)] [hkt : Und P kt dd] [hK : Key dd mk]
  (hd : o.dst = none) (hS : St W F (mapq mk r L :: rs) w) (hk : ∀ w',St W F (mapq mk r (delM k L) :: rs) w' → K σ w') : X P o N ds σ w K := ⟨fun f ha K' Q' hKK => by
 obtain ⟨es,clock,hes,hst,hS2⟩ := hS.openMap
 have hb : w.heap[r]? = some (.map es clock) := hS2.get
 have hc := run_checkKey (P := P) (w := w) hkt.und (hK.isKey k) es.isEmpty 9999
 have hg : (getObj r).run P w = .ok (.map es clock) w := by simp [getObj,Sem.run,hb]
 have hset : ∀ o',(setObj r o').run P w = .ok () { w with heap := w.heap.setIfInBounds r o' } := fun o' => run_setObj_map o' hb
 unfold Oper.wp
 have key : ∃ es' w',(execOp f.eval o).run P w = .ok (.value (.tuple #[])) w' ∧ SetBlock w w' r (.map es' clock) ∧ kvs es' = (delM k L).map (fun x => (mk x.1,x.2)) ∧ StampOk es' clock := by
  rcases Zlx (hk := hK) k L es.toList 0 hes with ⟨g1,g2⟩ | ⟨j,v,g1,_,g4,g3⟩
  ·have hf := run_findKey (P := P) (w := w) hkt.und g1
   refine ⟨es,{ w with heap := w.heap.setIfInBounds r (.map es clock) },?_,Zcf hb,by rw [g2]; exact hes,hst⟩
   simp [execOp,ho,resolve,invoke,builtin,ha.eval hx,ha.eval hy,Builtin.delete_,run_underlying hu.und,hg,hc,hf,hset,Result.andThen]
  ·have hf := run_findKey (P := P) (w := w) hkt.und g1
   simp only [Nat.sub_zero,Array.length_toList] at g4 g3
   refine ⟨es.eraseIdx j g4,{ w with heap := w.heap.setIfInBounds r (.map (es.eraseIdx j g4) clock) },?_,Zcf hb,by rw [← g3]; simp [kvs,Array.toList_eraseIdx],Zqv hst j g4⟩
   have e1 : es.eraseIdxIfInBounds j = es.eraseIdx j g4 := by unfold Array.eraseIdxIfInBounds; rw [dif_pos g4]
   simp [execOp,ho,resolve,invoke,builtin,ha.eval hx,ha.eval hy,Builtin.delete_,run_underlying hu.und,hg,hc,hf,hset,Result.andThen,e1]
 obtain ⟨es',w',hexec,u,hes',hst'⟩ := key
 rw [hexec]
 refine hKK _ _ _ (?_ : Fr σ N ds _) (hk _ ((hS2.set u).head fun h hh => ⟨es',clock,hes',hst',hh⟩))
 rw [hd]; exact ha⟩
class EClone (P : Program) (g : FuncId) : Prop where
 run : ∀ {t : TypeId} {r : Nat} {es : Array MapEntry} {clock : Nat} {w : World},w.heap[r]? = some (.map es clock) → (callFunc g #[.iface t (.map (some r))]).run P w = .ok (.value (.iface t (.map (some w.heap.size)))) (w.alloc (.map es clock))
theorem Zqi {a : Option Nat} {t2 : TypeId} {k e : TypeId} (ho : o.op = .binOp .eql t x y t2) (hx : ev σ x = some (.map a)) (hy : ev σ y = some (.map none)) [h : Und P t (.map k e)] : Yl P o σ w (.bool a.isNone) := ⟨fun N ds f ha => by
 simp only [execOp,ho,ha.eval hx,ha.eval hy,eqGuard,binOp,Sem.run_bind,Sem.run_pure,Result.andThen_ok,Zig (e := e)]; cases a <;> rfl⟩
theorem Zqe {v : Value} (ho : o.op = .makeInterface t x) (hx : ev σ x = some v) (hi : ∀ w,(Instr.makeInterface t v).run P w = .ok (.iface t v) w) : Yl P o σ w (.iface t v) := ⟨fun N ds f ha => by
 simp [execOp,ho,ha.eval hx,hi]⟩
end
end Cr
namespace Cr
open Go Go.Proofs
set_option maxRecDepth 100000
set_option maxHeartbeats 8000000
attribute [local irreducible] Calls

structure SV where
 s : Sto
 da : Option Addr
 dc : Nat
 ba : Option Addr
 bc : Nat
abbrev SV.val (x : SV) : Value := .agg (stoV x.s x.da x.dc x.ba x.bc).toArray
abbrev AV := List (Int × SV)
def AV.ents (A : AV) : Ents := A.map fun x => (x.1,x.2.s)
def AV.vals (A : AV) : List (Int × Value) := A.map fun x => (x.1,x.2.val)
def AV.rows (A : AV) : List RowD := A.flatMap fun x => [(x.2.da,bv x.2.s.nd.data),(x.2.ba,ints .i64 x.2.s.blocks)]
theorem AV.row_d {A : AV} {x : Int × SV} (h : x ∈ A) : (x.2.da,bv x.2.s.nd.data) ∈ A.rows := List.mem_flatMap.2 ⟨x,h,by simp⟩
theorem AV.row_b {A : AV} {x : Int × SV} (h : x ∈ A) : (x.2.ba,ints .i64 x.2.s.blocks) ∈ A.rows := List.mem_flatMap.2 ⟨x,h,by simp⟩
theorem AV.mem_ents {A : AV} {x : Int × SV} (h : x ∈ A) : (x.1,x.2.s) ∈ A.ents := List.mem_map.2 ⟨x,h,rfl⟩
theorem getM_A {k : Int} : ∀ A : AV,getM k A.vals = (getA k A).map SV.val
 | [] => rfl
 | x :: A => by
  have ih := getM_A (k := k) A
  simp only [AV.vals,List.map_cons,getM,getA] at ih ⊢
  split
  ·rfl
  ·exact ih
theorem setM_A {k : Int} {v : SV} : ∀ A : AV,setM k v.val A.vals = AV.vals (setA k v A)
 | [] => rfl
 | x :: A => by
  have ih := setM_A (k := k) (v := v) A
  simp only [AV.vals,List.map_cons,setM,setA] at ih ⊢
  split
  ·rfl
  ·rw [ih]; rfl
theorem delM_A {k : Int} : ∀ A : AV,delM k A.vals = AV.vals (delA k A)
 | [] => rfl
 | x :: A => by
  have ih := delM_A (k := k) A
  simp only [AV.vals,List.map_cons,delM,delA] at ih ⊢
  split
  ·rfl
  ·rw [ih]; rfl
theorem ents_get {k : Int} (A : AV) : getA k A.ents = (getA k A).map SV.s := Zsu SV.s
def atT (T : Tb) (no : Int) : Option Nd := if 0 ≤ no then T.getD no.toNat none else none
theorem atT_of {A : Ents} {n : Nat} (hk : ∀ k ∈ Zb9 A,0 ≤ k ∧ k < n) (no : Int) : atT (tabOf A n) no = (getA no A).map (·.nd) := by
 unfold atT
 by_cases h0 : 0 ≤ no
 ·rw [if_pos h0]
  by_cases h1 : no.toNat < n
  ·rw [List.getD_eq_getElem?_getD,Zgs A h1,Option.getD_some,show ((no.toNat : Nat) : Int) = no by omega]
  ·rw [List.getD_eq_getElem?_getD,List.getElem?_eq_none (by rw [Zdc]; omega),Option.getD_none,getA_none.2 (fun h => by have := hk no h; omega)]; rfl
 ·rw [if_neg h0,getA_none.2 (fun h => by have := hk no h; omega)]; rfl
structure TabOk (rd fs : List Int) (n nb : Nat) (T : Tb) (A : AV) (dat : List (List UInt8)) : Prop where
 tab : tabOf A.ents n = T
 enc : Enc rd fs dat n nb A.ents
 n1 : 1 ≤ n
 n4 : n ≤ 400
 nb1 : 1 ≤ nb
def itab (rd fs : List Int) (tp lp p j m n nb : Nat) (T : Tb) : Res := fun h => ∃ (r : Nat) (A : AV) (dat : List (List UInt8)),TabOk rd fs n nb T A dat ∧ Sep [Zi1 tp lp n r,mapq (Value.int .i64) r A.vals,bag A.rows,qlog lp p j m dat] h
structure ItabRd (w : World) (rd fs : List Int) (tp lp p j m n nb : Nat) (T : Tb) (r : Nat) (A : AV) (dat : List (List UInt8)) : Prop where
 ok : TabOk rd fs n nb T A dat
 t : Rd w (Zi1 tp lp n r)
 mp : Rd w (mapq (Value.int .i64) r A.vals)
 bg : Rd w (bag A.rows)
 q : Rd w (qlog lp p j m dat)
section
variable {rd fs : List Int} {tp lp p j m n nb : Nat} {T : Tb}
theorem Rd.itab {w : World} (h : Rd w (Cr.itab rd fs tp lp p j m n nb T)) : ∃ r A dat,ItabRd w rd fs tp lp p j m n nb T r A dat := by
 obtain ⟨f,⟨r,A,dat,hok,hs⟩,ha⟩ := h
 have hr := Rd.sep ⟨f,hs,ha⟩
 exact ⟨r,A,dat,hok,hr _ (List.mem_cons_self ..),hr _ (List.mem_cons_of_mem _ (List.mem_cons_self ..)),hr _ (List.mem_cons_of_mem _ (List.mem_cons_of_mem _ (List.mem_cons_self ..))),hr _ (List.mem_cons_of_mem _ (List.mem_cons_of_mem _ (List.mem_cons_of_mem _ (List.mem_cons_self ..))))⟩
theorem St.openItab {W : World} {F : Nat → Prop} {rs : List Res} {w : World} (hS : St W F (itab rd fs tp lp p j m n nb T :: rs) w) : ∃ r A dat,TabOk rd fs n nb T A dat ∧ St W F (Zi1 tp lp n r :: mapq (Value.int .i64) r A.vals :: bag A.rows :: qlog lp p j m dat :: rs) w := by
 obtain ⟨h,⟨h1,h2,⟨r,A,dat,hq,hs⟩,hr,hd,hu⟩,s⟩ := hS
 exact ⟨r,A,dat,hq,h,Sep.append_mk hs hr hd hu,s⟩
theorem St.shutItab {W : World} {F : Nat → Prop} {rs : List Res} {w : World} {r : Nat} {A : AV} {dat : List (List UInt8)} (hq : TabOk rd fs n nb T A dat) (hS : St W F (Zi1 tp lp n r :: mapq (Value.int .i64) r A.vals :: bag A.rows :: qlog lp p j m dat :: rs) w) : St W F (itab rd fs tp lp p j m n nb T :: rs) w :=
 St.shutR (rs' := [Zi1 tp lp n r,mapq (Value.int .i64) r A.vals,bag A.rows,qlog lp p j m dat]) hS fun _ hh => ⟨r,A,dat,hq,hh⟩
theorem TabOk.tlen {A : AV} {dat : List (List UInt8)} (h : TabOk rd fs n nb T A dat) : T.length = n := by rw [← h.tab,Zdc]
theorem TabOk.at_ {A : AV} {dat : List (List UInt8)} (h : TabOk rd fs n nb T A dat) (no : Int) : (getA no A).map (fun x => x.s.nd) = atT T no := by
 rw [← h.tab,atT_of h.enc.keys,ents_get,Option.map_map]; rfl
abbrev ndV (x : Nd) (a : Option Addr) (c : Nat) : List Value := [.int .i64 x.st.kind,.int .i64 x.st.mode,.int .i64 x.st.owner,.int .i64 x.st.group,.slice a x.data.length c]
abbrev nd0 : Value := .agg (List.toArray [.int .i64 0,.int .i64 0,.int .i64 0,.int .i64 0,.slice none 0 0])
theorem nodes_ {r : Nat} {A : AV} {dat : List (List UInt8)} (W : World) (hI : ItabRd W rd fs tp lp p j m n nb T r A dat) : Calls Tryz.prog 139 #[.pointer (some ⟨tp,0,none⟩)] W (Ret fun v w => v = .int .i64 (n : Nat) ∧ W = w) := by
 have hc := hI.t.pts
 have hS := St.start W
 refine Zas Tryz.func139 rfl Tryz.ntmps139 rfl ?_
 repeat (first|(refine G_id ?_;first|refine Zah ?_|refine Zab rfl rfl ?_)|(refine X_id ?_;first|refine X_yl (Zad rfl rfl) rfl rfl ?_|refine X_yl (Zac rfl rfl) rfl rfl ?_|refine X_yl (Zai rfl rfl) rfl rfl ?_|refine X_yl (Zaf rfl rfl rfl) rfl rfl ?_|refine X_yl (Zbg rfl rfl rfl) rfl rfl ?_|refine X_yl (Zao rfl rfl (Zal (by assumption))) rfl rfl ?_)|(refine C_id ?_;first|refine Zak ?_|refine Zaa ?_|refine Za2 ?_|refine Zaw ?_|refine Zaj rfl ?_)|(refine E_id ?_;first|refine Zae ?_|refine Zax rfl (Zap rfl) (Ret.mk ?_)))
 exact ⟨rfl,rfl⟩
theorem get_nil (no : Int) (W : World) : Calls Tryz.prog 123 #[.pointer none,.int .i64 no] W (Ret fun v w => v = .tuple #[nd0,.int .i64 16] ∧ St W noF [] w) := by
 have hS := St.start W
 refine Zas Tryz.func123 rfl Tryz.ntmps123 rfl ?_
 repeat (first|(refine G_id ?_;first|refine Zah ?_|refine Zab rfl rfl ?_)|(refine X_id ?_;first|refine X_yl (Zad rfl rfl) rfl rfl ?_|refine X_yl (Zac rfl rfl) rfl rfl ?_|refine X_yl (Zco rfl rfl rfl) rfl rfl ?_|refine X_yl (Zmq rfl rfl rfl) rfl rfl ?_|refine Za1 rfl rfl rfl rfl hS (fun _ hS _ => ?_)|refine Zbe rfl rfl rfl hS (fun _ _ hS _ => ?_))|(refine C_id ?_;first|refine Zak ?_|refine Zaa ?_|refine Za2 ?_|refine Zam rfl ?_)|(refine E_id ?_;first|refine Zae ?_|refine Zat ?_|refine Zdb rfl (by first|exact Zap rfl|exact Zay rfl (Zba hS.cell)|exact Zay rfl (Za9 hS.cellsN)) (by first|exact Zap rfl|exact Zay rfl (Zba hS.cell)|exact Zay rfl (Za9 hS.cellsN)) (Ret.mk ?_)))
 exact ⟨rfl,hS.drops⟩
theorem get_none (no : Int) (hno : atT T no = none) {r : Nat} {A : AV} {dat : List (List UInt8)} (W : World) (hI : ItabRd W rd fs tp lp p j m n nb T r A dat) :
  Calls Tryz.prog 123 #[.pointer (some ⟨tp,0,none⟩),.int .i64 no] W (Ret fun v w => v = .tuple #[nd0,.int .i64 7] ∧ St W noF [] w) := by
 have hc := hI.t.ro
 have hmo := hI.mp.ro
 have hg : getM no A.vals = none := by
  rw [getM_A]
  have := hI.ok.at_ no
  rw [hno] at this
  rw [Option.map_eq_none_iff] at this ⊢
  exact this
 have hS := St.start W
 refine Zas Tryz.func123 rfl Tryz.ntmps123 rfl ?_
 repeat (first|(refine G_id ?_;first|refine Zah ?_|refine Zab rfl rfl ?_)|(refine X_id ?_;first|refine X_yl (Zad rfl rfl) rfl rfl ?_|refine X_yl (Zac rfl rfl) rfl rfl ?_|refine X_yl (Zai rfl rfl) rfl rfl ?_|refine X_yl (Zaf rfl rfl rfl) rfl rfl ?_|refine X_yl (Zbg rfl rfl rfl) rfl rfl ?_|refine Zbe rfl rfl rfl hS (fun _ _ hS _ => ?_)|refine X_yl (Zao rfl rfl (Zal (hc.rd hS).pts)) rfl rfl ?_)|(refine C_id ?_;first|refine Zak ?_|refine Zaa ?_|refine Zaw ?_|refine Zaj rfl ?_)|(refine E_id ?_;first|refine Zae ?_))
 refine X_yl (Zmg (mk := Value.int .i64) (L := A.vals) (k := no) rfl rfl rfl ((hmo.rd hS).mapq_r)) rfl rfl ?_
 rw [hg]
 simp only [Option.getD_none,Option.isSome_none]
 repeat (first|(refine G_id ?_;first|refine Zah ?_|refine Zab rfl rfl ?_)|(refine X_id ?_;first|refine X_yl (Zad rfl rfl) rfl rfl ?_|refine X_yl (Zac rfl rfl) rfl rfl ?_|refine X_yl (Zbq rfl rfl) rfl rfl ?_|refine X_yl (Zb8 rfl rfl) rfl rfl ?_|refine X_yl (Zco rfl rfl rfl) rfl rfl ?_|refine Za1 rfl rfl rfl rfl hS (fun _ hS _ => ?_)|refine Zbe rfl rfl rfl hS (fun _ _ hS _ => ?_))|(refine C_id ?_;first|refine Zak ?_|refine Zaa ?_|refine Za2 ?_|refine Zam rfl ?_)|(refine E_id ?_;first|refine Zae ?_|refine Zat ?_|refine Zdb rfl (by first|exact Zap rfl|exact Zay rfl (Zba hS.cell)|exact Zay rfl (Za9 hS.cellsN)) (by first|exact Zap rfl|exact Zay rfl (Zba hS.cell)|exact Zay rfl (Za9 hS.cellsN)) (Ret.mk ?_)))
 exact ⟨rfl,hS.drops⟩
theorem get_some (no : Int) (x : Nd) (hno : atT T no = some x) {r : Nat} {A : AV} {dat : List (List UInt8)} (W : World) (hI : ItabRd W rd fs tp lp p j m n nb T r A dat) :
  Calls Tryz.prog 123 #[.pointer (some ⟨tp,0,none⟩),.int .i64 no] W (Ret fun v w => ∃ a c,v = .tuple #[.agg (ndV x a c).toArray,.int .i64 0] ∧ x.data.length ≤ c ∧ St W noF [own 5 1 a c (bv x.data)] w) := by
 have hc := hI.t.ro
 have hmo := hI.mp.ro
 have hbo := hI.bg.ro
 obtain ⟨s,hs,rfl⟩ := Option.map_eq_some_iff.1 ((hI.ok.at_ no).trans hno)
 have hg : getM no A.vals = some s.val := by rw [getM_A,hs]; rfl
 have hm := Zst hs
 have hlen := (hI.ok.enc.ok _ (AV.mem_ents hm)).len
 have hda : Ro W noF (bytes s.da s.s.nd.data) := hbo.bag (AV.row_d hm)
 have hS := St.start W
 refine Zas Tryz.func123 rfl Tryz.ntmps123 rfl ?_
 repeat (first|(refine G_id ?_;first|refine Zah ?_|refine Zab rfl rfl ?_)|(refine X_id ?_;first|refine X_yl (Zad rfl rfl) rfl rfl ?_|refine X_yl (Zac rfl rfl) rfl rfl ?_|refine X_yl (Zai rfl rfl) rfl rfl ?_|refine X_yl (Zaf rfl rfl rfl) rfl rfl ?_|refine X_yl (Zbg rfl rfl rfl) rfl rfl ?_|refine Zbe rfl rfl rfl hS (fun _ _ hS _ => ?_)|refine X_yl (Zao rfl rfl (Zal (hc.rd hS).pts)) rfl rfl ?_)|(refine C_id ?_;first|refine Zak ?_|refine Zaa ?_|refine Zaw ?_|refine Zaj rfl ?_)|(refine E_id ?_;first|refine Zae ?_))
 refine X_yl (Zmg (mk := Value.int .i64) (L := A.vals) (k := no) rfl rfl rfl ((hmo.rd hS).mapq_r)) rfl rfl ?_
 rw [hg]
 simp only [Option.getD_some,Option.isSome_some]
 repeat (first|(refine G_id ?_;first|refine Zah ?_|refine Zab rfl rfl ?_)|(refine X_id ?_;first|refine X_yl (Zad rfl rfl) rfl rfl ?_|refine X_yl (Zac rfl rfl) rfl rfl ?_|refine X_yl (Zbq rfl rfl) rfl rfl ?_|refine X_yl (Zbl rfl rfl) rfl rfl ?_|refine Za1 rfl rfl rfl rfl hS (fun _ hS _ => ?_)|refine Zbe rfl rfl rfl hS (fun _ _ hS _ => ?_))|(refine C_id ?_;first|refine Zak ?_|refine Zaa ?_|refine Zaw ?_|refine Zaj rfl ?_)|(refine E_id ?_;first|refine Zae ?_))
 refine Zci (.s 0 (.s 1 (.s 2 (.s 3 (.s 4 (.s 5 (.h 6 (.s 7 (.h 8 (.s 9 .nil) .no)) .no))))))) mixed (by kernel_rfl) rfl ?_
 have hS := hS.drew
 repeat (first|(refine Zbj ?_;first|refine Zag rfl rfl (fun _ => Zaf rfl rfl rfl) rfl rfl ?_|refine Zbi (fun w' => w'.cell? _ = some _) rfl rfl hS.cell (fun _ hc => Zao rfl rfl hc) rfl rfl ?_|refine Zbi (fun w' => Zdj w' _ _ _) rfl rfl hS.cellsN (fun _ hc => Zbc rfl rfl hc) rfl rfl ?_|refine Za8 rfl rfl ?_))
 refine Zan _ rfl rfl rfl rfl rfl (Zrp s.da s.s.nd.data.length s.dc s.s.nd.data _ (hda.rd hS) rfl (by simp only at hlen; omega)) ?_
 rintro _ w ⟨a,c,rfl,_,hca,hS'⟩
 replace hS := hS.plus hS'
 clear hS'
 repeat (first|(refine X_id ?_;first|refine Za1 rfl rfl rfl rfl hS (fun _ hS _ => ?_))|(refine C_id ?_;first|refine Za2 ?_)|(refine E_id ?_;first|refine Zae ?_|refine Zdb rfl (by first|exact Zap rfl|exact Zay rfl (Zba hS.cell)|exact Zay rfl (Za9 hS.cellsN)) (by first|exact Zap rfl|exact Zay rfl (Zba hS.cell)|exact Zay rfl (Za9 hS.cellsN)) (Ret.mk ?_))|(refine Zbj ?_;first|refine Zbw ?_|refine Zag rfl rfl (fun _ => Zac rfl rfl) rfl rfl ?_|refine Zag rfl rfl (fun _ => Zco rfl rfl rfl) rfl rfl ?_|refine Za8 rfl rfl ?_)|(refine Za5 ?_;first|refine And.intro (by repeat (first|exact trivial|refine And.intro (.inl (by decide +kernel)) ?_|refine And.intro (.inr (by first|assumption|exact hS.cell|exact Zal (by assumption)|exact hS.cellI (by omega)|exact hS.cellIP (by omega)|exact hS.cellsN|exact hS.cellB (by omega)|exact hS.cellBA (by omega)|exact (hg.rd hS).cellI (by omega)|exact hS.cellO 0 (by omega)|exact hS.cellO 1 (by omega)|exact hS.cellIA (by omega)|exact (hg.rd hS).cellIA (by omega)|exact Zal (hc.rd hS).pts|exact hS.cellO 4 (by omega)|exact hS.cellO 5 (by omega)|exact hS.cellO 6 (by omega)|exact hS.cellO 7 (by omega)|exact hS.cellO 8 (by omega)|exact hS.cellO 9 (by omega)|exact hS.cellO 10 (by omega)|exact hS.cellO 11 (by omega)|exact hS.cellO 12 (by omega)|exact hS.cellO 13 (by omega)|exact hS.cellO 2 (by omega)|exact hS.cellO 3 (by omega))) ?_)) ?_))
 exact ⟨a,c,rfl,hca,hS.took⟩
end
end Cr
namespace Cr
open Go Go.Proofs
set_option maxRecDepth 100000
set_option maxHeartbeats 8000000
attribute [local irreducible] Calls

theorem getM_setI (k k' : Int) (v : Value) (L : List (Int × Value)) : getM k (setM k' v L) = if k = k' then some v else getM k L := Zls k k' v L
def Seen (L : List (Int × Value)) (D : List Int) : Prop := ∀ k,(getM k L).getD (.bool false) = .bool (decide (k ∈ D))
theorem Seen.nil : Seen [] [] := fun k => by simp [getM]
theorem Seen.add {L : List (Int × Value)} {D : List Int} (h : Seen L D) (b : Int) : Seen (setM b (.bool true) L) (D ++ [b]) := fun k => by
 rw [getM_setI]
 by_cases e : k = b
 ·rw [if_pos e]; simp [e]
 ·rw [if_neg e,h k]; simp [e]
structure Gone (A : AV) (left : List MapEntry) (D : List Int) : Prop where
 sub : ∀ k ∈ D,∃ x ∈ A,k ∈ x.2.s.blocks ∧ ¬ ∃ e ∈ left,(e.key,e.val) = (Value.int .i64 x.1,x.2.val)
 all : ∀ x ∈ A,(∀ b ∈ x.2.s.blocks,b ∈ D) ∨ ∃ e ∈ left,(e.key,e.val) = (Value.int .i64 x.1,x.2.val)
theorem Gone.start {A : AV} {es : Array MapEntry} (h : kvs es = A.vals.map (fun x => (Value.int .i64 x.1,x.2))) : Gone A es.toList [] :=
 ⟨fun _ h => by simp at h,fun x hx => .inr (by
  have hm : (Value.int .i64 x.1,x.2.val) ∈ kvs es := by
   rw [h]
   exact List.mem_map.2 ⟨(x.1,x.2.val),List.mem_map.2 ⟨x,hx,rfl⟩,rfl⟩
  obtain ⟨e,he,hk⟩ := List.mem_map.1 hm
  exact ⟨e,he,hk⟩)⟩
theorem Zs1 {A : AV} {es : Array MapEntry} (h : kvs es = A.vals.map (fun x => (Value.int .i64 x.1,x.2))) {e : MapEntry} (he : e ∈ es.toList) : ∃ x ∈ A,e.key = Value.int .i64 x.1 ∧ e.val = x.2.val := by
 have hm : (e.key,e.val) ∈ kvs es := List.mem_map.2 ⟨e,he,rfl⟩
 rw [h] at hm
 obtain ⟨y,hy,hk⟩ := List.mem_map.1 hm
 obtain ⟨x,hx,rfl⟩ := List.mem_map.1 hy
 exact ⟨x,hx,(Prod.mk.inj hk).1.symm,(Prod.mk.inj hk).2.symm⟩
theorem key_inj {A : AV} (hn : (Zb9 A).Nodup) {x y : Int × SV} (hx : x ∈ A) (hy : y ∈ A) (h : x.1 = y.1) : x = y := by
 have h1 := Zh2 hn (show (x.1,x.2) ∈ A from hx)
 have h2 := Zh2 hn (show (y.1,y.2) ∈ A from hy)
 rw [h,h2] at h1
 exact Prod.ext h (Option.some.inj h1).symm
theorem Zpp (A : AV) : Zb9 A.ents = Zb9 A := by simp [Zb9,AV.ents]
theorem Gone.step {A : AV} {left left' : List MapEntry} {D : List Int} (h : Gone A left D) (hn : (Zb9 A).Nodup) {e : MapEntry} (hp : left.Perm (e :: left')) {x : Int × SV} (hx : x ∈ A) (h1 : e.key = Value.int .i64 x.1) (h2 : e.val = x.2.val)
  (hborn : ∀ e' ∈ left',¬ (e'.key = e.key)) : Gone A left' (D ++ x.2.s.blocks) := by
 refine ⟨fun k hk => ?_,fun y hy => ?_⟩
 ·rcases List.mem_append.1 hk with hk | hk
  ·obtain ⟨y,hy,hky,hne⟩ := h.sub k hk
   exact ⟨y,hy,hky,fun ⟨e',he',q⟩ => hne ⟨e',hp.symm.subset (List.mem_cons_of_mem _ he'),q⟩⟩
  ·exact ⟨x,hx,hk,fun ⟨e',he',q⟩ => hborn e' he' (by rw [h1]; exact (Prod.mk.inj q).1)⟩
 ·rcases h.all y hy with ha | ⟨e',he',q⟩
  ·exact .inl fun b hb => List.mem_append_left _ (ha b hb)
  ·rcases List.mem_cons.1 (hp.subset he') with rfl | he'
   ·left
    have : y.1 = x.1 := by
     have := (Prod.mk.inj q).1
     rw [h1] at this
     exact (Value.int.inj this).2.symm
    rw [key_inj hn hy hx this]
    exact fun b hb => List.mem_append_right _ hb
   ·exact .inr ⟨e',he',q⟩
theorem Gone.done {A : AV} {D : List Int} (h : Gone A [] D) (k : Int) : k ∈ D ↔ k ∈ Zb6 A.ents := by
 constructor
 ·intro hk
  obtain ⟨x,hx,hb,_⟩ := h.sub k hk
  exact List.mem_flatMap.2 ⟨_,AV.mem_ents hx,hb⟩
 ·intro hk
  obtain ⟨y,hy,hb⟩ := List.mem_flatMap.1 hk
  obtain ⟨x,hx,rfl⟩ := List.mem_map.1 hy
  rcases h.all x hx with ha | ⟨e,he,_⟩
  ·exact ha k hb
  ·cases he
theorem left_keys {A : AV} {es : Array MapEntry} (h : kvs es = A.vals.map (fun x => (Value.int .i64 x.1,x.2))) (hn : (Zb9 A).Nodup) {seen : Array Nat} {e : MapEntry} {left' : List MapEntry} (hp : (Zeo es seen).Perm (e :: left')) : ∀ e' ∈ left',¬ (e'.key = e.key) := by
 have hk : (es.toList.map (·.key)).Nodup := by
  have e1 : es.toList.map (·.key) = (kvs es).map (·.1) := by simp [kvs,Function.comp_def]
  rw [e1,h]
  have e2 : ((AV.vals A).map (fun x => (Value.int .i64 x.1,x.2))).map (·.1) = (Zb9 A).map (Value.int .i64) := by simp [AV.vals,Zb9,Function.comp_def]
  rw [e2,List.Nodup,List.pairwise_map]
  exact hn.imp fun h e => h (Value.int.inj e).2
 have h2 : ((Zeo es seen).map (·.key)).Nodup := hk.sublist (List.filter_sublist.map _)
 have h3 := (hp.map (·.key)).nodup_iff.1 h2
 rw [List.map_cons,List.nodup_cons] at h3
 exact fun e' he' q => h3.1 (by rw [← q]; exact List.mem_map.2 ⟨e',he',rfl⟩)
def Zhn (D : List Int) (i : Nat) : List Int := ((List.range i).map fun k => ((k : Nat) : Int)).filter fun b => decide (b ∉ D)
theorem Zrf (D : List Int) (i : Nat) : Zhn D (i + 1) = Zhn D i ++ if ((i : Nat) : Int) ∈ D then [] else [((i : Nat) : Int)] := by
 unfold Zhn
 rw [List.range_succ,List.map_append,List.filter_append]
 congr 1
 by_cases h : ((i : Nat) : Int) ∈ D <;> simp [h]
theorem freeTo_le (D : List Int) (i : Nat) : (Zhn D i).length ≤ i := by
 unfold Zhn
 exact Nat.le_trans (List.length_filter_le ..) (by simp)
theorem freeTo_all {A : AV} {D : List Int} (h : Gone A [] D) (nb : Nat) : Zhn D nb = Zh4 A.ents nb := by
 unfold Zhn Zh4
 refine List.filter_congr fun x _ => ?_
 have := h.done x
 by_cases hx : x ∈ D
 ·simp [hx,this.1 hx]
 ·have h2 : x ∉ Zb6 A.ents := fun h => hx (this.2 h)
  simp [hx,h2]
theorem Zlp (k : IntKind) (L M : List Int) : ints k (L ++ M) = ints k L ++ ints k M := by simp [ints]
theorem free_ (tp lp n r r2 p j m nb : Nat) (A : AV) (dat : List (List UInt8)) (W : World) (hT : Rd W (Zi1 tp lp n r)) (hq : Rd W (qlog lp p j m dat)) (hd : dat.length = 1 + n + nb) (hm : Rd W (mapq (Value.int .i64) r2 A.vals)) (hb : ∀ x ∈ A,Rd W (row x.2.ba (ints .i64 x.2.s.blocks))) (hbl : ∀ x ∈ A,x.2.s.blocks.length ≤ 1048576) (hn : (Zb9 A).Nodup) :
  Calls Tryz.prog 177 #[.pointer (some ⟨tp,0,none⟩),.map (some r2)] W (Ret fun v w => ∃ a c,v = .slice a (Zh4 A.ents nb).length c ∧ (Zh4 A.ents nb).length ≤ c ∧ St W noF [own 3 1 a c (ints .i64 (Zh4 A.ents nb))] w) := by
 have hTo := hT.ro
 have hqo := hq.ro
 have hql := (qlen hq).1
 obtain ⟨es,clock,hes,hst,hmp⟩ := hm.openMap
 have hmpo := hmp.ro
 have hbo : ∀ x ∈ A,Ro W noF (row x.2.ba (ints .i64 x.2.s.blocks)) := fun x hx => (hb x hx).ro
 have hS := St.start W
 refine Zas Tryz.func177 rfl Tryz.ntmps177 rfl ?_
 repeat (first|(refine G_id ?_;first|refine Zah ?_|refine Zab rfl rfl ?_)|(refine X_id ?_;first|refine X_yl (Zac rfl rfl) rfl rfl ?_)|(refine C_id ?_;first|refine Zak ?_|refine Zaa ?_)|(refine E_id ?_;first|refine Zae ?_))
 refine Zno (Value.int .i64) rfl rfl rfl hS (fun r3 w hS => ?_)
 repeat (first|(refine G_id ?_;first|refine Zah ?_|refine Zab rfl rfl ?_)|(refine X_id ?_;first|refine X_yl (Zad rfl rfl) rfl rfl ?_|refine X_yl (Zac rfl rfl) rfl rfl ?_)|(refine C_id ?_;first|refine Zak ?_|refine Zaa ?_)|(refine E_id ?_;first|refine Zae ?_))
 refine Znn rfl rfl (hmpo.rd hS) rfl rfl hS (fun it w hS _ => ?_)
 repeat (first|(refine G_id ?_;first|refine Zah ?_)|(refine C_id ?_;first|refine Zaq ?_)|(refine E_id ?_;first|refine Zae ?_))
 refine Zg8 (α := Nat × List (Int × Value) × List Int) (fun z => [(0,.pointer (some ⟨tp,0,none⟩)),(5,.map (some z.1))]) (fun z w => Seen z.2.1 z.2.2 ∧ Gone A [] z.2.2 ∧ St W noF [mapq (Value.int .i64) z.1 z.2.1] w) ?_ ?_
 ·refine Zb7 (α := Array Nat × List (Int × Value) × List Int) (fun _ => [(0,.pointer (some ⟨tp,0,none⟩)),(5,.map (some r3)),(14,.pointer (some ⟨it,0,none⟩))])
   (fun z w => Seen z.2.1 z.2.2 ∧ Gone A (Zeo es z.1) z.2.2 ∧ St W noF [pts it (.mapIter (some r2) clock z.1 clock),mapq (Value.int .i64) r3 z.2.1] w) (fun z => (Zeo es z.1).length) (#[],[],[]) ⟨rfl,rfl,rfl,trivial⟩ ⟨Seen.nil,by rw [Zln]; exact Gone.start hes,hS⟩ ?_
  clear hS
  rintro ⟨seen,L,D⟩ w ⟨hse,hgo,hS⟩
  simp only at hse hgo hS ⊢
  repeat (first|(refine G_id ?_;first|refine Zab rfl rfl ?_)|(refine C_id ?_;first|refine Zak ?_|refine Zaa ?_))
  refine Zqm rfl rfl hst (hmpo.rd hS) rfl rfl hS (fun h0 => ?_) (fun e he w hS => ?_)
  ·repeat (first|(refine G_id ?_;first|refine Zah ?_|refine Zab rfl rfl ?_)|(refine X_id ?_;first|refine X_yl (Zbq rfl rfl) rfl rfl ?_)|(refine C_id ?_;first|refine Zak ?_|refine Zb0 ?_|refine Zaj rfl ?_)|(refine E_id ?_;first|refine Zae ?_|refine Zav ?_|refine Zaz ?_))
   refine Ziz (r3,L,D) ⟨rfl,rfl,trivial⟩ ⟨hse,by rw [h0] at hgo; exact hgo,hS.pick [1]⟩
  ·have hel : e ∈ es.toList := (List.mem_filter.1 he).1
   have hstep := Zm7 hst he
   obtain ⟨x,hxA,hk,hv⟩ := Zs1 hes hel
   have hgo2 := hgo.step hn hstep hxA hk hv (left_keys hes hn hstep)
   have hlt : (Zeo es (seen.push e.born)).length < (Zeo es seen).length := by rw [hstep.length_eq]; simp
   have hxl := hbl x hxA
   have hr := hbo x hxA
   repeat (first|(refine G_id ?_;first|refine Zah ?_|refine Zab rfl rfl ?_)|(refine X_id ?_;first|refine X_yl (Zbq rfl rfl) rfl rfl ?_)|(refine C_id ?_;first|refine Zak ?_|refine Zaa ?_|refine Zaq ?_|refine Zaw ?_|refine Zam rfl ?_)|(refine E_id ?_;first|refine Zae ?_))
   refine X_yl (Ztg rfl rfl hst hel hS.has (hmpo.rd hS).pts) rfl rfl ?_
   rw [hv]
   repeat (first|(refine G_id ?_;first|refine Zah ?_|refine Zab rfl rfl ?_)|(refine X_id ?_;first|refine X_yl (Zad rfl rfl) rfl rfl ?_|refine X_yl (Zaf rfl rfl rfl) rfl rfl ?_|refine X_yl (Zbq rfl rfl) rfl rfl ?_|refine X_yl (Zbt rfl rfl) rfl rfl ?_|refine X_yl (Zao rfl rfl hS.cell) rfl rfl ?_|refine Za1 rfl rfl rfl rfl hS (fun _ hS _ => ?_)|refine Zbe rfl rfl rfl hS (fun _ _ hS _ => ?_))|(refine C_id ?_;first|refine Zak ?_|refine Zaa ?_|refine Zaq ?_)|(refine E_id ?_;first|refine Zae ?_))
   refine Zb7 (α := Nat × List (Int × Value)) (fun z => [(0,.pointer (some ⟨tp,0,none⟩)),(5,.map (some r3)),(14,.pointer (some ⟨it,0,none⟩)),(20,.slice x.2.ba x.2.s.blocks.length x.2.bc),(21,.int .i64 (x.2.s.blocks.length : Nat)),(22,.int .i64 (z.1 : Nat))])
    (fun z w => z.1 ≤ x.2.s.blocks.length ∧ Seen z.2 (D ++ x.2.s.blocks.take z.1) ∧ St W noF [mapq (Value.int .i64) r3 z.2,pts it (.mapIter (some r2) clock (seen.push e.born) clock)] w) (fun z => x.2.s.blocks.length - z.1) (0,L) ⟨rfl,rfl,rfl,rfl,rfl,rfl,trivial⟩ ⟨Nat.zero_le _,by simpa using hse,hS.pick [2,1]⟩ ?_
   clear hS hse
   rintro ⟨i,L2⟩ w ⟨hi,hse,hS⟩
   simp only at hi hse hS ⊢
   by_cases hlt2 : i < x.2.s.blocks.length
   ·have hx0 : x.2.s.blocks[i]? = some x.2.s.blocks[i] := List.getElem?_eq_getElem hlt2
    generalize x.2.s.blocks[i] = b at hx0
    have hx : (ints .i64 x.2.s.blocks)[i]? = some (.int .i64 b) := by simp [ints,hx0]
    have hbase := (hr.rd hS).base (by intro e; rw [e] at hx; simp at hx)
    obtain ⟨xb,xo,hxa⟩ := hbase
    rw [hxa] at hr ⊢
    repeat (first|(refine G_id ?_;first|refine Zah ?_|refine Zab rfl rfl ?_)|(refine X_id ?_;first|refine X_yl (Zad rfl rfl) rfl rfl ?_|refine X_yl (Zac rfl rfl) rfl rfl ?_|refine X_yl (Za3 rfl rfl rfl (by omega)) rfl rfl ?_|refine X_yl (Zau rfl rfl rfl (by omega) (by omega) (by first|assumption|exact ⟨_,_,rfl⟩)) rfl rfl ?_|refine X_yl (Zao rfl rfl ((hr.rd hS).cellX (by omega) hx)) rfl rfl ?_)|(refine C_id ?_;first|refine Zak ?_|refine Zaa ?_|refine Zaq ?_|refine Zaw ?_|refine Zam rfl ?_)|(refine E_id ?_;first|refine Zae ?_))
    refine Zj8 rfl rfl rfl rfl rfl hS (fun w hS => ?_)
    repeat (first|(refine G_id ?_;first|refine Zah ?_|refine Zab rfl rfl ?_)|(refine X_id ?_;first|refine X_yl (Zad rfl rfl) rfl rfl ?_|refine X_yl (Zbk rfl rfl rfl (w64 (by omega) (by omega))) rfl rfl ?_)|(refine C_id ?_;first|refine Zaa ?_)|(refine E_id ?_;first|refine Zae ?_|refine Zbf ?_))
    refine Zbu (z := (i,L2)) (i + 1,setM b (.bool true) L2) ⟨rfl,rfl,rfl,rfl,rfl,rfl,trivial⟩ ⟨by simp only; omega,?_,hS⟩ (by simp only; omega)
    simp only
    rw [List.take_add_one,hx0]
    have := hse.add b
    rwa [List.append_assoc] at this
   ·obtain rfl : i = x.2.s.blocks.length := by omega
    rw [List.take_length] at hse
    repeat (first|(refine G_id ?_;first|refine Zah ?_|refine Zab rfl rfl ?_)|(refine X_id ?_;first|refine X_yl (Za7 rfl rfl rfl (by omega)) rfl rfl ?_)|(refine C_id ?_;first|refine Zak ?_|refine Zaa ?_|refine Zb0 ?_|refine Zaj rfl ?_)|(refine E_id ?_;first|refine Zae ?_|refine Zav ?_|refine Zaz ?_|refine Zbf ?_))
    exact Zbu (z := (seen,L,D)) (seen.push e.born,L2,D ++ x.2.s.blocks) ⟨rfl,rfl,rfl,trivial⟩ ⟨hse,hgo2,hS.pick [1,0]⟩ hlt
 ·clear hS
  rintro ⟨r3,L,D⟩ w ⟨hse,hgo,hS⟩
  simp only at hse hgo hS ⊢
  rw [← freeTo_all hgo nb]
  repeat (first|(refine G_id ?_;first|refine Zah ?_|refine Zab rfl rfl ?_)|(refine X_id ?_;first|refine X_yl (Zad rfl rfl) rfl rfl ?_|refine X_yl (Zac rfl rfl) rfl rfl ?_)|(refine C_id ?_;first|refine Zak ?_|refine Zaa ?_)|(refine E_id ?_;first|refine Zae ?_))
  refine Zbm _ rfl rfl rfl rfl rfl hS (tblocks_ tp lp n r p j m nb dat _ (hTo.rd hS) (hqo.rd hS) hd) ?_
  rintro _ w rfl hS
  repeat (first|(refine G_id ?_;first|refine Zah ?_|refine Zab rfl rfl ?_)|(refine X_id ?_;first|refine X_yl (Zad rfl rfl) rfl rfl ?_)|(refine C_id ?_;first|refine Zaq ?_)|(refine E_id ?_;first|refine Zae ?_))
  refine Zb7 (α := Nat × Option Addr × Nat) (fun z => [(5,.map (some r3)),(10,.slice z.2.1 (Zhn D z.1).length z.2.2),(30,.int .i64 (nb : Nat)),(31,.int .i64 (z.1 : Nat))])
   (fun z w => z.1 ≤ nb ∧ (Zhn D z.1).length ≤ z.2.2 ∧ St W noF [own 3 1 z.2.1 z.2.2 (ints .i64 (Zhn D z.1)),mapq (Value.int .i64) r3 L] w) (fun z => nb - z.1) (0,none,0) ⟨rfl,rfl,rfl,rfl,trivial⟩ ⟨Nat.zero_le _,Nat.le_refl _,hS.own_none _ _ _⟩ ?_
  clear hS
  rintro ⟨i,a,c⟩ w ⟨hi,hc,hS⟩
  simp only at hi hc hS ⊢
  have hfl := freeTo_le D i
  by_cases hlt : i < nb
  ·have hg := hse (i : Nat)
   have hsu := Zrf D i
   by_cases hin : ((i : Nat) : Int) ∈ D
   ·rw [decide_eq_true hin] at hg
    rw [if_pos hin,List.append_nil] at hsu
    repeat (first|(refine G_id ?_;first|refine Zah ?_|refine Zab rfl rfl ?_)|(refine X_id ?_;first|refine X_yl (Zad rfl rfl) rfl rfl ?_|refine X_yl (Zac rfl rfl) rfl rfl ?_|refine X_yl (Za3 rfl rfl rfl (by omega)) rfl rfl ?_)|(refine C_id ?_;first|refine Zak ?_|refine Zaa ?_|refine Zaq ?_|refine Zaw ?_|refine Zam rfl ?_)|(refine E_id ?_;first|refine Zae ?_))
    refine X_yl (Zmh (mk := Value.int .i64) (L := L) (k := ((i : Nat) : Int)) rfl rfl rfl ((hS.rd (by simp)).mapq_r)) rfl rfl ?_
    rw [hg]
    repeat (first|(refine G_id ?_;first|refine Zah ?_|refine Zab rfl rfl ?_)|(refine X_id ?_;first|refine X_yl (Zad rfl rfl) rfl rfl ?_|refine X_yl (Zbl rfl rfl) rfl rfl ?_|refine X_yl (Zbk rfl rfl rfl (w64 (by omega) (by omega))) rfl rfl ?_)|(refine C_id ?_;first|refine Zaa ?_|refine Zaw ?_|refine Zaj rfl ?_)|(refine E_id ?_;first|refine Zae ?_|refine Zbf ?_))
    refine Zbu (z := (i,a,c)) (i + 1,a,c) ⟨rfl,?_,rfl,rfl,trivial⟩ ⟨by simp only; omega,by simp only; rw [hsu]; exact hc,?_⟩ (by simp only; omega)
    ·simp only; rw [hsu]; rfl
    ·simp only; rw [hsu]; exact hS
   ·rw [decide_eq_false hin] at hg
    rw [if_neg hin] at hsu
    repeat (first|(refine G_id ?_;first|refine Zah ?_|refine Zab rfl rfl ?_)|(refine X_id ?_;first|refine X_yl (Zad rfl rfl) rfl rfl ?_|refine X_yl (Zac rfl rfl) rfl rfl ?_|refine X_yl (Za3 rfl rfl rfl (by omega)) rfl rfl ?_)|(refine C_id ?_;first|refine Zak ?_|refine Zaa ?_|refine Zaq ?_|refine Zaw ?_|refine Zam rfl ?_)|(refine E_id ?_;first|refine Zae ?_))
    refine X_yl (Zmh (mk := Value.int .i64) (L := L) (k := ((i : Nat) : Int)) rfl rfl rfl ((hS.rd (by simp)).mapq_r)) rfl rfl ?_
    rw [hg]
    repeat (first|(refine G_id ?_;first|refine Zah ?_|refine Zab rfl rfl ?_)|(refine X_id ?_;first|refine X_yl (Zad rfl rfl) rfl rfl ?_|refine X_yl (Zb8 rfl rfl) rfl rfl ?_|refine Za6 rfl rfl rfl rfl rfl rfl rfl rfl hS (fun _ _ hS _ => ?_))|(refine C_id ?_;first|refine Zaa ?_|refine Zam rfl ?_)|(refine E_id ?_;first|refine Zae ?_))
    refine Zc4 (m := 1) rfl rfl rfl rfl rfl hS (by simp [ints_length]) hc ((hS.rd (List.mem_cons_self ..)).own_row) (by simp) (by simp [Value.oneCell']) (by omega) (by simp only [maxLen]; omega) (fun a' c' w hS hc' _ => ?_)
    repeat (first|(refine G_id ?_;first|refine Zah ?_|refine Zab rfl rfl ?_)|(refine X_id ?_;first|refine X_yl (Zad rfl rfl) rfl rfl ?_|refine X_yl (Zac rfl rfl) rfl rfl ?_|refine X_yl (Zbk rfl rfl rfl (w64 (by omega) (by omega))) rfl rfl ?_)|(refine C_id ?_;first|refine Zaa ?_)|(refine E_id ?_;first|refine Zae ?_|refine Zbf ?_))
    refine Zbu (z := (i,a,c)) (i + 1,a',c') ⟨rfl,?_,rfl,rfl,trivial⟩ ⟨by simp only; omega,by simp only; rw [hsu]; simpa using hc',?_⟩ (by simp only; omega)
    ·simp only; rw [hsu,List.length_append]; rfl
    ·simp only; rw [hsu,Zlp]; have h := hS.pick [0,1]; exact h
  ·obtain rfl : i = nb := by omega
   repeat (first|(refine G_id ?_;first|refine Zah ?_|refine Zab rfl rfl ?_)|(refine X_id ?_;first|refine X_yl (Zad rfl rfl) rfl rfl ?_|refine X_yl (Zac rfl rfl) rfl rfl ?_|refine X_yl (Za7 rfl rfl rfl (by omega)) rfl rfl ?_)|(refine C_id ?_;first|refine Zak ?_|refine Zaa ?_|refine Za2 ?_|refine Zb0 ?_|refine Zaj rfl ?_)|(refine E_id ?_;first|refine Zae ?_|refine Zav ?_|refine Zaz ?_|refine Zax rfl (Zap rfl) (Ret.mk ?_)))
   exact ⟨a,c,rfl,hc,hS.pick [0]⟩
section
variable {rd fs : List Int} {tp lp p j m n nb : Nat} {T : Tb}
end
end Cr
