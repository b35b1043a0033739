/-
  Layer 7 (inode): a node's sector,the front.
  Layer 7 (inode): the front.
  The library's bytes.Clone and bytes.Equal.
  Maps that are gone through: a map's entries bear stamps,all below its clock and no two alike; lookups,updates,deletions; 'range' in whatever order. Over any program.
  Maps that are gone through: the entry of a step,a deletion whose result nobody takes,a copy. Over any program.
  Layer 7 (inode): a table in memory as a resource; Get,Nodes.
  Package codec in plain words: what bytes say (parse),how leaves are written (encL),and that the two fit.
  Package codec's values as resources: leaves,lists of leaves; what can be read of them. No program is in sight.
  Package codec in plain words,lists in lists too: values as they stand in memory (Mv),what is wrong with them (chkM),their bytes (encM),what bytes say (decM),and that these fit.
  Package codec's values,lists in lists too,in memory: to be read,among rows of a bag. No program is in sight.
-/
import Derived.Test.YtfoigjehifalpaaGreatDoorCqa8
import Derived.Test.YtfoigjehifalpaaGreatDoorCqa6
import Derived.Test.YtfoigjehifalpaaGreatDoorCqa3
import Derived.Test.YtfoigjehifalpaaGreatDoorCqa7
import Derived.Laws.IdiomRangeMap
import Derived.Test.YtfoigjehifalpaaGreatDoorCqa2
import Derived.MapKept
import Derived.Lib.ItoaNum
import Derived.Lib.AtoiAll
namespace Cr
open Go Go.Proofs
set_option maxRecDepth 100000
set_option maxHeartbeats 64000000
attribute [local irreducible] Calls

instance seg_z (l : List Value) : Seg l 0 0 [] := ⟨by simp⟩
instance seg_pre (v : Value) (l cs : List Value) (n : Nat) [h : Seg l 0 n cs] : Seg (v :: l) 0 (n + 1) (v :: cs) := ⟨by have := h.seg; simp only [List.drop_zero] at this ⊢; rw [List.take_succ_cons,this.1]; exact ⟨rfl,by simp [this.2]⟩⟩
abbrev stoV (s : Sto) (da : Option Addr) (dc : Nat) (ba : Option Addr) (bc : Nat) : List Value := [.int .i64 s.nd.st.kind,.int .i64 s.nd.st.mode,.int .i64 s.nd.st.owner,.int .i64 s.nd.st.group,.slice da s.nd.data.length dc,.slice ba s.blocks.length bc]
def Z1p (s : Sto) : List UInt8 := [1] ++ bigB s.nd.st.num 8 ++ bigB (s.nd.data.length : Nat) 4
def Zdz (s : Sto) (i : Nat) : List UInt8 := Z1p s ++ (s.blocks.take i).flatMap fun b => bigB b 4
theorem Zsj {s : Sto} {i : Nat} {b : Int} (h : s.blocks[i]? = some b) : Zdz s (i + 1) = Zdz s i ++ bigB b 4 := by
 unfold Zdz
 rw [List.take_add_one,h]
 simp
theorem Zou (s : Sto) (i : Nat) : (Zdz s i).length ≤ 13 + 4 * i := by
 have : ((s.blocks.take i).flatMap fun b => bigB b 4).length = (s.blocks.take i).length * 4 := Zfx fun b _ => Zah b 4
 unfold Zdz Z1p
 simp only [List.length_append,this,Zah,List.length_take,List.length_cons,List.length_nil]
 omega
theorem Zwd (s : Sto) : Zdz s s.blocks.length = Zrp s := by
 unfold Zdz Z1p Zrp
 rw [List.take_length]
theorem Z30 (s : Sto) (da : Option Addr) (dc : Nat) (ba : Option Addr) (bc : Nat) (W : World) (hba : Rd W (row ba (ints .i64 s.blocks))) (hl : s.blocks.length ≤ 1048576) (_ : s.nd.data.length ≤ 1048576) :
  Calls Tryz.prog 148 #[.agg (stoV s da dc ba bc).toArray] W (Ret fun v w => ∃ p,v = .slice (some ⟨p,0,none⟩) 64 64 ∧ St W noF [bytes (some ⟨p,0,none⟩) (stoB s)] w) := by
 have hS := St.start W
 have hbr := hba.ro
 refine Zab Tryz.func148 rfl Tryz.ntmps148 rfl ?_
 repeat (first|refine Yeg ?_|refine Yag ?_|refine Ya7 (fun _ _ hS _ => ?_)|refine Yeh ?_|refine Yab ?_)
 rename_i t1 _ _
 refine Znq (α := Option Addr × Nat) (fun z => [(1,.pointer (some ⟨t1,0,none⟩)),(3,.slice z.1 (Zdz s 0).length z.2)]) (fun z w => (Zdz s 0).length ≤ z.2 ∧ St W noF [own 5 1 z.1 z.2 (bv (Zdz s 0)),pts t1 (.cells (stoV s da dc ba bc).toArray 272)] w) ?_ ?_
 ·have hjl : Zdz s 0 = [1] ++ bigB s.nd.st.num 8 ++ bigB (s.nd.data.length : Nat) 4 := by simp [Zdz,Z1p]
  refine Zan (.s 1 (.s 2 (.s 3 (.s 6 (.s 7 (.s 8 (.s 9 (.h 0 (.h 4 (.h 5 (.h 10 (.h 11 (.h 12 (.s 13 .nil) .no) .no) .no) .no) .no) (.h 4 (.h 0 (.h 5 (.h 10 (.h 11 (.h 12 (.s 13 .nil) .no) .no) .no) .no) (.h 5 (.h 0 (.h 10 (.h 11 (.h 12 (.s 13 .nil) .no) .no) .no) (.h 10 (.h 0 (.h 11 (.h 12 (.s 13 .nil) .no) .no) .no) .no)) .no)) .no))))))))) mixed (by kernel_rfl) rfl ?_
  have hS := hS.drew
  repeat (first|(refine Zae ?_;first|refine Ybg ?_|refine Ydu ?_|refine Ybm ?_|refine Ybx ?_))
  refine Zer ?_ ?_
  ·skip
   repeat (first|refine Ybd (fun _ _ hS _ => ?_)|(refine Zae ?_;first|refine Yas ?_)|(refine Zac ?_;first|refine Yax ?_))
   rename_i b0 _ _
   repeat (first|fail)
   refine Zad _ rfl rfl rfl rfl rfl hS (Zto s.nd.st _) ?_
   rintro _ w rfl hS
   repeat (first|(refine Zae ?_;first|refine Yas ?_)|(refine Zac ?_;first|refine Yax ?_))
   repeat (first|fail)
   refine Zaa _ rfl rfl rfl rfl rfl (Zoh s.nd.st.num 8 (by omega) _) ?_
   rintro _ w ⟨a1,k1,rfl,hk1,hS'⟩
   replace hS := hS.plus hS'
   clear hS'
   repeat (first|(refine Zae ?_;first|refine Yas ?_)|(refine Zac ?_;first|refine Yax ?_))
   repeat (first|fail)
   refine Zaa _ rfl rfl rfl rfl rfl (Zoh (s.nd.data.length : Nat) 4 (by omega) _) ?_
   rintro _ w ⟨a2,k2,rfl,hk2,hS'⟩
   replace hS := hS.plus hS'
   clear hS'
   repeat (first|refine Ybd (fun _ _ hS _ => ?_)|(refine Zae ?_;first|refine Yas ?_)|(refine Zac ?_;first|refine Yax ?_))
   rename_i b3 w3 _
   have hB := Bss.ofRd (w := w3) (a := some ⟨b3,0,none⟩) (l := [⟨some ⟨b0,0,none⟩,1,[1]⟩,⟨a1,k1,bigB s.nd.st.num 8⟩,⟨a2,k2,bigB (s.nd.data.length : Nat) 4⟩])
    (by simpa [Bs.val,Zah] using hS.ownRd (a := some ⟨b3,0,none⟩)) (fun x hx => by
     simp only [List.mem_cons,List.not_mem_nil,or_false] at hx
     rcases hx with rfl | rfl | rfl
     ·exact hS.ownRd
     ·exact hS.ownRd
     ·exact hS.ownRd)
   refine Zaa _ rfl rfl rfl rfl rfl (Zlm _ 3 _ _ hB (by simp) (by simp [Zal,Zah])) ?_
   rintro _ w ⟨a',c',rfl,hc',hS'⟩
   replace hS := (hS.plus hS')
   repeat (first|(refine Zae ?_;first|refine Yfg ?_)|(refine Zac ?_;first|refine Yax ?_))
   refine Zbj (a',c') ⟨rfl,by simp only; rw [hjl]; simp [Zal,Zah,look],trivial⟩ ⟨by simp only; rw [hjl]; simpa [Zal,Zah] using hc',?_⟩
   have hj : Zal [⟨some ⟨b0,0,none⟩,1,[1]⟩,⟨a1,k1,bigB s.nd.st.num 8⟩,⟨a2,k2,bigB (s.nd.data.length : Nat) 4⟩] = [1] ++ bigB s.nd.st.num 8 ++ bigB (s.nd.data.length : Nat) 4 := by simp [Zal]
   simp only; rw [hjl,← hj]
   exact hS.took
  repeat (first|(refine Zae ?_;first|refine Yas ?_))
  refine Zad _ rfl rfl rfl rfl rfl hS (Zto s.nd.st _) ?_
  rintro _ w rfl hS
  repeat (first|(refine Zac ?_;first|refine Yax ?_))
  refine Zer ?_ ?_
  ·skip
   repeat (first|refine Ybd (fun _ _ hS _ => ?_)|(refine Zae ?_;first|refine Yas ?_)|(refine Zac ?_;first|refine Yax ?_))
   rename_i b0 _ _
   repeat (first|fail)
   refine Zaa _ rfl rfl rfl rfl rfl (Zoh s.nd.st.num 8 (by omega) _) ?_
   rintro _ w ⟨a1,k1,rfl,hk1,hS'⟩
   replace hS := hS.plus hS'
   clear hS'
   repeat (first|(refine Zae ?_;first|refine Yas ?_)|(refine Zac ?_;first|refine Yax ?_))
   repeat (first|fail)
   refine Zaa _ rfl rfl rfl rfl rfl (Zoh (s.nd.data.length : Nat) 4 (by omega) _) ?_
   rintro _ w ⟨a2,k2,rfl,hk2,hS'⟩
   replace hS := hS.plus hS'
   clear hS'
   repeat (first|refine Ybd (fun _ _ hS _ => ?_)|(refine Zae ?_;first|refine Yas ?_)|(refine Zac ?_;first|refine Yax ?_))
   rename_i b3 w3 _
   have hB := Bss.ofRd (w := w3) (a := some ⟨b3,0,none⟩) (l := [⟨some ⟨b0,0,none⟩,1,[1]⟩,⟨a1,k1,bigB s.nd.st.num 8⟩,⟨a2,k2,bigB (s.nd.data.length : Nat) 4⟩])
    (by simpa [Bs.val,Zah] using hS.ownRd (a := some ⟨b3,0,none⟩)) (fun x hx => by
     simp only [List.mem_cons,List.not_mem_nil,or_false] at hx
     rcases hx with rfl | rfl | rfl
     ·exact hS.ownRd
     ·exact hS.ownRd
     ·exact hS.ownRd)
   refine Zaa _ rfl rfl rfl rfl rfl (Zlm _ 3 _ _ hB (by simp) (by simp [Zal,Zah])) ?_
   rintro _ w ⟨a',c',rfl,hc',hS'⟩
   replace hS := (hS.plus hS')
   repeat (first|(refine Zae ?_;first|refine Yfg ?_)|(refine Zac ?_;first|refine Yax ?_))
   refine Zbj (a',c') ⟨rfl,by simp only; rw [hjl]; simp [Zal,Zah,look],trivial⟩ ⟨by simp only; rw [hjl]; simpa [Zal,Zah] using hc',?_⟩
   have hj : Zal [⟨some ⟨b0,0,none⟩,1,[1]⟩,⟨a1,k1,bigB s.nd.st.num 8⟩,⟨a2,k2,bigB (s.nd.data.length : Nat) 4⟩] = [1] ++ bigB s.nd.st.num 8 ++ bigB (s.nd.data.length : Nat) 4 := by simp [Zal]
   simp only; rw [hjl,← hj]
   exact hS.took
  repeat (first|(refine Zae ?_;first|refine Yas ?_))
  refine Zaa _ rfl rfl rfl rfl rfl (Zoh s.nd.st.num 8 (by omega) _) ?_
  rintro _ w ⟨a1,k1,rfl,hk1,hS'⟩
  replace hS := hS.plus hS'
  clear hS'
  repeat (first|(refine Zac ?_;first|refine Yax ?_))
  refine Zer ?_ ?_
  ·skip
   repeat (first|refine Ybd (fun _ _ hS _ => ?_)|(refine Zae ?_;first|refine Yas ?_)|(refine Zac ?_;first|refine Yax ?_))
   rename_i b0 _ _
   repeat (first|fail)
   refine Zaa _ rfl rfl rfl rfl rfl (Zoh (s.nd.data.length : Nat) 4 (by omega) _) ?_
   rintro _ w ⟨a2,k2,rfl,hk2,hS'⟩
   replace hS := hS.plus hS'
   clear hS'
   repeat (first|refine Ybd (fun _ _ hS _ => ?_)|(refine Zae ?_;first|refine Yas ?_)|(refine Zac ?_;first|refine Yax ?_))
   rename_i b3 w3 _
   have hB := Bss.ofRd (w := w3) (a := some ⟨b3,0,none⟩) (l := [⟨some ⟨b0,0,none⟩,1,[1]⟩,⟨a1,k1,bigB s.nd.st.num 8⟩,⟨a2,k2,bigB (s.nd.data.length : Nat) 4⟩])
    (by simpa [Bs.val,Zah] using hS.ownRd (a := some ⟨b3,0,none⟩)) (fun x hx => by
     simp only [List.mem_cons,List.not_mem_nil,or_false] at hx
     rcases hx with rfl | rfl | rfl
     ·exact hS.ownRd
     ·exact hS.ownRd
     ·exact hS.ownRd)
   refine Zaa _ rfl rfl rfl rfl rfl (Zlm _ 3 _ _ hB (by simp) (by simp [Zal,Zah])) ?_
   rintro _ w ⟨a',c',rfl,hc',hS'⟩
   replace hS := (hS.plus hS')
   repeat (first|(refine Zae ?_;first|refine Yfg ?_)|(refine Zac ?_;first|refine Yax ?_))
   refine Zbj (a',c') ⟨rfl,by simp only; rw [hjl]; simp [Zal,Zah,look],trivial⟩ ⟨by simp only; rw [hjl]; simpa [Zal,Zah] using hc',?_⟩
   have hj : Zal [⟨some ⟨b0,0,none⟩,1,[1]⟩,⟨a1,k1,bigB s.nd.st.num 8⟩,⟨a2,k2,bigB (s.nd.data.length : Nat) 4⟩] = [1] ++ bigB s.nd.st.num 8 ++ bigB (s.nd.data.length : Nat) 4 := by simp [Zal]
   simp only; rw [hjl,← hj]
   exact hS.took
  repeat (first|(refine Zae ?_;first|refine Yas ?_))
  refine Zaa _ rfl rfl rfl rfl rfl (Zoh (s.nd.data.length : Nat) 4 (by omega) _) ?_
  rintro _ w ⟨a2,k2,rfl,hk2,hS'⟩
  replace hS := hS.plus hS'
  clear hS'
  repeat (first|refine Ybd (fun _ _ hS _ => ?_)|(refine Zae ?_;first|refine Yas ?_)|(refine Zac ?_;first|refine Yax ?_))
  rename_i b0 _ _ _ b3 w3 _
  have hB := Bss.ofRd (w := w3) (a := some ⟨b3,0,none⟩) (l := [⟨some ⟨b0,0,none⟩,1,[1]⟩,⟨a1,k1,bigB s.nd.st.num 8⟩,⟨a2,k2,bigB (s.nd.data.length : Nat) 4⟩])
   (by simpa [Bs.val,Zah] using hS.ownRd (a := some ⟨b3,0,none⟩)) (fun x hx => by
    simp only [List.mem_cons,List.not_mem_nil,or_false] at hx
    rcases hx with rfl | rfl | rfl
    ·exact hS.ownRd
    ·exact hS.ownRd
    ·exact hS.ownRd)
  refine Zaa _ rfl rfl rfl rfl rfl (Zlm _ 3 _ _ hB (by simp) (by simp [Zal,Zah])) ?_
  rintro _ w ⟨a',c',rfl,hc',hS'⟩
  replace hS := (hS.plus hS')
  repeat (first|(refine Zae ?_;first|refine Yfg ?_)|(refine Zac ?_;first|refine Yax ?_))
  refine Zbj (a',c') ⟨rfl,by simp only; rw [hjl]; simp [Zal,Zah,look],trivial⟩ ⟨by simp only; rw [hjl]; simpa [Zal,Zah] using hc',?_⟩
  have hj : Zal [⟨some ⟨b0,0,none⟩,1,[1]⟩,⟨a1,k1,bigB s.nd.st.num 8⟩,⟨a2,k2,bigB (s.nd.data.length : Nat) 4⟩] = [1] ++ bigB s.nd.st.num 8 ++ bigB (s.nd.data.length : Nat) 4 := by simp [Zal]
  simp only; rw [hjl,← hj]
  exact hS.took
 ·clear hS
  rintro ⟨a1,c1⟩ w ⟨hc1,hS⟩
  simp only at hc1 hS ⊢
  repeat (first|refine Yeg ?_|refine Yaf ?_|refine Yan ?_|refine Yau ?_|refine Yap ?_|refine Yej ?_|refine Yab ?_)
  refine Zaj (α := Nat × Option Addr × Nat) (fun z => [(3,.slice z.2.1 (Zdz s z.1).length z.2.2),(20,.slice ba s.blocks.length bc),(21,.int .i64 (s.blocks.length : Nat)),(22,.int .i64 (z.1 : Nat))])
   (fun z w => z.1 ≤ s.blocks.length ∧ (Zdz s z.1).length ≤ z.2.2 ∧ St W noF [own 5 1 z.2.1 z.2.2 (bv (Zdz s z.1))] w) (fun z => s.blocks.length - z.1) (0,a1,c1) ⟨rfl,rfl,rfl,rfl,trivial⟩ ⟨Nat.zero_le _,hc1,hS.pick [0]⟩ ?_
  clear hS
  rintro ⟨i,a2,c2⟩ w ⟨hi,hc,hS⟩
  simp only at hi hc hS ⊢
  have hbl := Zou s i
  by_cases hlt : i < s.blocks.length
  ·have hx0 : s.blocks[i]? = some s.blocks[i] := List.getElem?_eq_getElem hlt
   generalize s.blocks[i] = b at hx0
   have hsu := Zsj hx0
   have hr := hbr
   have hx : (ints .i64 s.blocks)[i]? = some (.int .i64 b) := by simp [ints,hx0]
   obtain ⟨xb,xo,rfl⟩ := (hr.rd hS).base (by intro e; rw [e] at hx; simp at hx)
   repeat (first|refine Yeg ?_|refine Yff ?_|refine Yek ?_|refine Yab ?_)
   refine Zaa _ rfl rfl rfl rfl rfl (Zoh b 4 (by omega) _) ?_
   rintro _ w ⟨a3,k3,rfl,hk3,hS'⟩
   replace hS := hS.plus hS'
   clear hS'
   repeat (first|refine Yaa ?_)
   refine Zap rfl rfl rfl rfl rfl hS (by simp) hc (hS.ownRd (a := a3)) (by simp [Zah]) Zc6 (by omega) (by simp only [maxLen]; omega) (fun a' c' w hS hc' _ => ?_)
   repeat (first|refine Yeg ?_|refine Yew ?_|refine Yad ?_|refine Yeo ?_)
   refine Zaf (z := (i,a2,c2)) (i + 1,a',c') ⟨?_,rfl,rfl,rfl,trivial⟩ ⟨by simp only; omega,by simp only; rw [hsu]; simp [Zah]; omega,?_⟩ (by simp only; omega)
   ·simp only
    rw [hsu]; simp only [List.length_append,Zah]; rfl
   ·simp only
    rw [hsu,Zcc]
    exact hS.took
  ·obtain rfl : i = s.blocks.length := by omega
   repeat (first|refine Yeg ?_|refine Yaf ?_|refine Yaz ?_|refine Yet ?_|refine Yem ?_)
   refine Zaa _ rfl rfl rfl rfl rfl (Zon a2 c2 (Zdz s s.blocks.length) _ hS.ownRd) ?_
   rintro _ w ⟨p,rfl,hS'⟩
   replace hS := hS.plus hS'
   clear hS'
   repeat (first|refine Yeg ?_|refine Yag ?_|refine Yah ?_|refine Yei ?_)
   refine ⟨p,rfl,?_⟩
   have h := hS.pick [0]
   rw [Zwd] at h
   exact h
abbrev Z0i (lp n r : Nat) : List Value := [.pointer (some ⟨lp,0,none⟩),.int .i64 (n : Nat),.map (some r)]
abbrev Ziz (tp lp n r : Nat) : Res := pts tp (.cells (Z0i lp n r).toArray 184)
theorem Z3o (tp lp n r : Nat) (b : Int) (W : World) (hT : Rd W (Ziz tp lp n r)) (hn : n ≤ 1048576) (hb : 0 ≤ b) (hb1 : b ≤ 1048576) :
  Calls Tryz.prog 147 #[.pointer (some ⟨tp,0,none⟩),.int .i64 b] W (Ret fun v w => v = .int .i64 (1 + (n : Int) + b) ∧ W = w) := by
 have hc := hT.pts
 have hS := St.start W
 refine Zab Tryz.func147 rfl Tryz.ntmps147 rfl ?_
 repeat (first|refine Yeg ?_|(refine X_id ?_;first|refine Yaf ?_|refine Yag ?_|refine Yav ?_|refine Yan ?_|refine Yay ?_|refine Yb3 ?_)|refine Yeu ?_|refine Yei ?_)
 exact ⟨rfl,rfl⟩
theorem Z0e (tp lp n r p j m nb : Nat) (dat : List (List UInt8)) (W : World) (hT : Rd W (Ziz tp lp n r)) (hq : Rd W (qlog lp p j m dat)) (hd : dat.length = 1 + n + nb) :
  Calls Tryz.prog 201 #[.pointer (some ⟨tp,0,none⟩)] W (Ret fun v w => v = .int .i64 (nb : Nat) ∧ St W noF [] w) := by
 have hTo := hT.ro
 have hqo := hq.ro
 have hql := (qlen hq).1
 have hS := St.start W
 have e : (dat.length : Int) - 1 - (n : Nat) = (nb : Nat) := by omega
 rw [← e]
 refine Zab Tryz.func201 rfl Tryz.ntmps201 rfl ?_
 repeat (first|refine Yeg ?_|refine Yag ?_|refine Yeh ?_|refine Yab ?_)
 refine Zan (.s 0 (.s 1 (.s 2 (.s 3 (.s 6 (.s 7 (.s 8 (.s 9 (.h 4 (.s 5 (.s 10 (.s 11 .nil))) .no))))))))) mixed (by kernel_rfl) rfl ?_
 have hS := hS.drew
 have hc := hTo
 repeat (first|(refine X_id ?_;first|(refine Zad 132 rfl rfl rfl rfl rfl hS (Zpx lp p j m dat _ (hqo.rd hS)) ?_;rintro _ _ rfl hS))|refine Yah ?_|refine Yei ?_|(refine Zae ?_;first|refine Yaw ?_|refine Ya0 ?_|refine Ybj ?_|refine Ybo ?_|refine Ybg ?_|refine Ych ?_|refine Yas ?_|refine Yc8 ?_)|(refine Zac ?_;first|refine Yax ?_))
 exact ⟨rfl,hS⟩
theorem may_ (lp p j m n : Nat) (dat : List (List UInt8)) (W : World) (hq : Rd W (qlog lp p j m dat)) (h1 : 1 ≤ n) (h2 : n ≤ 400) (h3 : n + 2 ≤ dat.length) :
  Calls Tryz.prog 81 #[.pointer (some ⟨lp,0,none⟩),.int .i64 (n : Nat)] W (Ret fun v w => v = .bool true ∧ St W noF [] w) := by
 have hqo := hq.ro
 have hql := (qlen hq).1
 have hS := St.start W
 refine Zab Tryz.func81 rfl Tryz.ntmps81 rfl ?_
 repeat (first|refine Yex ?_|(refine X_id ?_;first|(refine Zad 132 rfl rfl rfl rfl rfl hS (Zpx lp p j m dat _ (hqo.rd hS)) ?_;rintro _ _ rfl hS)|refine Yaf ?_|refine Yag ?_|refine Ybe ?_|refine Ydg ?_|refine Yb2 ?_|refine Yay ?_)|refine Yeu ?_|refine Yei ?_)
 exact ⟨rfl,hS⟩
theorem Z3m (n : Nat) (rd fs : List Int) (W : World) (hG : Gl W noF rd fs) :
  Calls Tryz.prog 85 #[.int .i64 (n : Nat)] W (Ret fun v w => ∃ p,v = .slice (some ⟨p,0,none⟩) 64 64 ∧ St W noF [bytes (some ⟨p,0,none⟩) (Zcq rd fs n)] w) := by
 have hS := St.start W
 have hcl : [Value.int .u8 67,.int .u8 82,.int .u8 69,.int .u8 69,.int .u8 76] = bv Zeo := rfl
 refine Zab Tryz.func85 rfl Tryz.ntmps85 rfl ?_
 repeat (first|refine Yeg ?_|refine Yev ?_|refine Yeh ?_|refine Yab ?_)
 refine Zaa _ rfl rfl rfl rfl rfl (Zoh (n : Nat) 4 (by omega) _) ?_
 rintro _ w ⟨a1,k1,rfl,hk1,hS'⟩
 replace hS := hS.plus hS'
 clear hS'
 repeat (first|refine Yeg ?_|refine Yag ?_|refine Ybd (fun _ _ hS _ => ?_)|refine Yeh ?_|refine Yab ?_)
 rename_i b0 _ _
 refine Zcw rfl rfl rfl rfl hS (by simp) (fun w hS => ?_)
 repeat (first|refine Yaa ?_|refine Yaf ?_|refine Ybd (fun _ _ hS _ => ?_))
 rename_i b1 w1 _
 have hB := Bss.ofRd (w := w1) (a := some ⟨b1,0,none⟩) (l := [⟨some ⟨b0,0,none⟩,5,Zeo⟩,⟨a1,k1,bigB (n : Nat) 4⟩]) (by simpa [Bs.val,Zah,Zeo] using hS.ownRd (a := some ⟨b1,0,none⟩)) (fun x hx => by
  simp only [List.mem_cons,List.not_mem_nil,or_false] at hx
  rcases hx with rfl | rfl
  ·exact hS.rd (by simp [bytes,← hcl])
  ·exact hS.ownRd)
 have hfl : (Za1 (Zam [⟨some ⟨b0,0,none⟩,5,Zeo⟩,⟨a1,k1,bigB (n : Nat) 4⟩])).length < 1152921504606846976 := by simp [Za1,Zam,Za4,Zah,Zeo]
 have hl32 : LenO (bv (digest rd fs (Zam [⟨some ⟨b0,0,none⟩,5,Zeo⟩,⟨a1,k1,bigB (n : Nat) 4⟩]))) 32 := ⟨by rw [Zag]; exact Zao _ _ _⟩
 refine Zad _ rfl rfl rfl rfl rfl hS (Zom _ 2 _ rd fs _ hfl (by simp) (hG.mono fun r hr => (hr.rd hS).ro) hB) ?_
 rintro _ w rfl hS
 clear hB hfl
 repeat (first|refine Yeg ?_|refine Yao (fun _ hS _ => ?_)|refine Yar (fun _ _ hS _ => ?_)|refine Ybd (fun _ _ hS _ => ?_)|refine Yeh ?_|refine Yab ?_)
 rename_i b2 _ _ _ _ _ _ b4 _ _
 refine Zcw rfl rfl rfl rfl hS (by simp) (fun w hS => ?_)
 repeat (first|refine Yaa ?_|refine Yaf ?_|refine Ydh ?_|refine Ybd (fun _ _ hS _ => ?_))
 rename_i b6 w6 _
 have hB := Bss.ofRd (w := w6) (a := some ⟨b6,0,none⟩) (l := [⟨some ⟨b4,0,none⟩,5,Zeo⟩,⟨a1,k1,bigB (n : Nat) 4⟩,⟨some ⟨b2,0,none⟩,32,digest rd fs [Zeo,bigB (n : Nat) 4]⟩]) (by simpa [Bs.val,Zah,Zeo,Zao] using hS.ownRd (a := some ⟨b6,0,none⟩)) (fun x hx => by
  simp only [List.mem_cons,List.not_mem_nil,or_false] at hx
  rcases hx with rfl | rfl | rfl
  ·exact hS.rd (by simp [bytes,← hcl])
  ·exact hS.ownRd
  ·exact (hS.rd (r := pts b2 (.cells (bv (digest rd fs [Zeo,bigB (n : Nat) 4])).toArray 56)) (by simp [Zam])).ptsB (T := 56))
 refine Zaa _ rfl rfl rfl rfl rfl (Zlm _ 3 _ _ hB (by simp) (by simp [Zal,Zah,Zao,Zeo])) ?_
 rintro _ w ⟨a',c',rfl,hc',hS'⟩
 replace hS := hS.plus hS'
 clear hS' hB
 repeat (first|refine Yaa ?_)
 refine Zaa _ rfl rfl rfl rfl rfl (Zon a' c' (Zal [⟨some ⟨b4,0,none⟩,5,Zeo⟩,⟨a1,k1,bigB (n : Nat) 4⟩,⟨some ⟨b2,0,none⟩,32,digest rd fs [Zeo,bigB (n : Nat) 4]⟩]) _ hS.ownRd) ?_
 rintro _ w ⟨p,rfl,hS'⟩
 replace hS := hS.plus hS'
 clear hS'
 repeat (first|refine Yeg ?_|refine Yag ?_|refine Yah ?_|refine Yei ?_)
 refine ⟨p,rfl,?_⟩
 have h := hS.pick [0]
 unfold Zcq
 simpa [Zal] using h
theorem Ze9 (a : Option Addr) (n c : Nat) (s : List UInt8) (W : World) (hs : Rd W (bytes a s)) (hn : s.length = n) (hlim : n ≤ 1073741824) :
  Calls Tryz.prog 73 #[.slice a n c] W (Ret fun v w => ∃ a' c',v = .slice a' n c' ∧ (a' = none ↔ a = none) ∧ n ≤ c' ∧ St W noF [own 5 1 a' c' (bv s)] w) := by
 have hS := St.start W
 cases a with
 | none =>
  have h0 : bv s = [] := hs.none_nil
  obtain rfl : n = 0 := by rw [← hn,← Zag s,h0]; rfl
  refine Zab Tryz.func73 rfl Tryz.ntmps73 rfl ?_
  repeat (first|refine Yeg ?_|refine Yaf ?_|refine Yag ?_|refine Ycy ?_|refine Yey ?_|refine Yez ?_)
  refine ⟨none,0,rfl,by simp,by omega,?_⟩
  rw [h0]
  exact hS.own_none _ _ _
 | some ad =>
  refine Zab Tryz.func73 rfl Tryz.ntmps73 rfl ?_
  repeat (first|refine Yeg ?_|refine Yaf ?_|refine Yag ?_|refine Ycy ?_|refine Ybd (fun _ _ hS _ => ?_)|refine Yes ?_|refine Yab ?_)
  rename_i b w hb
  have hs := hs.below hb
  repeat (first|fail)
  refine Zap rfl rfl rfl rfl rfl hS rfl (by omega) hs (by simp [hn]) Zc6 (by omega) (by simp only [maxLen]; omega) (fun a' c' w hS hc hnil => ?_)
  repeat (first|refine Yeg ?_|refine Yag ?_|refine Yah ?_|refine Yei ?_)
  refine ⟨a',c',by rw [Nat.zero_add],by rw [hnil]; simp,by omega,hS⟩
theorem Z5j (a b : Option Addr) (n m c c' : Nat) (s t : List UInt8) (W : World) (ha : Rd W (bytes a s)) (hb : Rd W (bytes b t)) (hn : s.length = n) (hm : t.length = m) :
  Calls Tryz.prog 58 #[.slice a n c,.slice b m c'] W (Ret fun v w => v = .bool (decide (s = t)) ∧ W = w) := by
 refine Zab Tryz.func58 rfl Tryz.ntmps58 rfl ?_
 repeat (first|refine Yeg ?_|refine Yev ?_|refine Yeh ?_|refine Yab ?_)
 refine X_yl (Zct rfl rfl ha hn) rfl rfl ?_
 repeat (first|refine Yaa ?_|refine Yaf ?_)
 refine X_yl (Zct rfl rfl hb hm) rfl rfl ?_
 repeat (first|refine Yeg ?_|(refine X_id ?_;first|refine Yag ?_|refine X_yl (Zfm rfl rfl rfl) rfl rfl ?_)|refine Yah ?_|refine Yei ?_)
 exact ⟨rfl,rfl⟩
end Cr
namespace Cr
open Go Go.MapKept
set_option maxRecDepth 10000
set_option maxHeartbeats 64000000

structure StampOk (es : Array MapEntry) (clock : Nat) : Prop where
 low : ∀ e ∈ es.toList,e.born < clock
 apart : (es.toList.map (·.born)).Nodup
def kvs (es : Array MapEntry) : List (Value × Value) := es.toList.map fun e => (e.key,e.val)
def mapq {α : Type} (mk : α → Value) (r : Nat) (L : List (α × Value)) : Res := fun h => ∃ (es : Array MapEntry) (clock : Nat),kvs es = L.map (fun x => (mk x.1,x.2)) ∧ StampOk es clock ∧ pts r (.map es clock) h
section
variable {α : Type}
theorem St.openMap {W : World} {F : Nat → Prop} {mk : α → Value} {r : Nat} {L : List (α × Value)} {rs : List Res} {w : World} (hS : St W F (mapq mk r L :: rs) w) : ∃ es clock,kvs es = L.map (fun x => (mk x.1,x.2)) ∧ StampOk es clock ∧ St W F (pts r (.map es clock) :: rs) w := by
 obtain ⟨h,⟨h1,h2,⟨es,clock,a,b,hp⟩,hs,hd,hu⟩,s⟩ := hS
 exact ⟨es,clock,a,b,h,⟨h1,h2,hp,hs,hd,hu⟩,s⟩
theorem Ro.openMap {W : World} {F : Nat → Prop} {mk : α → Value} {r : Nat} {L : List (α × Value)} (H : Ro W F (mapq mk r L)) : ∃ es clock,kvs es = L.map (fun x => (mk x.1,x.2)) ∧ StampOk es clock ∧ Ro W F (pts r (.map es clock)) := by
 obtain ⟨h,⟨es,clock,a,b,hp⟩,ha⟩ := H
 exact ⟨es,clock,a,b,h,hp,ha⟩
theorem Rd.openMap {w : World} {mk : α → Value} {r : Nat} {L : List (α × Value)} (H : Rd w (mapq mk r L)) : ∃ es clock,kvs es = L.map (fun x => (mk x.1,x.2)) ∧ StampOk es clock ∧ Rd w (Cr.pts r (.map es clock)) := by
 obtain ⟨h,⟨es,clock,a,b,hp⟩,ha⟩ := H
 exact ⟨es,clock,a,b,h,hp,ha⟩
theorem Rd.mapq_r {w : World} {mk : α → Value} {r : Nat} {L : List (α × Value)} (H : Rd w (mapq mk r L)) : Rd w (mapr mk r L) := by
 obtain ⟨h,⟨es,clock,a,b,hp⟩,ha⟩ := H
 exact ⟨h,⟨es,clock,a,hp⟩,ha⟩
end
def delM {α : Type} [DecidableEq α] (k : α) : List (α × Value) → List (α × Value)
 | [] => []
 | x :: l => if k = x.1 then l else x :: delM k l
section
variable {α : Type} [DecidableEq α]
theorem Zlj {d : TypeDesc} {mk : α → Value} [hk : Key d mk] (k : α) : ∀ (L : List (α × Value)) (es : List MapEntry) (i : Nat),es.map (fun e => (e.key,e.val)) = L.map (fun x => (mk x.1,x.2)) →
  (Instr.findNow d (mk k) es i = some none ∧ delM k L = L) ∨ ∃ j v,Instr.findNow d (mk k) es i = some (some (j,v)) ∧ i ≤ j ∧ j - i < es.length ∧ (es.eraseIdx (j - i)).map (fun e => (e.key,e.val)) = (delM k L).map (fun x => (mk x.1,x.2))
 | [],[],i,_ => .inl ⟨rfl,rfl⟩
 | [],_ :: _,_,h => by simp at h
 | _ :: _,[],_,h => by simp at h
 | x :: L,e :: es,i,h => by
  simp only [List.map_cons,List.cons.injEq,Prod.mk.injEq] at h
  obtain ⟨⟨h1,h2⟩,h3⟩ := h
  unfold Instr.findNow delM
  rw [h1,hk.same]
  by_cases hkx : k = x.1
  ·right
   exact ⟨i,e.val,by simp [hkx],Nat.le_refl _,by simp,by simp [hkx,h3]⟩
  ·rcases Zlj (d := d) k L es (i + 1) h3 with ⟨g1,g2⟩ | ⟨j,v,g1,g2,g4,g3⟩
   ·left
    exact ⟨by simp [hkx,g1],by simp [hkx,g2]⟩
   ·right
    have e1 : j - i = (j - (i + 1)) + 1 := by omega
    refine ⟨j,v,by simp [hkx,g1],by omega,by simp; omega,?_⟩
    rw [e1,List.eraseIdx_cons_succ,List.map_cons,g3,if_neg hkx,h1,h2]
    rfl
variable {P : Program} {o : Oper} {σ : Env} {w : World} {x y : Operand} {t kt et : TypeId} {N : Nat} {ds : Md} {K : Env → World → Prop} {mk : α → Value} {dd : TypeDesc}
theorem Zfo {β : Type} {d : Nat} {W : World} {F : Nat → Prop} {rs : List Res} (mk : β → Value) (ho : o.op = .makeMap t none) (hd : o.dst = some d) (hN : Nat.blt d N = true) (hS : St W F rs w)
  (hk : ∀ r w',St W F (mapq mk r [] :: rs) w' → K ((d,.map (some r)) :: σ) w') : X P o N ds σ w K := ⟨fun f ha K' Q' hK => by
 unfold Oper.wp
 have hexec : (execOp f.eval o).run P w = .ok (.value (.map (some w.heap.size))) (w.alloc (.map #[] 0)) := by
  have : (Instr.makeMap t none).run P w = .ok (.map (some w.heap.size)) (w.alloc (.map #[] 0)) := rfl
  simp [execOp,ho,this]
 rw [hexec]
 have := hK _ _ _ (ha.put (Zaq hN) (.map (some w.heap.size))) (hk w.heap.size _ ((hS.alloc (.map #[] 0)).head fun h hh => ⟨#[],0,rfl,⟨by simp,by simp⟩,hh⟩))
 rw [← hd] at this
 exact this⟩
theorem Zhr {r : Nat} {L : List (α × Value)} {k : α} {z : Value} {n m : Nat} (ho : o.op = .lookup t x y true) (hx : ev σ x = some (.map (some r))) (hy : ev σ y = some (mk k)) [hu : Und P t (.map kt et)] [hkt : Und P kt dd] [hK : Key dd mk] [hi : Inf P et z n m]
  (hr : Rd w (mapr mk r L)) : Yl P o σ w (.tuple #[(getM k L).getD z,.bool (getM k L).isSome]) := ⟨fun N ds f ha => by
 obtain ⟨h,⟨es,clock,hes,rfl⟩,hag⟩ := hr
 have hb : w.heap[r]? = some (.map es clock) := hag r _ (Zar _ _)
 obtain ⟨q,g1,g2,_⟩ := Zdc (hk := hK) k L es.toList 0 hes
 obtain ⟨i,hi',hz',_⟩ := info_parts hi.inf
 have hc := run_checkKey (P := P) (w := w) hkt.und (hK.isKey k) es.isEmpty 9999
 have hf := run_findKey (P := P) (w := w) hkt.und g1
 have hg : (getObj r).run P w = .ok (.map es clock) w := by simp [getObj,Sem.run,hb]
 simp only [execOp,ho,ha.eval hx,ha.eval hy,Instr.lookup,Sem.run_bind,run_underlying hu.und,hg,hc,hf,Result.andThen_ok,Sem.run_pure]
 rw [← g2]
 cases q <;> simp [zeroValue,typeInfo,hi',hz']⟩
theorem Zmn {es : Array MapEntry} {clock : Nat} (h : StampOk es clock) (k v : Value) : StampOk (es.push { key := k,val := v,born := clock }) (clock + 1) := by
 refine ⟨fun e he => ?_,?_⟩
 ·simp only [Array.toList_push,List.mem_append,List.mem_singleton] at he
  rcases he with he | rfl
  ·have := h.low e he; omega
  ·exact Nat.lt_succ_self _
 ·rw [Array.toList_push,List.map_append,List.nodup_append]
  refine ⟨h.apart,by simp,fun a ha b hb => ?_⟩
  obtain ⟨e,he,rfl⟩ := List.mem_map.1 ha
  have := h.low e he
  simp at hb
  omega
theorem Zjl {es : Array MapEntry} {clock : Nat} (h : StampOk es clock) (j : Nat) (f : MapEntry → MapEntry) (hf : ∀ e,(f e).born = e.born) : StampOk (es.modify j f) clock := by
 have e1 : (es.modify j f).toList.map (·.born) = es.toList.map (·.born) := by
  rw [Array.toList_modify]
  generalize es.toList = l
  induction l generalizing j with
  | nil => simp
  | cons x l ih =>
   cases j with
   | zero => simp [hf]
   | succ j => simp [ih]
 refine ⟨fun e he => ?_,by rw [e1]; exact h.apart⟩
 have : e.born ∈ (es.modify j f).toList.map (·.born) := List.mem_map.2 ⟨e,he,rfl⟩
 rw [e1] at this
 obtain ⟨e',he',hb⟩ := List.mem_map.1 this
 rw [← hb]
 exact h.low e' he'
theorem Zrq {es : Array MapEntry} {clock : Nat} (h : StampOk es clock) (j : Nat) (hj : j < es.size) : StampOk (es.eraseIdx j hj) clock := by
 have hsub : (es.eraseIdx j hj).toList.Sublist es.toList := by rw [Array.toList_eraseIdx]; exact List.eraseIdx_sublist _ _
 exact ⟨fun e he => h.low e (hsub.subset he),h.apart.sublist (hsub.map _)⟩
theorem Ze2 {r : Nat} {L : List (α × Value)} {k : α} {v : Value} {W : World} {F : Nat → Prop} {rs : List Res} {z : Operand} (ho : o.op = .mapUpdate t x y z) (hx : ev σ x = some (.map (some r))) (hy : ev σ y = some (mk k)) (hz : ev σ z = some v) [hu : Und P t (.map kt et)] [hkt : Und P kt dd] [hK : Key dd mk]
  (hd : o.dst = none) (hS : St W F (mapq mk r L :: rs) w) (hk : ∀ w',St W F (mapq mk r (setM k v L) :: rs) w' → K σ w') : X P o N ds σ w K := ⟨fun f ha K' Q' hKK => by
 obtain ⟨es,clock,hes,hst,hS2⟩ := hS.openMap
 have hb : w.heap[r]? = some (.map es clock) := hS2.get
 obtain ⟨q,g1,g2,_⟩ := Zdc (hk := hK) k L es.toList 0 hes
 have hc := run_checkKey (P := P) (w := w) hkt.und (hK.isKey k) false 9999
 have hf := run_findKey (P := P) (w := w) hkt.und g1
 have hg : (getObj r).run P w = .ok (.map es clock) w := by simp [getObj,Sem.run,hb]
 have hset : ∀ o',(setObj r o').run P w = .ok () { w with heap := w.heap.setIfInBounds r o' } := fun o' => run_setObj_map o' hb
 unfold Oper.wp
 have key : ∃ es' clock',(execOp f.eval o).run P w = .ok .skip { w with heap := w.heap.setIfInBounds r (.map es' clock') } ∧ kvs es' = (setM k v L).map (fun x => (mk x.1,x.2)) ∧ StampOk es' clock' := by
  cases hq : q with
  | none =>
   subst hq
   refine ⟨es.push { key := mk k,val := v,born := clock },clock + 1,?_,?_,Zmn hst _ _⟩
   ·simp only [execOp,ho,ha.eval hx,ha.eval hy,ha.eval hz,Instr.mapUpdate,Sem.run_bind,run_underlying hu.und,hg,hc,hf,hset,Result.andThen_ok,Sem.run_pure]
   ·rw [Zh2 (by rw [← g2]; rfl)]
    have hes' : es.toList.map (fun e => (e.key,e.val)) = L.map (fun x => (mk x.1,x.2)) := hes
    simp [kvs,hes']
  | some p =>
   obtain ⟨j,u⟩ := p
   subst hq
   obtain ⟨g4,g5,g6⟩ := Zh1 (v := v) L es.toList 0 hes j u g1
   simp only [Nat.sub_zero] at g4 g6
   have hek : ((es[j]?).map (·.key)).getD (mk k) = mk k := by
    rw [← Array.getElem?_toList,g6]; rfl
   refine ⟨es.modify j fun e => { e with key := mk k,val := v },clock,?_,?_,Zjl hst _ _ (fun _ => rfl)⟩
   ·simp only [execOp,ho,ha.eval hx,ha.eval hy,ha.eval hz,Instr.mapUpdate,Sem.run_bind,run_underlying hu.und,hg,hc,hf,hset,Result.andThen_ok,Sem.run_pure,hek,Instr.keyThatStays,hK.bits,if_true]
   ·simpa [kvs,Array.toList_modify] using g4
 obtain ⟨es',clock',hexec,hes',hst'⟩ := key
 rw [hexec]
 have u := Za8 (o' := .map es' clock') hb
 refine hKK _ _ _ (?_ : Fr σ N ds _) (hk _ ((hS2.set u).head fun h hh => ⟨es',clock',hes',hst',hh⟩))
 rw [hd]; exact ha⟩
end
/-! ### going through a map -/
def Zdr (es : Array MapEntry) (seen : Array Nat) : List MapEntry := es.toList.filter fun e => !seen.contains e.born
theorem Zlb (es : Array MapEntry) : Zdr es #[] = es.toList := by simp [Zdr]
theorem Zh5 (e : MapEntry) : ∀ (l : List MapEntry),(l.map (·.born)).Nodup → e ∈ l → l.Perm (e :: l.filter fun x => !(x.born == e.born))
 | x :: l,hn,he => by
  have hn' : x.born ∉ l.map (·.born) ∧ (l.map (·.born)).Nodup := List.nodup_cons.1 hn
  by_cases hx : x.born = e.born
  ·rcases List.mem_cons.1 he with rfl | he
   ·have : l.filter (fun x => !(x.born == e.born)) = l := List.filter_eq_self.2 fun y hy => by
     have : y.born ≠ e.born := fun q => hn'.1 (by rw [← q]; exact List.mem_map.2 ⟨y,hy,rfl⟩)
     simpa using this
    rw [List.filter_cons_of_neg (by simp),this]
   ·exact absurd (show x.born ∈ l.map (·.born) by rw [hx]; exact List.mem_map.2 ⟨e,he,rfl⟩) hn'.1
  ·have he' : e ∈ l := (List.mem_cons.1 he).resolve_left fun q => hx (by rw [q])
   have ih := Zh5 e l hn'.2 he'
   rw [List.filter_cons_of_pos (by simpa using hx)]
   exact (ih.cons x).trans (.swap _ _ _)
theorem Zm3 {es : Array MapEntry} {clock : Nat} (h : StampOk es clock) {seen : Array Nat} {e : MapEntry} (he : e ∈ Zdr es seen) : (Zdr es seen).Perm (e :: Zdr es (seen.push e.born)) := by
 have hn : ((Zdr es seen).map (·.born)).Nodup := h.apart.sublist ((List.filter_sublist ..).map _)
 have h1 := Zh5 e _ hn he
 have h2 : Zdr es (seen.push e.born) = (Zdr es seen).filter fun x => !(x.born == e.born) := by
  unfold Zdr
  rw [List.filter_filter]
  refine List.filter_congr fun x _ => ?_
  have e3 : (x.born == e.born) = decide (x.born = e.born) := by by_cases h : x.born = e.born <;> simp [h]
  simp [e3,Bool.and_comm]
 rw [h2]
 exact h1
section
variable {P : Program} {o : Oper} {σ : Env} {w : World} {x y : Operand} {t kt et : TypeId} {N : Nat} {ds : Md} {K : Env → World → Prop}
theorem Zru (w : World) (ty : TypeId) (it bm since c0 : Nat) (seen : Array Nat) (es : Array MapEntry) (clock : Nat) (hi : w.heap[it]? = some (.mapIter (some bm) since seen c0)) (hb : w.heap[bm]? = some (.map es clock)) (hold : ∀ x ∈ es.toList,x.born < since) (hsc : since ≤ c0) :
  (Zdr es seen = [] ∧ (Instr.next (.pointer (some ⟨it,0,none⟩)) false ty).run P w = .ok (.tuple #[.bool false]) w) ∨
  ∃ e ∈ Zdr es seen,∃ w1 : World,(w1 = w ∨ w1 = w.drew) ∧ (Instr.next (.pointer (some ⟨it,0,none⟩)) false ty).run P w = .ok (.tuple #[.bool true,e.key,e.val]) { w1 with heap := w1.heap.setIfInBounds it (.mapIter (some bm) since (seen.push e.born) clock) } := by
 simp only [Instr.next,getObj,Sem.run_bind,Sem.run,hi,hb,Result.andThen,next_test_false seen es since c0 hold hsc,Bool.false_eq_true,if_false]
 have hLe : Zdr es seen = (Array.filter (fun e => !seen.contains e.born) es).toList := by simp [Zdr]
 rw [hLe]
 have hmem : ∀ x ∈ (Array.filter (fun e => !seen.contains e.born) es).toList,x.born < since := fun x hx => hold x (by simp at hx ⊢; exact hx.1)
 generalize Array.filter (fun e => !seen.contains e.born) es = L at hmem ⊢
 have e1 : L.filter (fun x => decide (x.born < since)) = L := Array.filter_eq_self.2 (fun x hx => by simpa using hmem x (by simpa using hx))
 have e2 : L.filter (fun x => decide (x.born ≥ since)) = #[] := by
  rw [Array.filter_eq_empty_iff]
  intro x hx
  have := hmem x (by simpa using hx)
  simp
  omega
 simp only [e1,e2,Array.append_empty]
 by_cases h0 : L.size = 0
 ·left
  have : L = #[] := Array.eq_empty_of_size_eq_zero h0
  subst this
  refine ⟨rfl,?_⟩
  simp [choose,Sem.run,Question.forced]
 ·right
  have hne : L.isEmpty = false := by simp [Array.isEmpty,h0]
  simp only [hne,Bool.false_eq_true,if_false,Array.empty_append,Array.size_map]
  have hch : ∃ (j : Nat) (w1 : World),j < L.size ∧ (w1 = w ∨ w1 = w.drew) ∧ (choose (Question.mapNext L.size)).run P w = .ok j w1 := by
   by_cases hf : L.size ≤ 1
   ·exact ⟨0,w,by omega,.inl rfl,by simp [choose,Sem.run,Question.forced,hf]⟩
   ·exact ⟨_,w.drew,Nat.mod_lt _ (by omega),.inr rfl,by
     simp only [choose,Sem.run,Question.forced,decide_eq_true_eq,hf,if_false,Question.cut]
     rfl⟩
  obtain ⟨j,w1,hj,hal,hrun⟩ := hch
  refine ⟨L[j],by simp,w1,hal,?_⟩
  have hi1 : w1.heap[it]? = some (.mapIter (some bm) since seen c0) := by rcases hal with rfl | rfl <;> exact hi
  have hset : ∀ o' : Obj,(setObj it o').run P w1 = .ok () { w1 with heap := w1.heap.setIfInBounds it o' } := fun o' => by simp [setObj,Sem.run,hi1]
  simp only [hrun,Array.getElem?_map,Array.getElem?_eq_getElem hj,Option.map_some,Sem.run_bind,hset,Result.andThen]
  rfl
theorem Znn {bm d : Nat} {es : Array MapEntry} {clock : Nat} {W : World} {F : Nat → Prop} {rs : List Res} (ho : o.op = .range t x) (hx : ev σ x = some (.map (some bm))) [hu : Und P t (.map kt et)] (hm : Rd w (pts bm (.map es clock))) (hd : o.dst = some d) (hN : Nat.blt d N = true) (hS : St W F rs w)
  (hk : ∀ it w',St W F (pts it (.mapIter (some bm) clock #[] clock) :: rs) w' → RowKit.Below w.heap.size w w' → K ((d,.pointer (some ⟨it,0,none⟩)) :: σ) w') : X P o N ds σ w K := ⟨fun f ha K' Q' hK => by
 have hb : w.heap[bm]? = some (.map es clock) := by obtain ⟨h,rfl,hag⟩ := hm; exact hag bm _ (Zar _ _)
 unfold Oper.wp
 have hexec : (execOp f.eval o).run P w = .ok (.value (.pointer (some ⟨w.heap.size,0,none⟩))) (w.alloc (.mapIter (some bm) clock #[] clock)) := by
  simp [execOp,ho,ha.eval hx,run_range_map w t kt et bm es clock hu.und hb]
 rw [hexec]
 have := hK _ _ _ (ha.put (Zaq hN) (.pointer (some ⟨w.heap.size,0,none⟩))) (hk w.heap.size _ (hS.alloc _) ((RowKit.Below.refl _ _).alloc (Nat.le_refl _) _))
 rw [← hd] at this
 exact this⟩
theorem Zrg {it bm d : Nat} {es : Array MapEntry} {clock : Nat} {seen : Array Nat} {W : World} {F : Nat → Prop} {rs : List Res} (ho : o.op = .next x false) (hx : ev σ x = some (.pointer (some ⟨it,0,none⟩))) (hst : StampOk es clock) (hm : Rd w (pts bm (.map es clock))) (hd : o.dst = some d) (hN : Nat.blt d N = true)
  (hS : St W F (pts it (.mapIter (some bm) clock seen clock) :: rs) w) (h0 : Zdr es seen = [] → K ((d,.tuple #[.bool false]) :: σ) w)
  (h1 : ∀ e,e ∈ Zdr es seen → ∀ w',St W F (pts it (.mapIter (some bm) clock (seen.push e.born) clock) :: rs) w' → K ((d,.tuple #[.bool true,e.key,e.val]) :: σ) w') : X P o N ds σ w K := ⟨fun f ha K' Q' hK => by
 have hb : w.heap[bm]? = some (.map es clock) := by obtain ⟨h,rfl,hag⟩ := hm; exact hag bm _ (Zar _ _)
 have hi : w.heap[it]? = some (.mapIter (some bm) clock seen clock) := hS.get
 unfold Oper.wp
 rcases Zru (P := P) w o.type it bm clock clock seen es clock hi hb hst.low (Nat.le_refl _) with ⟨g1,g2⟩ | ⟨e,he,w1,hw1,g2⟩
 ·have hexec : (execOp f.eval o).run P w = .ok (.value (.tuple #[.bool false])) w := by
   simp [execOp,ho,ha.eval hx,g2]
  rw [hexec]
  have := hK _ _ _ (ha.put (Zaq hN) (.tuple #[.bool false])) (h0 g1)
  rw [← hd] at this
  exact this
 ·have hexec : (execOp f.eval o).run P w = .ok (.value (.tuple #[.bool true,e.key,e.val])) { w1 with heap := w1.heap.setIfInBounds it (.mapIter (some bm) clock (seen.push e.born) clock) } := by
   simp [execOp,ho,ha.eval hx,g2]
  rw [hexec]
  have hS1 : St W F (pts it (.mapIter (some bm) clock seen clock) :: rs) w1 := by
   rcases hw1 with rfl | rfl
   ·exact hS
   ·exact hS.drew
  have := hK _ _ _ (ha.put (Zaq hN) (.tuple #[.bool true,e.key,e.val])) (h1 e he _ (hS1.set (Za8 (o' := .mapIter (some bm) clock (seen.push e.born) clock) hS1.get)))
  rw [← hd] at this
  exact this⟩
end
theorem Znc {e : MapEntry} : ∀ {l : List MapEntry},(l.map (·.born)).Nodup → e ∈ l → l.find? (fun x => x.born == e.born) = some e
 | x :: l,hn,he => by
  have hn' : x.born ∉ l.map (·.born) ∧ (l.map (·.born)).Nodup := List.nodup_cons.1 hn
  rcases List.mem_cons.1 he with rfl | he
  ·simp
  ·have : x.born ≠ e.born := fun q => hn'.1 (by rw [q]; exact List.mem_map.2 ⟨e,he,rfl⟩)
   rw [List.find?_cons_of_neg (by simpa using this)]
   exact Znc hn'.2 he
section
variable {P : Program} {o : Oper} {σ : Env} {w : World} {x y : Operand} {t kt et : TypeId} {N : Nat} {ds : Md} {K : Env → World → Prop}
theorem Zuv {it bm since : Nat} {es : Array MapEntry} {clock : Nat} {seen : Array Nat} {e : MapEntry} (ho : o.op = .entry x) (hx : ev σ x = some (.pointer (some ⟨it,0,none⟩))) (hst : StampOk es clock) (he : e ∈ es.toList) (hi : w.heap[it]? = some (.mapIter (some bm) since (seen.push e.born) clock)) (hb : w.heap[bm]? = some (.map es clock)) :
  Yl P o σ w (.tuple #[e.key,e.val]) := ⟨fun N ds a ha => by
 have hg : (getObj it).run P w = .ok (.mapIter (some bm) since (seen.push e.born) clock) w := by simp [getObj,Sem.run,hi]
 have hm : (getObj bm).run P w = .ok (.map es clock) w := by simp [getObj,Sem.run,hb]
 have hf : es.find? (fun x => x.born == e.born) = some e := by rw [← Array.find?_toList]; exact Znc hst.apart he
 simp only [execOp,ho,ha.eval hx,Instr.entry,Sem.run_bind,hg,hm,Result.andThen_ok,Array.back?_push]
 simp [hf,Result.andThen]⟩
variable {α : Type} [DecidableEq α] {mk : α → Value} {dd : TypeDesc}
theorem Zgo {r : Nat} {L : List (α × Value)} {k : α} {W : World} {F : Nat → Prop} {rs : List Res} {ts : TypeId} (ho : o.op = .call { callee := .builtin .delete,args := #[x,y],argTypes := #[t,ts] }) (hx : ev σ x = some (.map (some r))) (hy : ev σ y = some (mk k)) [hu : Und P t (.map kt et)] [hkt : Und P kt dd] [hK : Key dd mk]
  (hd : o.dst = none) (hS : St W F (mapq mk r L :: rs) w) (hk : ∀ w',St W F (mapq mk r (delM k L) :: rs) w' → K σ w') : X P o N ds σ w K := ⟨fun f ha K' Q' hKK => by
 obtain ⟨es,clock,hes,hst,hS2⟩ := hS.openMap
 have hb : w.heap[r]? = some (.map es clock) := hS2.get
 have hc := run_checkKey (P := P) (w := w) hkt.und (hK.isKey k) es.isEmpty 9999
 have hg : (getObj r).run P w = .ok (.map es clock) w := by simp [getObj,Sem.run,hb]
 have hset : ∀ o',(setObj r o').run P w = .ok () { w with heap := w.heap.setIfInBounds r o' } := fun o' => run_setObj_map o' hb
 unfold Oper.wp
 have key : ∃ es' w',(execOp f.eval o).run P w = .ok (.value (.tuple #[])) w' ∧ SetBlock w w' r (.map es' clock) ∧ kvs es' = (delM k L).map (fun x => (mk x.1,x.2)) ∧ StampOk es' clock := by
  rcases Zlj (hk := hK) k L es.toList 0 hes with ⟨g1,g2⟩ | ⟨j,v,g1,_,g4,g3⟩
  ·have hf := run_findKey (P := P) (w := w) hkt.und g1
   refine ⟨es,{ w with heap := w.heap.setIfInBounds r (.map es clock) },?_,Za8 hb,by rw [g2]; exact hes,hst⟩
   simp [execOp,ho,resolve,invoke,builtin,ha.eval hx,ha.eval hy,Builtin.delete_,run_underlying hu.und,hg,hc,hf,hset,Result.andThen]
  ·have hf := run_findKey (P := P) (w := w) hkt.und g1
   simp only [Nat.sub_zero,Array.length_toList] at g4 g3
   refine ⟨es.eraseIdx j g4,{ w with heap := w.heap.setIfInBounds r (.map (es.eraseIdx j g4) clock) },?_,Za8 hb,by rw [← g3]; simp [kvs,Array.toList_eraseIdx],Zrq hst j g4⟩
   have e1 : es.eraseIdxIfInBounds j = es.eraseIdx j g4 := by unfold Array.eraseIdxIfInBounds; rw [dif_pos g4]
   simp [execOp,ho,resolve,invoke,builtin,ha.eval hx,ha.eval hy,Builtin.delete_,run_underlying hu.und,hg,hc,hf,hset,Result.andThen,e1]
 obtain ⟨es',w',hexec,u,hes',hst'⟩ := key
 rw [hexec]
 refine hKK _ _ _ (?_ : Fr σ N ds _) (hk _ ((hS2.set u).head fun h hh => ⟨es',clock,hes',hst',hh⟩))
 rw [hd]; exact ha⟩
class EClone (P : Program) (g : FuncId) : Prop where
 run : ∀ {t : TypeId} {r : Nat} {es : Array MapEntry} {clock : Nat} {w : World},w.heap[r]? = some (.map es clock) → (callFunc g #[.iface t (.map (some r))]).run P w = .ok (.value (.iface t (.map (some w.heap.size)))) (w.alloc (.map es clock))
theorem Zra {a : Option Nat} {t2 : TypeId} {k e : TypeId} (ho : o.op = .binOp .eql t x y t2) (hx : ev σ x = some (.map a)) (hy : ev σ y = some (.map none)) [h : Und P t (.map k e)] : Yl P o σ w (.bool a.isNone) := ⟨fun N ds f ha => by
 simp only [execOp,ho,ha.eval hx,ha.eval hy,eqGuard,binOp,Sem.run_bind,Sem.run_pure,Result.andThen_ok,Zn6 (e := e)]; cases a <;> rfl⟩
theorem Zq6 {v : Value} (ho : o.op = .makeInterface t x) (hx : ev σ x = some v) (hi : ∀ w,(Instr.makeInterface t v).run P w = .ok (.iface t v) w) : Yl P o σ w (.iface t v) := ⟨fun N ds f ha => by
 simp [execOp,ho,ha.eval hx,hi]⟩
end
end Cr
namespace Cr
open Go Go.Proofs
set_option maxRecDepth 100000
set_option maxHeartbeats 64000000
attribute [local irreducible] Calls

structure SV where
 s : Sto
 da : Option Addr
 dc : Nat
 ba : Option Addr
 bc : Nat
abbrev SV.val (x : SV) : Value := .agg (stoV x.s x.da x.dc x.ba x.bc).toArray
abbrev AV := List (Int × SV)
def AV.ents (A : AV) : Ents := A.map fun x => (x.1,x.2.s)
def AV.vals (A : AV) : List (Int × Value) := A.map fun x => (x.1,x.2.val)
def AV.rows (A : AV) : List RowD := A.flatMap fun x => [(x.2.da,bv x.2.s.nd.data),(x.2.ba,ints .i64 x.2.s.blocks)]
theorem AV.row_d {A : AV} {x : Int × SV} (h : x ∈ A) : (x.2.da,bv x.2.s.nd.data) ∈ A.rows := List.mem_flatMap.2 ⟨x,h,by simp⟩
theorem AV.row_b {A : AV} {x : Int × SV} (h : x ∈ A) : (x.2.ba,ints .i64 x.2.s.blocks) ∈ A.rows := List.mem_flatMap.2 ⟨x,h,by simp⟩
theorem AV.mem_ents {A : AV} {x : Int × SV} (h : x ∈ A) : (x.1,x.2.s) ∈ A.ents := List.mem_map.2 ⟨x,h,rfl⟩
theorem Zye {k : Int} : ∀ A : AV,getM k A.vals = (getA k A).map SV.val
 | [] => rfl
 | x :: A => by
  have ih := Zye (k := k) A
  simp only [AV.vals,List.map_cons,getM,getA] at ih ⊢
  split
  ·rfl
  ·exact ih
theorem Z2l {k : Int} {v : SV} : ∀ A : AV,setM k v.val A.vals = AV.vals (setA k v A)
 | [] => rfl
 | x :: A => by
  have ih := Z2l (k := k) (v := v) A
  simp only [AV.vals,List.map_cons,setM,setA] at ih ⊢
  split
  ·rfl
  ·rw [ih]; rfl
theorem Z20 {k : Int} : ∀ A : AV,delM k A.vals = AV.vals (delA k A)
 | [] => rfl
 | x :: A => by
  have ih := Z20 (k := k) A
  simp only [AV.vals,List.map_cons,delM,delA] at ih ⊢
  split
  ·rfl
  ·rw [ih]; rfl
theorem Z1x {k : Int} (A : AV) : getA k A.ents = (getA k A).map SV.s := Zt8 SV.s
def atT (T : Tb) (no : Int) : Option Nd := if 0 ≤ no then T.getD no.toNat none else none
theorem Z9g {A : Ents} {n : Nat} (hk : ∀ k ∈ Zaw A,0 ≤ k ∧ k < n) (no : Int) : atT (tabOf A n) no = (getA no A).map (·.nd) := by
 unfold atT
 by_cases h0 : 0 ≤ no
 ·rw [if_pos h0]
  by_cases h1 : no.toNat < n
  ·rw [List.getD_eq_getElem?_getD,Zf6 A h1,Option.getD_some,show ((no.toNat : Nat) : Int) = no by omega]
  ·rw [List.getD_eq_getElem?_getD,List.getElem?_eq_none (by rw [Zb6]; omega),Option.getD_none,getA_none.2 (fun h => by have := hk no h; omega)]; rfl
 ·rw [if_neg h0,getA_none.2 (fun h => by have := hk no h; omega)]; rfl
structure TabOk (rd fs : List Int) (n nb : Nat) (T : Tb) (A : AV) (dat : List (List UInt8)) : Prop where
 tab : tabOf A.ents n = T
 enc : Enc rd fs dat n nb A.ents
 n1 : 1 ≤ n
 n4 : n ≤ 400
 nb1 : 1 ≤ nb
def itab (rd fs : List Int) (tp lp p j m n nb : Nat) (T : Tb) : Res := fun h => ∃ (r : Nat) (A : AV) (dat : List (List UInt8)),TabOk rd fs n nb T A dat ∧ Sep [Ziz tp lp n r,mapq (Value.int .i64) r A.vals,bag A.rows,qlog lp p j m dat] h
structure ItabRd (w : World) (rd fs : List Int) (tp lp p j m n nb : Nat) (T : Tb) (r : Nat) (A : AV) (dat : List (List UInt8)) : Prop where
 ok : TabOk rd fs n nb T A dat
 t : Rd w (Ziz tp lp n r)
 mp : Rd w (mapq (Value.int .i64) r A.vals)
 bg : Rd w (bag A.rows)
 q : Rd w (qlog lp p j m dat)
section
variable {rd fs : List Int} {tp lp p j m n nb : Nat} {T : Tb}
theorem Rd.itab {w : World} (h : Rd w (Cr.itab rd fs tp lp p j m n nb T)) : ∃ r A dat,ItabRd w rd fs tp lp p j m n nb T r A dat := by
 obtain ⟨f,⟨r,A,dat,hok,hs⟩,ha⟩ := h
 have hr := Rd.sep ⟨f,hs,ha⟩
 exact ⟨r,A,dat,hok,hr _ (List.mem_cons_self ..),hr _ (List.mem_cons_of_mem _ (List.mem_cons_self ..)),hr _ (List.mem_cons_of_mem _ (List.mem_cons_of_mem _ (List.mem_cons_self ..))),hr _ (List.mem_cons_of_mem _ (List.mem_cons_of_mem _ (List.mem_cons_of_mem _ (List.mem_cons_self ..))))⟩
theorem St.openItab {W : World} {F : Nat → Prop} {rs : List Res} {w : World} (hS : St W F (itab rd fs tp lp p j m n nb T :: rs) w) : ∃ r A dat,TabOk rd fs n nb T A dat ∧ St W F (Ziz tp lp n r :: mapq (Value.int .i64) r A.vals :: bag A.rows :: qlog lp p j m dat :: rs) w := by
 obtain ⟨h,⟨h1,h2,⟨r,A,dat,hq,hs⟩,hr,hd,hu⟩,s⟩ := hS
 exact ⟨r,A,dat,hq,h,Sep.append_mk hs hr hd hu,s⟩
theorem St.shutItab {W : World} {F : Nat → Prop} {rs : List Res} {w : World} {r : Nat} {A : AV} {dat : List (List UInt8)} (hq : TabOk rd fs n nb T A dat) (hS : St W F (Ziz tp lp n r :: mapq (Value.int .i64) r A.vals :: bag A.rows :: qlog lp p j m dat :: rs) w) : St W F (itab rd fs tp lp p j m n nb T :: rs) w :=
 St.shutR (rs' := [Ziz tp lp n r,mapq (Value.int .i64) r A.vals,bag A.rows,qlog lp p j m dat]) hS fun _ hh => ⟨r,A,dat,hq,hh⟩
theorem TabOk.tlen {A : AV} {dat : List (List UInt8)} (h : TabOk rd fs n nb T A dat) : T.length = n := by rw [← h.tab,Zb6]
theorem TabOk.at_ {A : AV} {dat : List (List UInt8)} (h : TabOk rd fs n nb T A dat) (no : Int) : (getA no A).map (fun x => x.s.nd) = atT T no := by
 rw [← h.tab,Z9g h.enc.keys,Z1x,Option.map_map]; rfl
abbrev ndV (x : Nd) (a : Option Addr) (c : Nat) : List Value := [.int .i64 x.st.kind,.int .i64 x.st.mode,.int .i64 x.st.owner,.int .i64 x.st.group,.slice a x.data.length c]
abbrev nd0 : Value := .agg (List.toArray [.int .i64 0,.int .i64 0,.int .i64 0,.int .i64 0,.slice none 0 0])
theorem Z76 {r : Nat} {A : AV} {dat : List (List UInt8)} (W : World) (hI : ItabRd W rd fs tp lp p j m n nb T r A dat) : Calls Tryz.prog 158 #[.pointer (some ⟨tp,0,none⟩)] W (Ret fun v w => v = .int .i64 (n : Nat) ∧ W = w) := by
 have hc := hI.t.pts
 have hS := St.start W
 refine Zab Tryz.func158 rfl Tryz.ntmps158 rfl ?_
 repeat (first|refine Yeg ?_|(refine X_id ?_;first|refine Yaf ?_|refine Yag ?_|refine Yav ?_|refine Yan ?_|refine Ybu ?_|refine Yb3 ?_)|refine Ye6 ?_|refine Yei ?_)
 exact ⟨rfl,rfl⟩
theorem Z1s (no : Int) (hno : atT T no = none) {r : Nat} {A : AV} {dat : List (List UInt8)} (W : World) (hI : ItabRd W rd fs tp lp p j m n nb T r A dat) :
  Calls Tryz.prog 86 #[.pointer (some ⟨tp,0,none⟩),.int .i64 no] W (Ret fun v w => v = .tuple #[nd0,.int .i64 7] ∧ St W noF [] w) := by
 have hc := hI.t.ro
 have hmo := hI.mp.ro
 have hg : getM no A.vals = none := by
  rw [Zye]
  have := hI.ok.at_ no
  rw [hno] at this
  rw [Option.map_eq_none_iff] at this ⊢
  exact this
 have hS := St.start W
 refine Zab Tryz.func86 rfl Tryz.ntmps86 rfl ?_
 repeat (first|refine Yeg ?_|(refine X_id ?_;first|refine Yaf ?_|refine Yag ?_|refine Yav ?_|refine Yan ?_|refine Ybu ?_|refine Yar (fun _ _ hS _ => ?_)|refine Ycd ?_)|refine Yes ?_|refine Yab ?_)
 refine X_yl (Zhr (mk := Value.int .i64) (L := A.vals) (k := no) rfl rfl rfl ((hmo.rd hS).mapq_r)) rfl rfl ?_
 rw [hg]
 simp only [Option.getD_none,Option.isSome_none]
 repeat (first|refine Yeg ?_|(refine X_id ?_;first|refine Yaf ?_|refine Yag ?_|refine Ya3 ?_|refine Ybq ?_|refine Ybn ?_|refine Yao (fun _ hS _ => ?_)|refine Yar (fun _ _ hS _ => ?_))|refine Yey ?_|refine Yab ?_|refine Yaq ?_|refine Yby ?_)
 exact ⟨rfl,hS.drops⟩
theorem Z1r (no : Int) (x : Nd) (hno : atT T no = some x) {r : Nat} {A : AV} {dat : List (List UInt8)} (W : World) (hI : ItabRd W rd fs tp lp p j m n nb T r A dat) :
  Calls Tryz.prog 86 #[.pointer (some ⟨tp,0,none⟩),.int .i64 no] W (Ret fun v w => ∃ a c,v = .tuple #[.agg (ndV x a c).toArray,.int .i64 0] ∧ x.data.length ≤ c ∧ St W noF [own 5 1 a c (bv x.data)] w) := by
 have hc := hI.t.ro
 have hmo := hI.mp.ro
 have hbo := hI.bg.ro
 obtain ⟨s,hs,rfl⟩ := Option.map_eq_some_iff.1 ((hI.ok.at_ no).trans hno)
 have hg : getM no A.vals = some s.val := by rw [Zye,hs]; rfl
 have hm := Zkc hs
 have hlen := (hI.ok.enc.ok _ (AV.mem_ents hm)).len
 have hda : Ro W noF (bytes s.da s.s.nd.data) := hbo.bag (AV.row_d hm)
 have hS := St.start W
 refine Zab Tryz.func86 rfl Tryz.ntmps86 rfl ?_
 repeat (first|refine Yeg ?_|(refine X_id ?_;first|refine Yaf ?_|refine Yag ?_|refine Yav ?_|refine Yan ?_|refine Ybu ?_|refine Yar (fun _ _ hS _ => ?_)|refine Ycd ?_)|refine Yes ?_|refine Yab ?_)
 refine X_yl (Zhr (mk := Value.int .i64) (L := A.vals) (k := no) rfl rfl rfl ((hmo.rd hS).mapq_r)) rfl rfl ?_
 rw [hg]
 simp only [Option.getD_some,Option.isSome_some]
 repeat (first|refine Yeg ?_|(refine X_id ?_;first|refine Yaf ?_|refine Yag ?_|refine Ya3 ?_|refine Ybc ?_|refine Yao (fun _ hS _ => ?_)|refine Yar (fun _ _ hS _ => ?_))|refine Yes ?_|refine Yab ?_)
 refine Zan (.s 0 (.s 1 (.s 2 (.s 3 (.s 4 (.s 5 (.h 6 (.s 7 (.h 8 (.s 9 .nil) .no)) .no))))))) mixed (by kernel_rfl) rfl ?_
 have hS := hS.drew
 repeat (first|(refine Zae ?_;first|refine Ybg ?_|refine Ybm ?_|refine Ybx ?_|refine Yas ?_))
 refine Zaa _ rfl rfl rfl rfl rfl (Ze9 s.da s.s.nd.data.length s.dc s.s.nd.data _ (hda.rd hS) rfl (by simp only at hlen; omega)) ?_
 rintro _ w ⟨a,c,rfl,_,hca,hS'⟩
 replace hS := hS.plus hS'
 clear hS'
 repeat (first|refine Yao (fun _ hS _ => ?_)|refine Yah ?_|refine Yab ?_|refine Yby ?_|(refine Zae ?_;first|refine Yaw ?_|refine Ybj ?_|refine Yce ?_|refine Yas ?_)|(refine Zac ?_;first|refine Yax ?_))
 exact ⟨a,c,rfl,hca,hS.took⟩
end
end Cr
namespace Cr
open Go
set_option maxHeartbeats 64000000

inductive Leaf where
 | num (n : Int)
 | txt (b : List UInt8)
 | oth
inductive Top where
 | leaf (x : Leaf)
 | list (l : List Leaf)
def Top.shut : Top → Leaf
 | .leaf x => x
 | .list _ => .oth

def dig (c : UInt8) : Bool := decide (48 ≤ c.toNat) && decide (c.toNat ≤ 57)
theorem dig_iff {c : UInt8} : dig c = true ↔ 48 ≤ c.toNat ∧ c.toNat ≤ 57 := by simp [dig]
def sgn (below : Bool) (l : List UInt8) : List UInt8 := if below = true ∧ l.head? = some 45 then [45] else []
def numS (below : Bool) (l : List UInt8) : List UInt8 := sgn below l ++ (l.drop (sgn below l).length).takeWhile dig
def badN (s : List UInt8) : Prop := s = [] ∨ s = [45] ∨ s = [45,48] ∨ (s.head? = some 48 ∧ 1 < s.length) ∨ (2 < s.length ∧ s.take 2 = [45,48])
instance (s : List UInt8) : Decidable (badN s) := by unfold badN; infer_instance
def num (below : Bool) (e : UInt8) (l : List UInt8) : Option (Int × List UInt8) :=
 match l.drop (numS below l).length with
 | [] => none
 | c :: r => if badN (numS below l) ∨ c ≠ e then none else
  match Lib.atoiAll (numS below l) with
  | .ok v => some (v,r)
  | _ => none

/-! ### digits and numbers -/
def val (d : List UInt8) (acc : Nat) : Nat := d.foldl (fun a c => a * 10 + (c.toNat - 48)) acc
theorem Zwx (a : Nat) : val [] a = a := rfl
theorem Zhy (c : UInt8) (d : List UInt8) (a : Nat) : val (c :: d) a = val d (a * 10 + (c.toNat - 48)) := by simp [val]
theorem Zs2 (c : UInt8) (d : List UInt8) (a : Nat) : val (d ++ [c]) a = val d a * 10 + (c.toNat - 48) := by simp [val]
theorem Zwy : ∀ (d : List UInt8) (a : Nat),a ≤ val d a
 | [],a => Nat.le_refl _
 | c :: d,a => by rw [Zhy]; have := Zwy d (a * 10 + (c.toNat - 48)); omega
theorem Z4a (c : UInt8) (d : List UInt8) (a : Nat) : (Lib.parseUint10 a (c :: d) = Lib.parseUint10 (a * 10 + (c.toNat - 48)) d ∧ dig c = true) ∨ ∀ u,Lib.parseUint10 a (c :: d) ≠ .ok u := by
 by_cases h1 : 48 ≤ c.toNat ∧ c.toNat ≤ 57
 ·by_cases h2 : 1844674407370955162 ≤ a
  ·refine .inr fun u => ?_
   rw [Lib.parseUint10,if_pos h1,if_pos h2]; exact fun h => nomatch h
  ·by_cases h3 : 18446744073709551616 ≤ a * 10 + (c.toNat - 48)
   ·refine .inr fun u => ?_
    rw [Lib.parseUint10,if_pos h1,if_neg h2,if_pos h3]; exact fun h => nomatch h
   ·refine .inl ⟨?_,dig_iff.2 h1⟩
    rw [Lib.parseUint10,if_pos h1,if_neg h2,if_neg h3]
 ·refine .inr fun u => ?_
  rw [Lib.parseUint10,if_neg h1]; exact fun h => nomatch h
theorem Z7y (d : List UInt8) : ∀ (a u : Nat),Lib.parseUint10 a d = .ok u → u = val d a ∧ ∀ c ∈ d,dig c = true := by
 induction d with
 | nil => intro a u h; rw [Lib.parseUint10] at h; injection h with h; exact ⟨h.symm,fun _ hc => by cases hc⟩
 | cons c d ih =>
  intro a u h
  rcases Z4a c d a with ⟨h1,h2⟩ | h1
  ·rw [h1] at h
   obtain ⟨h3,h4⟩ := ih _ u h
   refine ⟨h3,fun x hx => ?_⟩
   rcases List.mem_cons.1 hx with rfl | hx
   ·exact h2
   ·exact h4 x hx
  ·exact absurd h (h1 u)
theorem Z4b : ∀ (d : List UInt8) (a : Nat),(∀ c ∈ d,dig c = true) → val d a ≤ 9223372036854775808 → Lib.parseUint10 a d = .ok (val d a)
 | [],a,_,_ => rfl
 | c :: d,a,hd,hv => by
  have hc := dig_iff.1 (hd c (List.mem_cons_self ..))
  rw [Zhy] at hv ⊢
  have := Zwy d (a * 10 + (c.toNat - 48))
  simp only [Lib.parseUint10]
  rw [if_pos hc,if_neg (by omega),if_neg (by omega)]
  exact Z4b d _ (fun x hx => hd x (List.mem_cons_of_mem _ hx)) hv
theorem Zww {d : List UInt8} (hd : ∀ c ∈ d,dig c = true) (h0 : d ≠ []) (h1 : d.head? ≠ some 48) : 1 ≤ val d 0 := by
 cases d with
 | nil => exact absurd rfl h0
 | cons c d =>
  rw [Zhy]
  have hc := dig_iff.1 (hd c (List.mem_cons_self ..))
  have := Zwy d (0 * 10 + (c.toNat - 48))
  have : c.toNat ≠ 48 := fun e => h1 (by rw [List.head?_cons,show c = 48 from UInt8.toNat_inj.1 e])
  omega
theorem Zpy {c : UInt8} (hc : 48 ≤ c.toNat) : UInt8.ofNat (48 + (c.toNat - 48)) = c := by
 rw [show 48 + (c.toNat - 48) = c.toNat by omega]; exact UInt8.ofNat_toNat
theorem Zsg : ∀ (n : Nat) (d : List UInt8),d.length = n + 1 → (∀ c ∈ d,dig c = true) → (d.head? ≠ some 48 ∨ n = 0) → Lib.decDigits (val d 0) = d
 | 0,d,hl,hd,_ => by
  obtain ⟨c,rfl⟩ : ∃ c,d = [c] := List.length_eq_one_iff.1 hl
  have hc := dig_iff.1 (hd c (List.mem_cons_self ..))
  rw [Zhy,Zwx,Lib.decDigits,dif_pos (by omega),Nat.zero_mul,Nat.zero_add,Zpy hc.1]
 | n + 1,d,hl,hd,hh => by
  obtain ⟨d',c,rfl⟩ : ∃ d' c,d = d' ++ [c] := (List.eq_nil_or_concat d).resolve_left (fun e => by rw [e] at hl; cases hl) |>.imp fun _ h => h.imp fun _ h => by simpa using h
  have hl' : d'.length = n + 1 := by simpa using hl
  have hn0 : d' ≠ [] := fun e => by rw [e] at hl'; cases hl'
  have hh' : d'.head? ≠ some 48 := by
   rcases hh with hh | hh
   ·cases d' with
    | nil => exact absurd rfl hn0
    | cons x y => exact hh
   ·cases hh
  have hd' : ∀ c ∈ d',dig c = true := fun x hx => hd x (List.mem_append_left _ hx)
  have hc := dig_iff.1 (hd c (List.mem_append_right _ (List.mem_cons_self ..)))
  have hp := Zww hd' hn0 hh'
  have ih := Zsg n d' hl' hd' (.inl hh')
  rw [Zs2,Lib.decDigits,dif_neg (by omega)]
  rw [show (val d' 0 * 10 + (c.toNat - 48)) / 10 = val d' 0 by omega,show (val d' 0 * 10 + (c.toNat - 48)) % 10 = c.toNat - 48 by omega,ih,Zpy hc.1]
theorem Zb5 {k : Nat} (h : k < 10) : (UInt8.ofNat (48 + k)).toNat = 48 + k := by
 rw [UInt8.toNat_ofNat']; exact Nat.mod_eq_of_lt (by omega)
theorem Zgk (u : Nat) : (∀ c ∈ Lib.decDigits u,dig c = true) ∧ Lib.decDigits u ≠ [] ∧ ((Lib.decDigits u).head? = some 48 → u = 0) ∧ val (Lib.decDigits u) 0 = u := by
 induction u using Nat.strongRecOn with
 | _ u ih =>
  rw [Lib.decDigits]
  by_cases h : u < 10
  ·rw [dif_pos h]
   refine ⟨fun c hc => ?_,by simp,fun hh => ?_,?_⟩
   ·obtain rfl := List.mem_singleton.1 hc
    rw [dig_iff,Zb5 h]; omega
   ·have h1 : UInt8.ofNat (48 + u) = 48 := by simpa using hh
    have := congrArg UInt8.toNat h1
    rw [Zb5 h] at this
    have h48 : (48 : UInt8).toNat = 48 := rfl
    omega
   ·rw [Zhy,Zwx,Zb5 h]; omega
  ·rw [dif_neg h]
   obtain ⟨h1,h2,h3,h4⟩ := ih (u / 10) (by omega)
   refine ⟨fun c hc => ?_,by simp,fun hh => ?_,?_⟩
   ·rcases List.mem_append.1 hc with hc | hc
    ·exact h1 c hc
    ·obtain rfl := List.mem_singleton.1 hc
     rw [dig_iff,Zb5 (by omega)]; omega
   ·exfalso
    cases e : Lib.decDigits (u / 10) with
    | nil => exact h2 e
    | cons x y =>
     rw [e] at hh h3
     have := h3 (by simpa using hh)
     omega
   ·rw [Zs2,h4,Zb5 (by omega)]; omega

theorem Zfs {p : UInt8 → Bool} {e : UInt8} {r : List UInt8} : ∀ {d : List UInt8},(∀ c ∈ d,p c = true) → p e = false → (d ++ e :: r).takeWhile p = d
 | [],_,he => by simp [he]
 | c :: d,hd,he => by
  rw [List.cons_append,List.takeWhile_cons,if_pos (hd c (List.mem_cons_self ..)),Zfs (fun x hx => hd x (List.mem_cons_of_mem _ hx)) he]
theorem Zid {p : UInt8 → Bool} : ∀ {l : List UInt8} {c : UInt8},c ∈ l.takeWhile p → p c = true
 | [],_,h => by cases h
 | x :: l,c,h => by
  rw [List.takeWhile_cons] at h
  split at h
  ·rename_i hx
   rcases List.mem_cons.1 h with rfl | h
   ·exact hx
   ·exact Zid h
  ·cases h
theorem Zg3 {p : UInt8 → Bool} : ∀ (l : List UInt8),l.take (l.takeWhile p).length = l.takeWhile p
 | [] => rfl
 | x :: l => by
  rw [List.takeWhile_cons]
  split
  ·simp [Zg3 l]
  ·rfl
theorem Z0o (below : Bool) (l : List UInt8) : l.take (sgn below l).length = sgn below l := by
 unfold sgn
 split
 ·rename_i h
  cases l with
  | nil => simp at h
  | cons c l => have := h.2; simp at this; simp [this]
 ·rfl
theorem Zh8 (below : Bool) (l : List UInt8) : l.take (numS below l).length = numS below l := by
 unfold numS
 generalize hs : sgn below l = s
 have h1 : l.take s.length = s := by rw [← hs]; exact Z0o below l
 rw [List.length_append,List.take_add,h1,Zg3]
theorem Z4g (below : Bool) (l : List UInt8) : (numS below l).length ≤ l.length := by
 have h := congrArg List.length (Zh8 below l)
 rw [List.length_take] at h; omega

theorem Zh7 {below : Bool} {e : UInt8} {l r : List UInt8} {v : Int} (h : num below e l = some (v,r)) :
  l = numS below l ++ e :: r ∧ ¬ badN (numS below l) ∧ Lib.atoiAll (numS below l) = .ok v := by
 unfold num at h
 split at h
 ·cases h
 ·rename_i c r' hd
  split at h
  ·cases h
  ·rename_i hb
   split at h
   ·rename_i v' hv
    obtain ⟨rfl,rfl⟩ : v' = v ∧ r' = r := by simpa using h
    have hc : c = e := Decidable.not_not.1 fun hc => hb (.inr hc)
    have hn := fun hbad => hb (.inl hbad)
    refine ⟨?_,hn,hv⟩
    have := List.take_append_drop (numS below l).length l
    rw [Zh8,hd,hc] at this
    exact this.symm
   ·cases h
theorem Zi3 (below : Bool) (l : List UInt8) : ∃ d,(∀ c ∈ d,dig c = true) ∧ (numS below l = d ∨ numS below l = 45 :: d ∧ below = true) := by
 refine ⟨(l.drop (sgn below l).length).takeWhile dig,fun c hc => Zid hc,?_⟩
 unfold numS
 by_cases h : below = true ∧ l.head? = some 45
 ·right; rw [show sgn below l = [45] from if_pos h]; exact ⟨rfl,h.1⟩
 ·left; rw [show sgn below l = [] from if_neg h]; rfl
theorem Z4h {c : UInt8} (hc : dig c = true) : ¬ c.toNat = 45 ∧ ¬ (c.toNat = 43 ∨ c.toNat = 45) := by
 have := dig_iff.1 hc; omega
theorem Zun {d : List UInt8} {v : Int} (hd : ∀ c ∈ d,dig c = true) (h : Lib.atoiAll d = .ok v) : d ≠ [] ∧ v = (val d 0 : Nat) := by
 cases d with
 | nil => cases h
 | cons c d =>
  refine ⟨by simp,?_⟩
  have hc := Z4h (hd c (List.mem_cons_self ..))
  unfold Lib.atoiAll at h
  simp only at h
  rw [if_neg hc.2] at h
  unfold Lib.parseMag at h
  rw [if_neg (by simp)] at h
  rcases hp : Lib.parseUint10 0 (c :: d) with u | _ | _
  ·rw [hp] at h
   simp only at h
   split at h
   ·cases h
   ·split at h
    ·cases h
    ·rw [if_neg hc.1] at h
     injection h with h
     rw [← h,(Z7y _ _ _ hp).1]
  ·rw [hp] at h; cases h
  ·rw [hp] at h; cases h
theorem Z16 {d : List UInt8} {v : Int} (h : Lib.atoiAll (45 :: d) = .ok v) : d ≠ [] ∧ v = - ((val d 0 : Nat) : Int) := by
 unfold Lib.atoiAll at h
 simp only at h
 rw [if_pos (.inr rfl)] at h
 unfold Lib.parseMag at h
 by_cases hd : d = []
 ·rw [if_pos hd] at h; cases h
 ·rw [if_neg hd] at h
  refine ⟨hd,?_⟩
  rcases hp : Lib.parseUint10 0 d with u | _ | _
  ·rw [hp] at h
   simp only at h
   split at h
   ·cases h
   ·split at h
    ·cases h
    ·rw [if_pos (show UInt8.toNat 45 = 45 from rfl)] at h
     injection h with h
     rw [← h,(Z7y _ _ _ hp).1]
  ·rw [hp] at h; cases h
  ·rw [hp] at h; cases h
theorem Zd4 (u : Nat) : Lib.itoa (u : Int) = Lib.decDigits u := by
 unfold Lib.itoa; rw [if_neg (by omega),Int.toNat_natCast]
theorem Zof {u : Nat} (h : 1 ≤ u) : Lib.itoa (-(u : Int)) = 45 :: Lib.decDigits u := by
 unfold Lib.itoa; rw [if_pos (by omega)]; congr 2; omega
theorem Zp0 {below : Bool} {e : UInt8} {l r : List UInt8} {v : Int} (h : num below e l = some (v,r)) : l = Lib.itoa v ++ e :: r := by
 obtain ⟨hl,hb,hv⟩ := Zh7 h
 have key : numS below l = Lib.itoa v := by
  obtain ⟨d,hd,hs | ⟨hs,_⟩⟩ := Zi3 below l
  ·rw [hs] at hb hv ⊢
   obtain ⟨h0,rfl⟩ := Zun hd hv
   rw [Zd4]
   refine (Zsg (d.length - 1) d (by have := List.length_pos_iff.2 h0; omega) hd ?_).symm
   by_cases h1 : d.length - 1 = 0
   ·exact .inr h1
   ·refine .inl fun hh => hb ?_
    exact .inr (.inr (.inr (.inl ⟨hh,by omega⟩)))
  ·rw [hs] at hb hv ⊢
   obtain ⟨h0,rfl⟩ := Z16 hv
   have hh : d.head? ≠ some 48 := fun hh => by
    cases d with
    | nil => exact h0 rfl
    | cons c d =>
     obtain rfl : c = 48 := by simpa using hh
     cases d with
     | nil => exact hb (.inr (.inr (.inl rfl)))
     | cons x y => exact hb (.inr (.inr (.inr (.inr ⟨by simp,rfl⟩))))
   rw [Zof (Zww hd h0 hh),Zsg (d.length - 1) d (by have := List.length_pos_iff.2 h0; omega) hd (.inl hh)]
 rw [key] at hl
 exact hl
theorem Zmw {e : UInt8} {l r : List UInt8} {v : Int} (h : num false e l = some (v,r)) : 0 ≤ v := by
 obtain ⟨_,_,hv⟩ := Zh7 h
 obtain ⟨d,hd,hs | ⟨_,hs⟩⟩ := Zi3 false l
 ·rw [hs] at hv
  rw [(Zun hd hv).2]; omega
 ·cases hs
theorem Zxr {below : Bool} {e : UInt8} {l r : List UInt8} {v : Int} (h : num below e l = some (v,r)) : r.length < l.length := by
 obtain ⟨hl,_,_⟩ := Zh7 h
 have := congrArg List.length hl
 simp at this; omega

theorem Zy8 {v : Int} (h1 : -9223372036854775808 ≤ v) (h2 : v ≤ 9223372036854775807) : Lib.atoiAll (Lib.itoa v) = .ok v := by
 by_cases h : v < 0
 ·obtain ⟨u,rfl⟩ : ∃ u : Nat,v = -(u : Int) := ⟨v.natAbs,by omega⟩
  rw [Zof (by omega)]
  obtain ⟨f1,f2,_,f4⟩ := Zgk u
  unfold Lib.atoiAll
  simp only
  rw [if_pos (.inr rfl)]
  unfold Lib.parseMag
  rw [if_neg f2,Z4b _ _ f1 (by rw [f4]; omega),f4]
  simp only
  rw [if_neg (by intro h; exact h.1 rfl),if_neg (by omega),if_pos (show UInt8.toNat 45 = 45 from rfl)]
 ·obtain ⟨u,rfl⟩ : ∃ u : Nat,v = (u : Int) := ⟨v.toNat,by omega⟩
  rw [Zd4]
  obtain ⟨f1,f2,_,f4⟩ := Zgk u
  cases hd : Lib.decDigits u with
  | nil => exact absurd hd f2
  | cons c d =>
   have hc := Z4h (f1 c (by rw [hd]; exact List.mem_cons_self ..))
   unfold Lib.atoiAll
   simp only
   rw [if_neg hc.2,← hd]
   unfold Lib.parseMag
   rw [if_neg f2,Z4b _ _ f1 (by rw [f4]; omega),f4]
   simp only
   rw [if_neg (by omega),if_neg (by intro h; exact hc.1 h.1),if_neg hc.1]
theorem Ztk {below : Bool} {e : UInt8} {r : List UInt8} {v : Int} (h1 : -9223372036854775808 ≤ v) (h2 : v ≤ 9223372036854775807) (hs : below = true ∨ 0 ≤ v) (he : dig e = false) : num below e (Lib.itoa v ++ e :: r) = some (v,r) := by
 have key : numS below (Lib.itoa v ++ e :: r) = Lib.itoa v ∧ ¬ badN (Lib.itoa v) := by
  by_cases h : v < 0
  ·obtain ⟨u,rfl⟩ : ∃ u : Nat,v = -(u : Int) := ⟨v.natAbs,by omega⟩
   rw [Zof (by omega)]
   obtain ⟨f1,f2,f3,f4⟩ := Zgk u
   obtain rfl : below = true := hs.resolve_right (by omega)
   constructor
   ·unfold numS
    rw [show sgn true (45 :: Lib.decDigits u ++ e :: r) = [45] by simp [sgn]]
    simp only [List.length_cons,List.length_nil,Nat.zero_add,List.cons_append,List.drop_succ_cons,List.drop_zero,List.nil_append]
    rw [Zfs f1 he]
   ·rintro (h | h | h | ⟨h,_⟩ | ⟨h,h'⟩)
    ·cases h
    ·injection h with _ h; exact f2 h
    ·injection h with _ h
     have := f3 (by rw [h]; rfl)
     omega
    ·cases h
    ·cases hd : Lib.decDigits u with
     | nil => exact f2 hd
     | cons x y =>
      rw [hd] at h' f3
      have hx : x = 48 := by simpa using h'
      have := f3 (by rw [hx]; rfl)
      omega
  ·obtain ⟨u,rfl⟩ : ∃ u : Nat,v = (u : Int) := ⟨v.toNat,by omega⟩
   rw [Zd4]
   obtain ⟨f1,f2,f3,f4⟩ := Zgk u
   have hne : (Lib.decDigits u).head? ≠ some 45 := fun hh => by
    cases hd : Lib.decDigits u with
    | nil => exact f2 hd
    | cons x y =>
     rw [hd] at hh f1
     have := dig_iff.1 (f1 x (List.mem_cons_self ..))
     obtain rfl : x = 45 := by simpa using hh
     exact absurd this (by decide)
   constructor
   ·unfold numS
    rw [show sgn below (Lib.decDigits u ++ e :: r) = [] by
     unfold sgn; rw [if_neg]; rintro ⟨_,hh⟩
     cases hd : Lib.decDigits u with
     | nil => exact f2 hd
     | cons x y => rw [hd] at hh hne; exact hne (by simpa using hh)]
    simp only [List.length_nil,List.drop_zero,List.nil_append]
    rw [Zfs f1 he]
   ·rintro (h | h | h | ⟨h,h'⟩ | ⟨h,h'⟩)
    ·exact f2 h
    ·exact hne (by rw [h]; rfl)
    ·exact hne (by rw [h]; rfl)
    ·have h0 := f3 h
     subst h0
     rw [Lib.decDigits_one (by omega)] at h'
     simp at h'
    ·refine hne ?_
     cases hd : Lib.decDigits u with
     | nil => exact absurd hd f2
     | cons x y => rw [hd] at h'; simp at h'; simp [h'.1]
 unfold num
 rw [key.1,List.drop_left]
 simp only
 rw [if_neg (by rintro (h | h); exact key.2 h; exact h rfl),Zy8 h1 h2]

/-! ### values -/
mutual
def pv : Nat → Nat → List UInt8 → Option (Top × List UInt8)
 | 0,_,_ => none
 | _ + 1,_,[] => none
 | f + 1,deep,c :: r =>
  if c = 40 then
   if 8 < deep then none else
   match pl f deep r with
   | some (x,r') => some (.list x,r')
   | none => none
  else if c = 105 then
   match num true 59 r with
   | some (v,r') => some (.leaf (.num v),r')
   | none => none
  else
   match num false 58 (c :: r) with
   | some (v,r') => if v.toNat ≤ r'.length then some (.leaf (.txt (r'.take v.toNat)),r'.drop v.toNat) else none
   | none => none
def pl : Nat → Nat → List UInt8 → Option (List Leaf × List UInt8)
 | 0,_,_ => none
 | _ + 1,_,[] => none
 | f + 1,deep,c :: r =>
  if c = 41 then some ([],r) else
  match pv f (deep + 1) (c :: r) with
  | none => none
  | some (t,r') =>
   match pl f deep r' with
   | none => none
   | some (x,r'') => some (t.shut :: x,r'')
end
theorem Zqb {u : Nat} : ∃ c r,Lib.itoa (u : Int) = c :: r ∧ dig c = true := by
 rw [Zd4]
 obtain ⟨f1,f2,_,_⟩ := Zgk u
 cases hd : Lib.decDigits u with
 | nil => exact absurd hd f2
 | cons c r => exact ⟨c,r,rfl,f1 c (by rw [hd]; exact List.mem_cons_self ..)⟩
def z0 : Value := .slice none 0 0
/-! ### laying together,taking apart -/
theorem Z1z : emp (fun _ => none) := fun _ => rfl
/-! ### reading -/
theorem Zt9 : ∀ {rows : List (List Value)} {i : Nat} {cs : List Value},(∀ r ∈ rows,r.length = 4) → rows[i]? = some cs → (rows.flatten.drop (i * 4)).take 4 = cs
 | [],_,_,_,h => by cases h
 | r :: rs,i,cs,hl,h => by
  have h4 := hl r (List.mem_cons_self ..)
  cases i with
  | zero =>
   obtain rfl : r = cs := by simpa using h
   simp [← h4]
  | succ i =>
   have ih := Zt9 (fun z hz => hl z (List.mem_cons_of_mem _ hz)) (show rs[i]? = some cs by simpa using h)
   rw [List.flatten_cons,List.drop_append,h4,show (i + 1) * 4 - 4 = i * 4 by omega,List.drop_of_length_le (by omega),List.nil_append]
   exact ih
theorem Zjt : ∀ {rows : List (List Value)},(∀ r ∈ rows,r.length = 4) → rows.flatten.length = rows.length * 4
 | [],_ => rfl
 | r :: rs,hl => by
  have h4 := hl r (List.mem_cons_self ..)
  have := Zjt (fun z hz => hl z (List.mem_cons_of_mem _ hz)) (rows := rs)
  simp only [List.flatten_cons,List.length_append,List.length_cons]; omega
inductive Mv where
 | mk (k n : Int) (b : List UInt8) (l : List Mv)
 deriving Inhabited
abbrev nuM (n : Int) : Mv := .mk 0 n [] []
abbrev txM (b : List UInt8) : Mv := .mk 1 0 b []
abbrev liM (l : List Mv) : Mv := .mk 2 0 [] l
def Mv.kind : Mv → Int | .mk k _ _ _ => k
def Mv.num : Mv → Int | .mk _ n _ _ => n
def Mv.txt : Mv → List UInt8 | .mk _ _ b _ => b
def Mv.lst : Mv → List Mv | .mk _ _ _ l => l
def Zd5 : Nat → Mv → Mv
 | 0,.mk k n b _ => .mk k n b []
 | d + 1,.mk k n b l => .mk k n b (l.map (Zd5 d))
def kdM (k n : Int) (b : List UInt8) (l : List Mv) : Bool :=
 (decide (k = 0) && b.isEmpty && l.isEmpty) || (decide (k = 1) && decide (n = 0) && l.isEmpty) || (decide (k = 2) && decide (n = 0) && b.isEmpty)
def Zil : List Int → Int
 | [] => 0
 | e :: r => if e = 0 then Zil r else e
def chkM : Nat → Mv → Int
 | 0,.mk k n b l => if kdM k n b l = true then (if k = 2 then 18 else 0) else 17
 | m + 1,.mk k n b l => if kdM k n b l = true then Zil (l.map (chkM m)) else 17
theorem Zhm : ∀ {l : List Int},Zil l = 0 ↔ ∀ e ∈ l,e = 0
 | [] => by simp [Zil]
 | e :: r => by
  unfold Zil
  split
  ·rename_i h; rw [Zhm]; simp [h]
  ·rename_i h; simp [h]
mutual
def encM : Mv → List UInt8
 | .mk k n b l => if k = 0 then 105 :: Lib.itoa n ++ [59] else if k = 1 then Lib.itoa (b.length : Nat) ++ 58 :: b else 40 :: Za5 l ++ [41]
def Za5 : List Mv → List UInt8
 | [] => []
 | x :: l => encM x ++ Za5 l
end
mutual
def fitM : Mv → Prop
 | .mk _ n b l => (-9223372036854775808 ≤ n ∧ n ≤ 9223372036854775807) ∧ b.length ≤ 9223372036854775807 ∧ Zfg l
def Zfg : List Mv → Prop
 | [] => True
 | x :: l => fitM x ∧ Zfg l
end
theorem Zgi : ∀ (l m : List Mv),Za5 (l ++ m) = Za5 l ++ Za5 m
 | [],m => by simp [Za5]
 | x :: l,m => by rw [List.cons_append,Za5,Za5,Zgi l m,List.append_assoc]
theorem fitMs_mem : ∀ {l : List Mv},Zfg l ↔ ∀ x ∈ l,fitM x
 | [] => by simp [Zfg]
 | x :: l => by rw [Zfg,fitMs_mem]; simp
theorem Zfz (n : Int) (b : List UInt8) (l : List Mv) : encM (.mk 0 n b l) = 105 :: Lib.itoa n ++ [59] := by rw [encM,if_pos rfl]
theorem Zex (n : Int) (b : List UInt8) (l : List Mv) : encM (.mk 1 n b l) = Lib.itoa (b.length : Nat) ++ 58 :: b := by rw [encM,if_neg (by decide),if_pos rfl]
theorem Zby (n : Int) (b : List UInt8) (l : List Mv) : encM (.mk 2 n b l) = 40 :: Za5 l ++ [41] := by rw [encM,if_neg (by decide),if_neg (by decide)]
mutual
def wM : Mv → Nat
 | .mk _ _ b l => 1 + b.length + wMs l
def wMs : List Mv → Nat
 | [] => 0
 | x :: l => wM x + wMs l
end
theorem Zl8 (k n : Int) (b : List UInt8) (l : List Mv) : wM (.mk k n b l) = 1 + b.length + wMs l := by rw [wM]
theorem Zks : ∀ {l : List Mv} {x : Mv},x ∈ l → wM x ≤ wMs l
 | y :: l,x,h => by
  rw [wMs]
  rcases List.mem_cons.1 h with rfl | h
  ·omega
  ·have := Zks h; omega
theorem Zkt : ∀ (l : List Mv),l.length ≤ wMs l
 | [] => by simp
 | ⟨k,n,b,m⟩ :: l => by
  rw [wMs,Zl8]
  have := Zkt l
  simp only [List.length_cons]; omega
theorem Zqa {k n : Int} {b : List UInt8} {l : List Mv} (h : kdM k n b l = true) : (k = 0 ∧ b = [] ∧ l = []) ∨ (k = 1 ∧ n = 0 ∧ l = []) ∨ (k = 2 ∧ n = 0 ∧ b = []) := by
 unfold kdM at h
 simp only [Bool.or_eq_true,Bool.and_eq_true,decide_eq_true_eq,List.isEmpty_iff] at h
 rcases h with (⟨⟨h1,h2⟩,h3⟩ | ⟨⟨h1,h2⟩,h3⟩) | ⟨⟨h1,h2⟩,h3⟩
 ·exact .inl ⟨h1,h2,h3⟩
 ·exact .inr (.inl ⟨h1,h2,h3⟩)
 ·exact .inr (.inr ⟨h1,h2,h3⟩)
theorem Z5a {m : Nat} {k n : Int} {b : List UInt8} {l : List Mv} (h : chkM m (.mk k n b l) = 0) : kdM k n b l = true := by
 cases m <;> (rw [chkM] at h; split at h; assumption; cases h)
theorem Zdf {m : Nat} {v : Mv} (h : chkM m v = 0) : (∃ n,v = nuM n) ∨ (∃ b,v = txM b) ∨ ∃ l m',v = liM l ∧ m = m' + 1 ∧ ∀ x ∈ l,chkM m' x = 0 := by
 obtain ⟨k,n,b,l⟩ := v
 rcases Zqa (Z5a h) with ⟨rfl,rfl,rfl⟩ | ⟨rfl,rfl,rfl⟩ | ⟨rfl,rfl,rfl⟩
 ·exact .inl ⟨n,rfl⟩
 ·exact .inr (.inl ⟨b,rfl⟩)
 ·refine .inr (.inr ?_)
  cases m with
  | zero => rw [chkM,if_pos (by rfl),if_pos rfl] at h; cases h
  | succ m =>
   rw [chkM,if_pos (by rfl),Zhm] at h
   exact ⟨l,m,rfl,rfl,fun x hx => h _ (List.mem_map.2 ⟨x,hx,rfl⟩)⟩
theorem Zke {m : Nat} {l : List Mv} (h : ∀ x ∈ l,chkM m x = 0) : chkM (m + 1) (liM l) = 0 := by
 rw [chkM,if_pos (by rfl),Zhm]
 intro e he
 obtain ⟨x,hx,rfl⟩ := List.mem_map.1 he
 exact h x hx
theorem Zuk (m : Nat) (n : Int) : chkM m (nuM n) = 0 := by cases m <;> rfl
theorem Zg0 (m : Nat) (b : List UInt8) : chkM m (txM b) = 0 := by cases m <;> rfl
theorem Zor : ∀ (m : Nat) (v : Mv),chkM m v = 0 → Zd5 m v = v
 | 0,v,h => by
  rcases Zdf h with ⟨n,rfl⟩ | ⟨b,rfl⟩ | ⟨l,m',_,h',_⟩
  ·rfl
  ·rfl
  ·cases h'
 | m + 1,v,h => by
  rcases Zdf h with ⟨n,rfl⟩ | ⟨b,rfl⟩ | ⟨l,m',rfl,h',hl⟩
  ·rfl
  ·rfl
  ·obtain rfl : m = m' := by omega
   show Mv.mk 2 0 [] (l.map (Zd5 m)) = _
   congr 1
   conv => rhs; rw [← List.map_id l]
   exact List.map_congr_left fun x hx => Zor m x (hl x hx)

theorem Zow {s : List UInt8} {v : Int} (h : Lib.atoiAll s = .ok v) : -9223372036854775808 ≤ v ∧ v ≤ 9223372036854775807 := by
 cases s with
 | nil => cases h
 | cons c r =>
  unfold Lib.atoiAll at h
  simp only at h
  generalize Lib.parseMag _ = p at h
  rcases p with u | _ | _
  ·simp only at h
   split at h
   ·cases h
   ·split at h
    ·cases h
    ·injection h with h
     rename_i h1 h2
     split at h <;> omega
  ·cases h
  ·cases h
theorem Zpz {below : Bool} {e : UInt8} {l r : List UInt8} {v : Int} (h : num below e l = some (v,r)) : -9223372036854775808 ≤ v ∧ v ≤ 9223372036854775807 := Zow (Zh7 h).2.2
/-! ### reading -/
mutual
def pvM : Nat → Nat → List UInt8 → Option (Mv × List UInt8)
 | 0,_,_ => none
 | _ + 1,_,[] => none
 | f + 1,deep,c :: r =>
  if c = 40 then
   if 8 < deep then none else
   match plM f deep r with
   | some (x,r') => some (liM x,r')
   | none => none
  else if c = 105 then
   match num true 59 r with
   | some (v,r') => some (nuM v,r')
   | none => none
  else
   match num false 58 (c :: r) with
   | some (v,r') => if v.toNat ≤ r'.length then some (txM (r'.take v.toNat),r'.drop v.toNat) else none
   | none => none
def plM : Nat → Nat → List UInt8 → Option (List Mv × List UInt8)
 | 0,_,_ => none
 | _ + 1,_,[] => none
 | f + 1,deep,c :: r =>
  if c = 41 then some ([],r) else
  match pvM f (deep + 1) (c :: r) with
  | none => none
  | some (t,r') =>
   match plM f deep r' with
   | none => none
   | some (x,r'') => some (t :: x,r'')
end
theorem Z70 (f : Nat) : (∀ deep l t r,pvM f deep l = some (t,r) → r.length < l.length) ∧ (∀ deep l x r,plM f deep l = some (x,r) → r.length < l.length) := by
 induction f with
 | zero => exact ⟨fun _ _ _ _ h => by simp [pvM] at h,fun _ _ _ _ h => by simp [plM] at h⟩
 | succ f ih =>
  obtain ⟨ihv,ihl⟩ := ih
  refine ⟨fun deep l t r h => ?_,fun deep l x r h => ?_⟩
  ·cases l with
   | nil => simp [pvM] at h
   | cons c l =>
    rw [pvM] at h
    split at h
    ·split at h
     ·cases h
     ·split at h
      ·rename_i x r' hp
       have := ihl _ _ _ _ hp
       obtain ⟨_,rfl⟩ : _ ∧ r' = r := by simpa using h
       simp; omega
      ·cases h
    ·split at h
     ·split at h
      ·rename_i v r' hp
       have := Zxr hp
       obtain ⟨_,rfl⟩ : _ ∧ r' = r := by simpa using h
       simp; omega
      ·cases h
     ·split at h
      ·rename_i v r' hp
       have := Zxr hp
       split at h
       ·obtain ⟨_,rfl⟩ : _ ∧ r'.drop v.toNat = r := by simpa using h
        simp at this ⊢; omega
       ·cases h
      ·cases h
  ·cases l with
   | nil => simp [plM] at h
   | cons c l =>
    rw [plM] at h
    split at h
    ·obtain ⟨_,rfl⟩ : _ ∧ l = r := by simpa using h
     simp
    ·split at h
     ·cases h
     ·rename_i t r' hp
      have h1 := ihv _ _ _ _ hp
      split at h
      ·cases h
      ·rename_i x' r'' hp'
       have h2 := ihl _ _ _ _ hp'
       obtain ⟨_,rfl⟩ : _ ∧ r'' = r := by simpa using h
       omega
theorem Z05 (f : Nat) : (∀ deep m l t r,deep + m = 9 → pvM f deep l = some (t,r) → l = encM t ++ r ∧ chkM m t = 0 ∧ fitM t) ∧ (∀ deep m l x r,deep + m = 8 → plM f deep l = some (x,r) → l = Za5 x ++ 41 :: r ∧ (∀ t ∈ x,chkM m t = 0) ∧ Zfg x) := by
 induction f with
 | zero => exact ⟨fun _ _ _ _ _ _ h => by simp [pvM] at h,fun _ _ _ _ _ _ h => by simp [plM] at h⟩
 | succ f ih =>
  obtain ⟨ihv,ihl⟩ := ih
  refine ⟨fun deep m l t r hm h => ?_,fun deep m l x r hm h => ?_⟩
  ·cases l with
   | nil => simp [pvM] at h
   | cons c l =>
    rw [pvM] at h
    split at h
    ·rename_i hc
     split at h
     ·cases h
     ·rename_i hd
      split at h
      ·rename_i x r' hp
       obtain ⟨m,rfl⟩ : ∃ k,m = k + 1 := ⟨m - 1,by omega⟩
       obtain ⟨h1,h2,h3⟩ := ihl deep m l x r' (by omega) hp
       obtain ⟨rfl,rfl⟩ : liM x = t ∧ r' = r := by simpa using h
       refine ⟨?_,Zke h2,by rw [fitM]; exact ⟨⟨by omega,by omega⟩,by simp,h3⟩⟩
       rw [Zby,hc,h1]; simp
      ·cases h
    ·split at h
     ·rename_i hc
      split at h
      ·rename_i v r' hp
       obtain ⟨rfl,rfl⟩ : nuM v = t ∧ r' = r := by simpa using h
       refine ⟨?_,Zuk _ _,?_⟩
       ·rw [Zfz,hc,Zp0 hp]; simp
       ·rw [fitM]; exact ⟨Zpz hp,by simp,by rw [Zfg]; trivial⟩
      ·cases h
     ·split at h
      ·rename_i v r' hp
       split at h
       ·rename_i hle
        obtain ⟨rfl,rfl⟩ : txM (r'.take v.toNat) = t ∧ r'.drop v.toNat = r := by simpa using h
        have h0 := Zmw hp
        have hr := Zpz hp
        refine ⟨?_,Zg0 _ _,?_⟩
        ·rw [Zex,Zp0 hp]
         simp only [List.length_take]
         rw [show ((min v.toNat r'.length : Nat) : Int) = v by omega]
         simp
        ·rw [fitM]; exact ⟨⟨by omega,by omega⟩,by simp; omega,by rw [Zfg]; trivial⟩
       ·cases h
      ·cases h
  ·cases l with
   | nil => simp [plM] at h
   | cons c l =>
    rw [plM] at h
    split at h
    ·rename_i hc
     obtain ⟨rfl,rfl⟩ : [] = x ∧ l = r := by simpa using h
     refine ⟨by rw [hc,Za5]; rfl,fun t ht => (by cases ht),by rw [Zfg]; trivial⟩
    ·split at h
     ·cases h
     ·rename_i t r' hp
      obtain ⟨h1,h2,h3⟩ := ihv (deep + 1) m _ t r' (by omega) hp
      split at h
      ·cases h
      ·rename_i x' r'' hp'
       obtain ⟨h4,h5,h6⟩ := ihl deep m _ x' r'' hm hp'
       obtain ⟨rfl,rfl⟩ : t :: x' = x ∧ r'' = r := by simpa using h
       refine ⟨by rw [h1,h4,Za5]; simp,fun y hy => ?_,by rw [Zfg]; exact ⟨h3,h6⟩⟩
       rcases List.mem_cons.1 hy with rfl | hy
       ·exact h2
       ·exact h5 y hy
theorem Zop {m : Nat} {v : Mv} (h : chkM m v = 0) : 2 ≤ (encM v).length := by
 rcases Zdf h with ⟨n,rfl⟩ | ⟨b,rfl⟩ | ⟨l,m',rfl,_,_⟩
 ·rw [Zfz]; simp
 ·rw [Zex]
  obtain ⟨c,l,hc,_⟩ := Zqb (u := b.length)
  rw [hc]; simp; omega
 ·rw [Zby]; simp
theorem Z71 (f : Nat) : (∀ deep m v r,deep + m = 9 → chkM m v = 0 → fitM v → 2 * (encM v).length ≤ f → ∃ c t,encM v ++ r = c :: t ∧ c ≠ 41 ∧ pvM f deep (encM v ++ r) = some (v,r)) ∧
  (∀ deep m l r,deep + m = 8 → (∀ x ∈ l,chkM m x = 0) → Zfg l → 2 * (Za5 l).length + 1 ≤ f → plM f deep (Za5 l ++ 41 :: r) = some (l,r)) := by
 induction f with
 | zero =>
  refine ⟨fun deep m v r _ hc _ hf => ?_,fun _ _ _ _ _ _ _ hf => by omega⟩
  have := Zop hc; omega
 | succ f ih =>
  obtain ⟨ihv,ihl⟩ := ih
  refine ⟨fun deep m v r hm hc hfit hf => ?_,fun deep m l r hm hc hfit hf => ?_⟩
  ·rcases Zdf hc with ⟨n,rfl⟩ | ⟨b,rfl⟩ | ⟨l,m',rfl,rfl,hl⟩
   ·rw [fitM] at hfit
    refine ⟨105,Lib.itoa n ++ 59 :: r,by rw [Zfz]; simp,by decide,?_⟩
    rw [show encM (nuM n) ++ r = 105 :: (Lib.itoa n ++ 59 :: r) by rw [Zfz]; simp,pvM,if_neg (by decide),if_pos rfl,Ztk hfit.1.1 hfit.1.2 (.inl rfl) (by decide)]
   ·rw [fitM] at hfit
    obtain ⟨c,l,hc,hd⟩ := Zqb (u := b.length)
    have hd' := dig_iff.1 hd
    have e : encM (txM b) ++ r = c :: (l ++ 58 :: (b ++ r)) := by rw [Zex,hc]; simp
    have e2 : c :: (l ++ 58 :: (b ++ r)) = Lib.itoa (b.length : Nat) ++ 58 :: (b ++ r) := by rw [hc]; simp
    have ne : ∀ k : Nat,k < 48 ∨ 57 < k → k < 256 → c ≠ UInt8.ofNat k := fun k hk hk2 h => by
     have := congrArg UInt8.toNat h
     rw [UInt8.toNat_ofNat',Nat.mod_eq_of_lt hk2] at this
     omega
    refine ⟨c,l ++ 58 :: (b ++ r),e,ne 41 (by omega) (by omega),?_⟩
    rw [e,pvM,if_neg (show ¬ c = 40 from ne 40 (by omega) (by omega)),if_neg (show ¬ c = 105 from ne 105 (by omega) (by omega)),e2,Ztk (by omega) (by omega) (.inr (by omega)) (by decide)]
    simp only [Int.toNat_natCast]
    rw [if_pos (by simp),List.take_left,List.drop_left]
   ·rw [fitM] at hfit
    rw [Zby] at hf ⊢
    simp only [List.length_cons,List.length_append,List.length_nil] at hf
    refine ⟨40,Za5 l ++ 41 :: r,by simp,by decide,?_⟩
    rw [show 40 :: Za5 l ++ [41] ++ r = 40 :: (Za5 l ++ 41 :: r) by simp,pvM,if_pos rfl,if_neg (by omega),ihl deep m' l r (by omega) hl hfit.2.2 (by omega)]
  ·cases l with
   | nil => rw [show Za5 [] ++ 41 :: r = 41 :: r by rw [Za5]; rfl,plM,if_pos rfl]
   | cons x l =>
    rw [Zfg] at hfit
    rw [Za5] at hf ⊢
    rw [List.length_append] at hf
    have hx := hc x (List.mem_cons_self ..)
    have hp := Zop hx
    obtain ⟨c,t,h1,h2,h3⟩ := ihv (deep + 1) m x (Za5 l ++ 41 :: r) (by omega) hx hfit.1 (by omega)
    rw [List.append_assoc,h1,plM,if_neg h2,← h1,h3]
    simp only
    rw [ihl deep m l r hm (fun y hy => hc y (List.mem_cons_of_mem _ hy)) hfit.2 (by omega)]
def decM (b : List UInt8) : Option Mv :=
 match pvM (2 * b.length + 1) 1 b with
 | some (t,[]) => some t
 | _ => none
theorem Zwa {b : List UInt8} {v : Mv} (h : decM b = some v) : b = encM v ∧ chkM 8 v = 0 ∧ fitM v := by
 unfold decM at h
 split at h
 ·rename_i t hp
  injection h with h
  subst h
  have := (Z05 _).1 1 8 _ _ _ rfl hp
  rwa [List.append_nil] at this
 ·cases h
theorem Zui {v : Mv} (h : chkM 8 v = 0) (hf : fitM v) : decM (encM v) = some v := by
 obtain ⟨_,_,_,_,h3⟩ := (Z71 (2 * (encM v).length + 1)).1 1 8 v [] rfl h hf (by omega)
 rw [List.append_nil] at h3
 unfold decM
 rw [h3]
inductive Mrd (R : Option Addr → List Value → Prop) : Mv → List Value → Prop
 | mk {k n : Int} {b : List UInt8} {l : List Mv} {a a2 : Option Addr} {c c2 : Nat} {rows : List (List Value)} (hc : b.length ≤ c) (hb : R a (bv b)) (hr : R a2 rows.flatten) (hl : rows.length = l.length) (h : ∀ (i : Nat) (y : Mv) (cs : List Value),l[i]? = some y → rows[i]? = some cs → Mrd R y cs) :
  Mrd R (.mk k n b l) [.int .i64 k,.int .i64 n,.slice a b.length c,.slice a2 l.length c2]
theorem Mrd.mk' {R : Option Addr → List Value → Prop} {k n : Int} {b : List UInt8} {l : List Mv} {a a2 : Option Addr} {c c2 nb nl : Nat} {rows : List (List Value)} (hnb : b.length = nb) (hnl : l.length = nl) (hc : nb ≤ c) (hb : R a (bv b)) (hr : R a2 rows.flatten) (hl : rows.length = l.length) (h : ∀ (i : Nat) (y : Mv) (cs : List Value),l[i]? = some y → rows[i]? = some cs → Mrd R y cs) : Mrd R (.mk k n b l) [.int .i64 k,.int .i64 n,.slice a nb c,.slice a2 nl c2] := by
 subst hnb hnl; exact .mk hc hb hr hl h
def Mrds (R : Option Addr → List Value → Prop) (l : List Mv) (rows : List (List Value)) : Prop :=
 rows.length = l.length ∧ ∀ (i : Nat) (y : Mv) (cs : List Value),l[i]? = some y → rows[i]? = some cs → Mrd R y cs
section
variable {R R' : Option Addr → List Value → Prop}
theorem Mrd.mono {v : Mv} {cs : List Value} (h : Mrd R v cs) (hm : ∀ a cs,R a cs → R' a cs) : Mrd R' v cs := by
 induction h with
 | mk hc hb hr hl h ih => exact .mk hc (hm _ _ hb) (hm _ _ hr) hl ih
theorem Mrds.mono {l : List Mv} {rows : List (List Value)} (h : Mrds R l rows) (hm : ∀ a cs,R a cs → R' a cs) : Mrds R' l rows := ⟨h.1,fun i y cs h1 h2 => (h.2 i y cs h1 h2).mono hm⟩
theorem Mrds.nil : Mrds R [] [] := ⟨rfl,fun i y cs h => by simp at h⟩
theorem Mrds.snoc {l : List Mv} {rows : List (List Value)} {y : Mv} {r : List Value} (h : Mrds R l rows) (hy : Mrd R y r) : Mrds R (l ++ [y]) (rows ++ [r]) := by
 refine ⟨by simp [h.1],fun i z cs h1 h2 => ?_⟩
 by_cases hi : i < l.length
 ·rw [List.getElem?_append_left hi] at h1
  rw [List.getElem?_append_left (by have := h.1; omega)] at h2
  exact h.2 i z cs h1 h2
 ·rw [List.getElem?_append_right (by omega)] at h1
  rw [List.getElem?_append_right (by have := h.1; omega),h.1] at h2
  cases hk : i - l.length with
  | zero =>
   rw [hk] at h1 h2
   obtain rfl : y = z := by simpa using h1
   obtain rfl : r = cs := by simpa using h2
   exact hy
  | succ k => rw [hk] at h1; simp at h1
theorem Mrd.lit {v : Mv} {cs : List Value} (h : Mrd R v cs) : ∃ a1 c1 a2 c2 rows,cs = [.int .i64 v.kind,.int .i64 v.num,.slice a1 v.txt.length c1,.slice a2 v.lst.length c2] ∧ v.txt.length ≤ c1 ∧ R a1 (bv v.txt) ∧ R a2 rows.flatten ∧ Mrds R v.lst rows := by
 cases h with
 | mk hc hb hr hl h => exact ⟨_,_,_,_,_,rfl,hc,hb,hr,hl,h⟩
theorem Mrd.len {v : Mv} {cs : List Value} (h : Mrd R v cs) : cs.length = 4 := by cases h; rfl
theorem Mrds.four {l : List Mv} {rows : List (List Value)} (H : Mrds R l rows) : ∀ r ∈ rows,r.length = 4 := fun r hr => by
 obtain ⟨i,hi,he⟩ := List.mem_iff_getElem.1 hr
 have hix : i < l.length := by have := H.1; omega
 exact (H.2 i l[i] r (List.getElem?_eq_getElem hix) (by rw [List.getElem?_eq_getElem hi,he])).len
theorem Mrds.flat {l : List Mv} {rows : List (List Value)} (H : Mrds R l rows) : rows.flatten.length = l.length * 4 := by rw [Zjt H.four,H.1]
theorem Mrds.at_ {l : List Mv} {rows : List (List Value)} (H : Mrds R l rows) {i : Nat} {y : Mv} (hy : l[i]? = some y) : ∃ cs,(rows.flatten.drop (i * 4)).take 4 = cs ∧ Mrd R y cs := by
 have hi := (List.getElem?_eq_some_iff.1 hy).1
 have hir : i < rows.length := by have := H.1; omega
 exact ⟨rows[i],Zt9 H.four (List.getElem?_eq_getElem hir),H.2 i y _ hy (List.getElem?_eq_getElem hir)⟩
end
abbrev RoR (W : World) (F : Nat → Prop) : Option Addr → List Value → Prop := fun a cs => Ro W F (row a cs)
def RX (X : List RowD) : Option Addr → List Value → Prop := fun a cs => cs = [] ∨ (a,cs) ∈ X
theorem RX.nil {X : List RowD} {a : Option Addr} : RX X a [] := .inl rfl
theorem RX.mem {X : List RowD} {a : Option Addr} {cs : List Value} (h : (a,cs) ∈ X) : RX X a cs := .inr h
theorem RX.sub {X Y : List RowD} (h : ∀ x ∈ X,x ∈ Y) {a : Option Addr} {cs : List Value} (hx : RX X a cs) : RX Y a cs := hx.imp id (h _)
theorem RX.left {X Y : List RowD} {a : Option Addr} {cs : List Value} (hx : RX X a cs) : RX (X ++ Y) a cs := hx.sub fun _ h => List.mem_append_left _ h
theorem RX.right {X Y : List RowD} {a : Option Addr} {cs : List Value} (hx : RX Y a cs) : RX (X ++ Y) a cs := hx.sub fun _ h => List.mem_append_right _ h
theorem RX.tail {X : List RowD} {x : RowD} {a : Option Addr} {cs : List Value} (hx : RX X a cs) : RX (x :: X) a cs := hx.sub fun _ h => List.mem_cons_of_mem _ h
theorem RX.ro {W : World} {F : Nat → Prop} {X : List RowD} (H : Ro W F (bag X)) {a : Option Addr} {cs : List Value} (hx : RX X a cs) : Ro W F (row a cs) := by
 rcases hx with rfl | hx
 ·exact Zit _ _ _
 ·exact H.bag hx
theorem RX.rd {w : World} {X : List RowD} (H : Rd w (bag X)) {a : Option Addr} {cs : List Value} (hx : RX X a cs) : Rd w (row a cs) := by
 rcases hx with rfl | hx
 ·exact Zno _ _
 ·exact H.bag hx
theorem Mrd.ro {W : World} {F : Nat → Prop} {X : List RowD} {v : Mv} {cs : List Value} (h : Mrd (RX X) v cs) (H : Ro W F (bag X)) : Mrd (RoR W F) v cs := h.mono fun _ _ hx => hx.ro H
end Cr
