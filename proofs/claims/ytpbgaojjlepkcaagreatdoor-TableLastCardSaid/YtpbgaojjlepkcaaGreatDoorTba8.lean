/-
  Layer 7 (inode) in plain words: nodes,their sectors,and how changes are applied. No program is in sight.
  Layer 6 (mode): Check,Number,Of.
  Layer 7 (inode): numbers,sectors.
  The library's slices.Grow and slices.Concat,of bytes.
  Layer 7 (inode),the plain law of applying changes: the sectors hold the table that the document tells. No program is in sight.
  Layer 7 (inode),the plain law of opening: what a node's sector tells. No program is in sight.
  A log on a disk that is on and not armed,as one resource: its data sectors.
  Layer 7 (inode): a node's sector,the front.
  Layer 7 (inode): the front.
  Maps that are gone through: a map's entries bear stamps,all below its clock and no two alike; lookups,updates,deletions; 'range' in whatever order. Over any program.
-/
import Derived.Test.YtpbgaojjlepkcaaGreatDoorTba6
import Derived.Test.YtpbgaojjlepkcaaGreatDoorTba7
import Derived.Test.YtpbgaojjlepkcaaGreatDoorTba3
import Derived.Test.YtpbgaojjlepkcaaGreatDoorTba5
import Derived.Laws.IdiomRangeMap
namespace Cr
open Go Go.Proofs
set_option maxRecDepth 10000

/-! ### maps as lists -/
section
variable {β γ : Type}
def getA (k : Int) : List (Int × β) → Option β
 | [] => none
 | x :: l => if k = x.1 then some x.2 else getA k l
def setA (k : Int) (v : β) : List (Int × β) → List (Int × β)
 | [] => [(k,v)]
 | x :: l => if k = x.1 then (k,v) :: l else x :: setA k v l
def delA (k : Int) : List (Int × β) → List (Int × β)
 | [] => []
 | x :: l => if k = x.1 then l else x :: delA k l
def Zas (l : List (Int × β)) : List Int := l.map (·.1)
theorem getA_none {k : Int} : ∀ {l : List (Int × β)},getA k l = none ↔ k ∉ Zas l
 | [] => by simp [getA,Zas]
 | x :: l => by
  unfold getA
  by_cases h : k = x.1
  ·simp [h,Zas]
  ·have := getA_none (k := k) (l := l)
   simp only [Zas] at this
   simp [h,Zas,this]
theorem Zi6 {k : Int} {v : β} : ∀ {l : List (Int × β)},getA k l = some v → (k,v) ∈ l
 | x :: l,h => by
  unfold getA at h
  split at h
  ·rename_i e
   cases h
   rw [e]; exact List.mem_cons_self ..
  ·exact List.mem_cons_of_mem _ (Zi6 h)
theorem Zdq {k : Int} {v : β} : ∀ {l : List (Int × β)},(Zas l).Nodup → (k,v) ∈ l → getA k l = some v
 | x :: l,hn,h => by
  have hn' : x.1 ∉ Zas l ∧ (Zas l).Nodup := List.nodup_cons.1 hn
  unfold getA
  rcases List.mem_cons.1 h with e | h
  ·rw [← e]; simp
  ·have : k ≠ x.1 := fun e => hn'.1 (by rw [← e]; exact List.mem_map.2 ⟨_,h,rfl⟩)
   rw [if_neg this]; exact Zdq hn'.2 h
theorem Zdp {k k' : Int} {v : β} : ∀ {l : List (Int × β)},getA k (setA k' v l) = if k = k' then some v else getA k l
 | [] => by simp [setA,getA]
 | x :: l => by
  unfold setA
  by_cases h : k' = x.1
  ·rw [if_pos h]
   by_cases h2 : k = k'
   ·simp [getA,h2]
   ·simp [getA,h2,← h]
  ·rw [if_neg h]
   by_cases h2 : k = k'
   ·have := Zdp (k := k) (k' := k') (v := v) (l := l)
    subst h2
    simp only [getA,if_neg h]
    simpa using this
   ·simp [getA,h2,Zdp (k := k) (k' := k') (v := v) (l := l)]
theorem Zfc {k k' : Int} : ∀ {l : List (Int × β)},(Zas l).Nodup → getA k (delA k' l) = if k = k' then none else getA k l
 | [],_ => by simp [delA,getA]
 | x :: l,hn => by
  have hn' : x.1 ∉ Zas l ∧ (Zas l).Nodup := List.nodup_cons.1 hn
  unfold delA
  by_cases h : k' = x.1
  ·rw [if_pos h]
   by_cases h2 : k = k'
   ·rw [if_pos h2,getA_none,h2,h]; exact hn'.1
   ·simp [getA,h2,← h]
  ·rw [if_neg h]
   by_cases h2 : k = k'
   ·subst h2
    simp [getA,h,Zfc (k := k) (k' := k) hn'.2]
   ·simp [getA,h2,Zfc (k := k) (k' := k') hn'.2]
theorem Zh2 {k : Int} : ∀ {l : List (Int × β)},(Zas (delA k l)).Sublist (Zas l)
 | [] => by simp [delA,Zas]
 | x :: l => by
  unfold delA
  split
  ·exact List.sublist_cons_self ..
  ·exact (Zh2 (k := k) (l := l)).cons_cons _
theorem delA_sub {k : Int} : ∀ {l : List (Int × β)},(delA k l).Sublist l
 | [] => by simp [delA]
 | x :: l => by
  unfold delA
  split
  ·exact List.sublist_cons_self ..
  ·exact (delA_sub (k := k) (l := l)).cons_cons _
theorem Zrf {k : Int} {v : β} : ∀ {l : List (Int × β)},k ∉ Zas l → setA k v l = l ++ [(k,v)]
 | [],_ => rfl
 | x :: l,h => by
  have h' : ¬ k = x.1 ∧ k ∉ Zas l := by simpa [Zas] using h
  simp [setA,h'.1,Zrf h'.2]
theorem Zr9 {k : Int} (f : β → γ) : ∀ {l : List (Int × β)},getA k (l.map fun x => (x.1,f x.2)) = (getA k l).map f
 | [] => rfl
 | x :: l => by
  simp only [List.map_cons,getA]
  split
  ·rfl
  ·exact Zr9 f
theorem Zrg {k : Int} {v : β} (f : β → γ) : ∀ {l : List (Int × β)},setA k (f v) (l.map fun x => (x.1,f x.2)) = (setA k v l).map fun x => (x.1,f x.2)
 | [] => rfl
 | x :: l => by
  simp only [List.map_cons,setA]
  split
  ·rfl
  ·simp [Zrg f]
theorem Zsn {k : Int} (f : β → γ) : ∀ {l : List (Int × β)},delA k (l.map fun x => (x.1,f x.2)) = (delA k l).map fun x => (x.1,f x.2)
 | [] => rfl
 | x :: l => by
  simp only [List.map_cons,delA]
  split
  ·rfl
  ·simp [Zsn f]
end

/-! ### nodes -/
structure StatM where
 kind : Int
 mode : Int
 owner : Int
 group : Int
 deriving DecidableEq
def StatM.check (s : StatM) : Int := if ¬ (0 ≤ s.kind ∧ s.kind < 5) then 17 else if ¬ (0 ≤ s.mode ∧ s.mode < 4096) then 11 else if ¬ (0 ≤ s.owner ∧ s.owner < 65536) ∨ ¬ (0 ≤ s.group ∧ s.group < 65536) then 1 else 0
theorem StatM.check_ok {s : StatM} (h : s.check = 0) : (0 ≤ s.kind ∧ s.kind < 5) ∧ (0 ≤ s.mode ∧ s.mode < 4096) ∧ (0 ≤ s.owner ∧ s.owner < 65536) ∧ (0 ≤ s.group ∧ s.group < 65536) := by
 unfold StatM.check at h
 split at h
 ·cases h
 ·split at h
  ·cases h
  ·split at h
   ·cases h
   ·omega
def StatM.num (s : StatM) : Int := if s.check = 0 then ((s.kind * 4096 + s.mode) * 65536 + s.owner) * 65536 + s.group else 0
def nblk (n : Nat) : Nat := (n + 63) / 64
structure Nd where
 st : StatM
 data : List UInt8
 deriving DecidableEq
structure Sto where
 nd : Nd
 blocks : List Int
def Zga (d : List UInt8) (i : Nat) : List UInt8 := Zcs ((d.drop (64 * i)).take 64)
def Zpz (s : Sto) : List UInt8 := [1] ++ bigB s.nd.st.num 8 ++ bigB (s.nd.data.length : Nat) 4 ++ s.blocks.flatMap fun b => bigB b 4
def stoB (s : Sto) : List UInt8 := Zcs (Zpz s)
def Zds : List UInt8 := [67,82,69,69,76]
def Zce (rd fs : List Int) (n : Nat) : List UInt8 := Zcs (Zds ++ bigB (n : Nat) 4 ++ digest rd fs [Zds,bigB (n : Nat) 4])
abbrev Ents := List (Int × Sto)
def Zau (A : Ents) : List Int := A.flatMap fun x => x.2.blocks
structure Sto.ok (s : Sto) (nb : Nat) : Prop where
 st : s.nd.st.check = 0
 len : s.nd.data.length ≤ 512
 cnt : s.blocks.length = nblk s.nd.data.length
 low : ∀ b ∈ s.blocks,0 ≤ b ∧ b < nb
structure Enc (rd fs : List Int) (dat : List (List UInt8)) (n nb : Nat) (A : Ents) : Prop where
 len : dat.length = 1 + n + nb
 front : dat.getD 0 [] = Zce rd fs n
 keys : ∀ k ∈ Zas A,0 ≤ k ∧ k < n
 nodup : (Zas A).Nodup
 node : ∀ i,i < n → dat.getD (1 + i) [] = match getA (i : Nat) A with | some s => stoB s | none => zero64
 ok : ∀ x ∈ A,x.2.ok nb
 at_ : ∀ x ∈ A,∀ k b,x.2.blocks[k]? = some b → dat.getD (1 + n + b.toNat) [] = Zga x.2.nd.data k
 apart : (Zau A).Nodup
abbrev Tb := List (Option Nd)
def tabOf (A : Ents) (n : Nat) : Tb := (List.range n).map fun i => (getA (i : Nat) A).map (·.nd)
theorem Zbw (A : Ents) (n : Nat) : (tabOf A n).length = n := by simp [tabOf]
theorem Ze5 (A : Ents) {n i : Nat} (h : i < n) : (tabOf A n)[i]? = some ((getA (i : Nat) A).map (·.nd)) := by simp [tabOf,h]
def Zuw (T : Tb) (nb : Nat) : Int := T.foldl (fun r x => match x with | some x => r - (nblk x.data.length : Nat) | none => r) (nb : Int)

/-! ### changes -/
structure Chg where
 no : Int
 nd : Nd
 drop : Bool
def badC : List Chg → Int
 | [] => 0
 | c :: l => if c.drop then badC l else if ¬ c.nd.st.check = 0 then c.nd.st.check else if 512 < c.nd.data.length then 2 else badC l
def Zk2 (l : List Chg) : Bool := Zba (l.map fun c => (c.no,[])) l.length
def Zek (l : List Chg) (n : Nat) : Int := if l.any (fun c => decide (c.no < 0) || decide ((n : Int) ≤ c.no)) then 1 else if Zk2 l then 8 else badC l
def Zgh (x : Tb × Nat × Bool) (nb : Nat) (c : Chg) : Tb × Nat × Bool :=
 if x.2.2 then x else if c.drop then (x.1,x.2.1 + 1,false) else
 if Zuw x.1 nb < (nblk c.nd.data.length : Nat) then (x.1,x.2.1,true) else (x.1.set c.no.toNat (some c.nd),x.2.1 + 1 + nblk c.nd.data.length,false)
def Ziw (T : Tb) (l : List Chg) : Tb := l.foldl (fun T c => T.set c.no.toNat none) T
def runT (T : Tb) (nb : Nat) (l : List Chg) : Tb × Nat × Bool := l.foldl (fun x c => Zgh x nb c) (Ziw T l,0,false)
def putT (T : Tb) (nb most : Nat) (l : List Chg) : Int × Tb :=
 if (runT T nb l).2.2 then (6,T) else if most < (runT T nb l).2.1 then (6,T) else (0,(runT T nb l).1)
def Zir (T : Tb) (nb most : Nat) (l : List Chg) : Int × Tb := if ¬ Zek l T.length = 0 then (Zek l T.length,T) else putT T nb most l
def Zd0 (A : Ents) (l : List Chg) : Ents := l.foldl (fun A c => delA c.no A) A
def Zgm (A : Ents) (nb : Nat) : List Int := ((List.range nb).map fun k => ((k : Nat) : Int)).filter fun b => decide (b ∉ Zau A)
structure ApS where
 A : Ents
 free : List Int
 w : List (Int × List UInt8)
def Zca (n : Nat) (bs : List Int) (d : List UInt8) : List (Int × List UInt8) := (List.range bs.length).map fun i => (1 + (n : Int) + bs.getD i 0,Zga d i)
def ApS.step (n : Nat) (z : ApS) (c : Chg) : Option ApS :=
 if c.drop then some { z with w := z.w ++ [(1 + c.no,zero64)] } else
 if z.free.length < nblk c.nd.data.length then none else
 some ⟨setA c.no ⟨c.nd,z.free.take (nblk c.nd.data.length)⟩ z.A,z.free.drop (nblk c.nd.data.length),z.w ++ (Zca n (z.free.take (nblk c.nd.data.length)) c.nd.data ++ [(1 + c.no,stoB ⟨c.nd,z.free.take (nblk c.nd.data.length)⟩)])⟩
def ApS.run (n : Nat) (z : ApS) : List Chg → Option ApS
 | [] => some z
 | c :: l => (z.step n c).bind fun z => z.run n l
def ApS.start (A : Ents) (nb : Nat) (l : List Chg) : ApS := ⟨Zd0 A l,Zgm (Zd0 A l) nb,[]⟩
end Cr
namespace Cr
open Go Go.Proofs
set_option maxRecDepth 100000
set_option maxHeartbeats 8000000
attribute [local irreducible] Calls

theorem Zz5 (n k : Int) (W : World) : Calls Tryz.prog 218 #[.int .i64 n,.int .i64 k] W (Ret fun v w => v = .bool (decide (0 ≤ n ∧ n < k)) ∧ W = w) := by
 by_cases h : 0 ≤ n
 ·by_cases h2 : n < k
  ·refine Zab Tryz.func218 rfl Tryz.ntmps218 rfl ?_
   repeat (first|refine Yeg ?_|(refine X_id ?_;first|refine Yaf ?_|refine Yag ?_|refine Ya5 ?_|refine Ya2 ?_|refine Yb7 ?_)|refine Yed ?_|refine Yd2 ?_)
   exact ⟨by simp [h,h2],rfl⟩
  ·refine Zab Tryz.func218 rfl Tryz.ntmps218 rfl ?_
   repeat (first|refine Yeg ?_|(refine X_id ?_;first|refine Yaf ?_|refine Yag ?_|refine Ya5 ?_|refine Ya3 ?_|refine Yb7 ?_)|refine Yed ?_|refine Yd2 ?_)
   exact ⟨by simp [h,h2],rfl⟩
 ·refine Zab Tryz.func218 rfl Tryz.ntmps218 rfl ?_
  repeat (first|refine Yej ?_|refine Yaf ?_|refine Yag ?_|refine Ya4 ?_|refine Yb9 ?_|refine Yed ?_|refine Yd2 ?_)
  exact ⟨by simp [h],rfl⟩
theorem Zeb {n k : Int} (h : 0 ≤ n ∧ n < k) (W : World) : Calls Tryz.prog 218 #[.int .i64 n,.int .i64 k] W (Ret fun v w => v = .bool true ∧ W = w) := by
 have := Zz5 n k W
 rwa [decide_eq_true h] at this
theorem Zm7 {n k : Int} (h : ¬ (0 ≤ n ∧ n < k)) (W : World) : Calls Tryz.prog 218 #[.int .i64 n,.int .i64 k] W (Ret fun v w => v = .bool false ∧ W = w) := by
 have := Zz5 n k W
 rwa [decide_eq_false h] at this
abbrev StatM.cells (s : StatM) : List Value := [.int .i64 s.kind,.int .i64 s.mode,.int .i64 s.owner,.int .i64 s.group]
abbrev StatM.val (s : StatM) : Value := .agg (StatM.cells s).toArray
theorem Zqe (s : StatM) (W : World) : Calls Tryz.prog 161 #[s.val] W (Ret fun v w => v = .int .i64 s.check ∧ St W noF [] w) := by
 have hS := St.start W
 by_cases h1 : 0 ≤ s.kind ∧ s.kind < 5
 ·by_cases h2 : 0 ≤ s.mode ∧ s.mode < 4096
  ·by_cases h3 : 0 ≤ s.owner ∧ s.owner < 65536
   ·by_cases h4 : 0 ≤ s.group ∧ s.group < 65536
    ·refine Zab Tryz.func161 rfl Tryz.ntmps161 rfl ?_
     repeat (first|refine Yeg ?_|(refine X_id ?_;first|(refine Zaa 218 rfl rfl rfl rfl rfl (Zeb h1 _) ?_;rintro _ _ ⟨rfl,rfl⟩)|(refine Zaa 218 rfl rfl rfl rfl rfl (Zeb h2 _) ?_;rintro _ _ ⟨rfl,rfl⟩)|(refine Zaa 218 rfl rfl rfl rfl rfl (Zeb h3 _) ?_;rintro _ _ ⟨rfl,rfl⟩)|(refine Zaa 218 rfl rfl rfl rfl rfl (Zeb h4 _) ?_;rintro _ _ ⟨rfl,rfl⟩)|refine Yaf ?_|refine Yag ?_|refine Yan ?_|refine Ya4 ?_|refine Ybb ?_|refine Yap ?_|refine Ya6 (fun _ _ hS _ => ?_))|refine Yeq ?_|refine Yab ?_|refine Yat ?_|refine Yam ?_)
     exact ⟨by simp [StatM.check,h1,h2,h3,h4],hS.drops⟩
    ·refine Zab Tryz.func161 rfl Tryz.ntmps161 rfl ?_
     repeat (first|refine Yeg ?_|(refine X_id ?_;first|(refine Zaa 218 rfl rfl rfl rfl rfl (Zeb h1 _) ?_;rintro _ _ ⟨rfl,rfl⟩)|(refine Zaa 218 rfl rfl rfl rfl rfl (Zeb h2 _) ?_;rintro _ _ ⟨rfl,rfl⟩)|(refine Zaa 218 rfl rfl rfl rfl rfl (Zeb h3 _) ?_;rintro _ _ ⟨rfl,rfl⟩)|(refine Zaa 218 rfl rfl rfl rfl rfl (Zm7 h4 _) ?_;rintro _ _ ⟨rfl,rfl⟩)|refine Yaf ?_|refine Yag ?_|refine Yan ?_|refine Ya4 ?_|refine Ybb ?_|refine Ybo ?_|refine Yap ?_|refine Ya6 (fun _ _ hS _ => ?_))|refine Yek ?_|refine Yel ?_)
     exact ⟨by simp [StatM.check,h1,h2,h3,h4],hS.drops⟩
   ·refine Zab Tryz.func161 rfl Tryz.ntmps161 rfl ?_
    repeat (first|refine Yej ?_|(refine X_id ?_;first|(refine Zaa 218 rfl rfl rfl rfl rfl (Zeb h1 _) ?_;rintro _ _ ⟨rfl,rfl⟩)|(refine Zaa 218 rfl rfl rfl rfl rfl (Zeb h2 _) ?_;rintro _ _ ⟨rfl,rfl⟩)|(refine Zaa 218 rfl rfl rfl rfl rfl (Zm7 h3 _) ?_;rintro _ _ ⟨rfl,rfl⟩)|refine Yaf ?_|refine Yag ?_|refine Yan ?_|refine Ya5 ?_|refine Ybb ?_|refine Ybo ?_|refine Yap ?_|refine Ya6 (fun _ _ hS _ => ?_))|refine Yek ?_|refine Yel ?_)
    exact ⟨by simp [StatM.check,h1,h2,h3],hS.drops⟩
  ·refine Zab Tryz.func161 rfl Tryz.ntmps161 rfl ?_
   repeat (first|refine Yd0 ?_|(refine X_id ?_;first|(refine Zaa 218 rfl rfl rfl rfl rfl (Zeb h1 _) ?_;rintro _ _ ⟨rfl,rfl⟩)|(refine Zaa 218 rfl rfl rfl rfl rfl (Zm7 h2 _) ?_;rintro _ _ ⟨rfl,rfl⟩)|refine Yag ?_|refine Yan ?_|refine Ybb ?_|refine Ybo ?_|refine Yap ?_|refine Ya6 (fun _ _ hS _ => ?_))|refine Yek ?_|refine Yel ?_)
   exact ⟨by simp [StatM.check,h1,h2],hS.drops⟩
 ·refine Zab Tryz.func161 rfl Tryz.ntmps161 rfl ?_
  repeat (first|refine Yd0 ?_|(refine X_id ?_;first|(refine Zaa 218 rfl rfl rfl rfl rfl (Zm7 h1 _) ?_;rintro _ _ ⟨rfl,rfl⟩)|refine Yag ?_|refine Yan ?_|refine Ybo ?_|refine Yap ?_|refine Ya6 (fun _ _ hS _ => ?_))|refine Yen ?_|refine Yel ?_)
  exact ⟨by simp [StatM.check,h1],hS.drops⟩
theorem Zrr (s : StatM) (W : World) : Calls Tryz.prog 214 #[s.val] W (Ret fun v w => v = .int .i64 s.num ∧ St W noF [] w) := by
 have hc := Zqe s
 have hS := St.start W
 by_cases h : s.check = 0
 ·have h4 := StatM.check_ok h
  rw [h] at hc
  refine Zab Tryz.func214 rfl Tryz.ntmps214 rfl ?_
  repeat (first|refine Yd0 ?_|(refine X_id ?_;first|(refine Zae 161 rfl rfl rfl rfl rfl hS (hc _) ?_;rintro _ _ rfl hS)|refine Yag ?_|refine Yan ?_|refine Ybd ?_|refine Yax ?_|refine Ych ?_|refine Yap ?_|refine Ybe ?_|refine Ya6 (fun _ _ hS _ => ?_))|refine Yep ?_|refine Yd2 ?_)
  exact ⟨by simp [StatM.num,h],hS.drops⟩
 ·refine Zab Tryz.func214 rfl Tryz.ntmps214 rfl ?_
  repeat (first|refine Yd0 ?_|(refine X_id ?_;first|(refine Zae 161 rfl rfl rfl rfl rfl hS (hc _) ?_;rintro _ _ rfl hS)|refine Yag ?_|refine Ybl ?_|refine Ybe ?_|refine Ya6 (fun _ _ hS _ => ?_))|refine Yeh ?_|refine Yei ?_)
  exact ⟨by simp [StatM.num,h],hS.drops⟩
end Cr
namespace Cr
open Go Go.Proofs
set_option maxRecDepth 100000
set_option maxHeartbeats 8000000
attribute [local irreducible] Calls

theorem Zkv {n : Int} {c k : Nat} (h : k < c) : (bigB n c).take (k + 1) = (bigB n c).take k ++ [Zy7 n c k] := by
 rw [List.take_add_one]
 congr 1
 have hl : k < (bigB n c).length := by rw [Zag]; exact h
 have := Zo9 n c k h c (Nat.le_refl _)
 rw [if_pos h] at this
 have e : (bigB n c)[k] = (bigB n c).getD k 0 := by rw [List.getD_eq_getElem?_getD,List.getElem?_eq_getElem hl]; rfl
 rw [List.getElem?_eq_getElem hl,e]
 unfold bigB
 rw [this]; rfl
theorem Zms (n : Int) (c : Nat) (hc : c ≤ 64) (W : World) :
  Calls Tryz.prog 143 #[.int .i64 n,.int .i64 (c : Nat)] W (Ret fun v w => ∃ a k,v = .slice a c k ∧ c ≤ k ∧ St W noF [own 5 1 a k (bv (bigB n c))] w) := by
 have hS := St.start W
 refine Zab Tryz.func143 rfl Tryz.ntmps143 rfl ?_
 repeat (first|refine Yd0 ?_|refine Yaf ?_|refine Yag ?_|refine Yb2 ?_|refine Yd3 ?_|refine Yab ?_)
 refine Zak (α := Nat × Option Addr × Nat) (fun z => [(0,.int .i64 n),(1,.int .i64 (c : Nat)),(5,.slice z.2.1 z.1 z.2.2),(6,.int .i64 ((c : Int) - 1 - (z.1 : Nat)))])
  (fun z w => z.1 ≤ c ∧ z.1 ≤ z.2.2 ∧ St W noF [own 5 1 z.2.1 z.2.2 (bv ((bigB n c).take z.1))] w) (fun z => c - z.1) (0,none,0) ⟨rfl,rfl,rfl,by simp [look],trivial⟩ ⟨Nat.zero_le _,Nat.le_refl _,hS.own_none _ _ _⟩ ?_
 clear hS
 rintro ⟨i,a,k⟩ w ⟨hi,hk,hS⟩
 simp only at hi hk hS ⊢
 have htl : ((bigB n c).take i).length = i := by rw [List.length_take,Zag]; omega
 by_cases hlt : i < c
 ·have e8 : (8 * ((c : Int) - 1 - (i : Nat))).toNat = 8 * (c - 1 - i) := by omega
  repeat (first|refine Yd0 ?_|(refine X_id ?_;first|refine Yaf ?_|refine Yb7 ?_|refine Ych ?_|refine Yc8 ?_|refine Ycn ?_|refine Ycz ?_|refine Ybf (fun _ _ hS _ => ?_))|refine Yd4 ?_|refine Yab ?_)
  rw [e8]
  repeat (first|fail)
  refine Zap (n := i) (m := 1) rfl rfl rfl rfl rfl hS (by simp [htl]) hk ((hS.rd (List.mem_cons_self ..)).own_row) (by simp) (by simp [Value.oneCell']) (by omega) (by simp only [maxLen]; omega) (fun a' c' w hS hc' _ => ?_)
  repeat (first|refine Yd0 ?_|refine Yaf ?_|refine Yag ?_|refine Yb2 ?_|refine Yad ?_|refine Yd8 ?_)
  have e1 : (c : Int) - 1 - ((i + 1 : Nat) : Int) = (c : Int) - 1 - (i : Nat) - 1 := by omega
  refine Zaf (z := (i,a,k)) (i + 1,a',c') ⟨rfl,rfl,rfl,by simp only; rw [e1]; rfl,trivial⟩ ⟨by simp only; omega,hc',?_⟩ (by simp only; omega)
  rw [e8] at hS
  show St W noF [own 5 1 a' c' (bv ((bigB n c).take (i + 1)))] w
  rw [Zkv hlt,Zdt]
  have h := hS.pick [0]
  exact h
 ·obtain rfl : i = c := by omega
  rw [List.take_of_length_le (by rw [Zag]; omega)] at hS
  repeat (first|refine Yd0 ?_|refine Yaf ?_|refine Yag ?_|refine Yb9 ?_|refine Yd9 ?_|refine Yez ?_)
  exact ⟨a,k,rfl,hk,hS⟩
theorem Zp1 (s : List UInt8) : Zah (bv (List.replicate 64 0)) 0 ((bv s).take 64) = bv (Zcs s) := by
 unfold Zah Zcs
 rw [List.take_append,Zdt,Zkf]
 simp only [List.take_zero,List.nil_append,Nat.zero_add]
 congr 1
 rw [List.length_take,Zaq,← Zgb,List.take_replicate,List.drop_replicate,Zgb]
 congr 2
 omega
theorem Zmx (a : Option Addr) (c : Nat) (s : List UInt8) (W : World) (hs : Rd W (bytes a s)) :
  Calls Tryz.prog 83 #[.slice a s.length c] W (Ret fun v w => ∃ p,v = .slice (some ⟨p,0,none⟩) 64 64 ∧ St W noF [bytes (some ⟨p,0,none⟩) (Zcs s)] w) := by
 have hS := St.start W
 have hso := hs.ro
 refine Zab Tryz.func83 rfl Tryz.ntmps83 rfl ?_
 repeat (first|refine Yd0 ?_|refine Yag ?_|refine Yd1 ?_|refine Yab ?_)
 refine Zni (c := 64) rfl rfl rfl (by omega) (by omega) rfl rfl hS (fun p w hS => ?_)
 repeat (first|refine Yd0 ?_|refine Yee ?_|refine Yd1 ?_|refine Yab ?_)
 refine Zpp rfl rfl rfl rfl rfl hS (hso.rd hS) (by simp) Zel (by simp) (fun w hS => ?_)
 rw [Zp1] at hS
 repeat (first|refine Yd0 ?_|refine Yee ?_|refine Yed ?_|refine Yd2 ?_)
 exact ⟨p,rfl,hS.head Zmi⟩
theorem Zr4 (n : Nat) (W : World) (hn : n ≤ 1099511627776) : Calls Tryz.prog 150 #[.int .i64 (n : Nat)] W (Ret fun v w => v = .int .i64 (nblk n : Nat) ∧ W = w) := by
 by_cases h0 : n = 0
 ·subst h0
  refine Zab Tryz.func150 rfl Tryz.ntmps150 rfl ?_
  repeat (first|refine Yd0 ?_|refine Yaf ?_|refine Yag ?_|refine Ya2 ?_|refine Yeh ?_|refine Yei ?_)
  exact ⟨rfl,rfl⟩
 ·have e : ((nblk n : Nat) : Int) = ((n : Int) - 1) / 64 + 1 := by unfold nblk; omega
  rw [e]
  refine Zab Tryz.func150 rfl Tryz.ntmps150 rfl ?_
  repeat (first|refine Yd0 ?_|(refine X_id ?_;first|refine Yaf ?_|refine Yag ?_|refine Ya3 ?_|refine Yax ?_|refine Yb2 ?_|refine Yc9 ?_)|refine Yep ?_|refine Yd2 ?_)
  exact ⟨rfl,rfl⟩
end Cr
namespace Cr
open Go Go.Proofs
set_option maxRecDepth 100000
set_option maxHeartbeats 8000000
attribute [local irreducible] Calls

theorem Z5j (n : Nat) (W : World) (hn : n ≤ 1099511627776) :
  Calls Tryz.prog 209 #[.slice none 0 0,.int .i64 (n : Nat)] W (Ret fun v w => ∃ a c,v = .slice a 0 c ∧ St W noF [own 5 1 a c []] w) := by
 have hS := (St.start W).own_none 5 1 none
 by_cases h0 : n = 0
 ·subst h0
  refine Zab Tryz.func209 rfl Tryz.ntmps209 rfl ?_
  repeat (first|refine Yd0 ?_|(refine X_id ?_;first|refine Yaf ?_|refine Yag ?_|refine Yav ?_|refine Ydl ?_|refine Ya3 ?_|refine Ybu ?_|refine Yb2 ?_)|refine Yep ?_|refine Yd2 ?_)
  exact ⟨none,0,rfl,hS⟩
 ·refine Zab Tryz.func209 rfl Tryz.ntmps209 rfl ?_
  repeat (first|refine Yd0 ?_|(refine X_id ?_;first|refine Yaf ?_|refine Yag ?_|refine Yav ?_|refine Ydl ?_|refine Ya3 ?_|refine Ybx ?_|refine Yb2 ?_)|refine Yet ?_|refine Yab ?_)
  refine X_yl (Zan (l := 0) (h := 0) rfl rfl rfl rfl (.inr ⟨_,_,rfl,by omega,by omega,by omega⟩) (.inl ⟨rfl,rfl⟩)) rfl rfl ?_
  rw [sub_zero]
  repeat (first|refine Yaa ?_|refine Yaf ?_)
  have e0 : ((n : Int) - (((0 : Nat) : Int) - ((0 : Nat) : Int))) = (n : Nat) := by omega
  refine Zw7 (m := n) (n := 0) rfl rfl (by first | rfl | (rw [e0]; rfl) | (simp only [e0]; rfl)) rfl rfl rfl rfl hS rfl (by omega) (by omega) (by simp only [maxLen]; omega) (fun a c w hS hc _ => ?_)
  repeat (first|refine Yaa ?_|refine Yaf ?_|refine Yav ?_)
  refine X_yl (Zan (l := 0) (h := 0) rfl rfl rfl rfl (.inr ⟨_,_,rfl,by omega,by omega,by omega⟩) (.inl ⟨rfl,rfl⟩)) rfl rfl ?_
  rw [sub_zero]
  repeat (first|refine Yd0 ?_|refine Yee ?_|refine Yed ?_|refine Yd2 ?_)
  exact ⟨a,c,rfl,hS.head (own.shrink 0)⟩
theorem Zkc (a : Option Addr) (c : Nat) (l : List Bs) (W : World) (hB : Bss W noF a l) (hl : l.length ≤ 1099511627776) (hn : (Zai l).length ≤ 1099511627776) :
  Calls Tryz.prog 145 #[.slice a l.length c] W (Ret fun v w => ∃ a' c',v = .slice a' (Zai l).length c' ∧ (Zai l).length ≤ c' ∧ St W noF [own 5 1 a' c' (bv (Zai l))] w) := by
 have hS := St.start W
 have hBr := hB.row
 refine Zab Tryz.func145 rfl Tryz.ntmps145 rfl ?_
 repeat (first|refine Yd0 ?_|refine Yev ?_|refine Yd3 ?_|refine Yab ?_)
 refine Zcp (α := Unit) (fun _ => [(0,.slice a l.length c),(3,.int .i64 ((Zai l).length : Nat))]) (fun _ w => St W noF [] w) ?_ ?_
 ·refine Zak (α := Nat) (fun i => [(0,.slice a l.length c),(3,.int .i64 ((Zai (l.take i)).length : Nat)),(9,.slice a l.length c),(10,.int .i64 (l.length : Nat)),(11,.int .i64 (i : Nat))])
   (fun i w => i ≤ l.length ∧ St W noF [] w) (fun i => l.length - i) 0 ⟨rfl,rfl,rfl,rfl,rfl,trivial⟩ ⟨Nat.zero_le _,hS⟩ ?_
  clear hS
  rintro i w ⟨hi,hS⟩
  have hle := Zbe l i
  by_cases hlt : i < l.length
  ·have hx0 : l[i]? = some l[i] := List.getElem?_eq_getElem hlt
   generalize l[i] = x at hx0
   have hj := Zcr hx0
   have hle2 := Zbe l (i + 1)
   have hjl : (Zai (l.take (i + 1))).length = (Zai (l.take i)).length + x.s.length := by rw [hj]; simp
   have hr := hBr
   have hx : (l.map Bs.val)[i]? = some (.slice x.a x.s.length x.c) := by simp [hx0,Bs.val]
   obtain ⟨xb,xo,rfl⟩ := (hr.rd hS).base (by intro e; rw [e] at hx; simp at hx)
   repeat (first|refine Yd0 ?_|(refine X_id ?_;first|refine Yaf ?_|refine Yag ?_|refine Yav ?_|refine Ya2 ?_|refine Ya3 ?_|refine Ybc ?_|refine Yax ?_|refine Yb5 ?_)|refine Yd7 ?_|refine Yd8 ?_)
   refine Zaf (i + 1) ⟨rfl,?_,rfl,rfl,rfl,trivial⟩ ⟨by omega,hS⟩ (by omega)
   rw [hjl]; rfl
  ·obtain rfl : i = l.length := by omega
   rw [List.take_length]
   repeat (first|refine Yd0 ?_|refine Ya3 ?_|refine Yec ?_|refine Yd6 ?_)
   exact Zbi () ⟨rfl,rfl,trivial⟩ hS
 ·clear hS
  rintro _ w hS
  repeat (first|refine Yaa ?_|refine Yaf ?_|refine Yd1 ?_)
  refine Zaa _ rfl rfl rfl rfl rfl (Z5j (Zai l).length _ hn) ?_
  rintro _ w ⟨a1,c1,rfl,hS'⟩
  replace hS := hS.plus hS'
  clear hS'
  repeat (first|refine Yd0 ?_|refine Yev ?_|refine Yd3 ?_|refine Yab ?_)
  refine Zak (α := Nat × Option Addr × Nat) (fun z => [(6,.slice z.2.1 (Zai (l.take z.1)).length z.2.2),(25,.slice a l.length c),(26,.int .i64 (l.length : Nat)),(27,.int .i64 (z.1 : Nat))])
   (fun z w => z.1 ≤ l.length ∧ (Zai (l.take z.1)).length ≤ z.2.2 ∧ St W noF [own 5 1 z.2.1 z.2.2 (bv (Zai (l.take z.1)))] w) (fun z => l.length - z.1) (0,a1,c1) ⟨rfl,rfl,rfl,rfl,trivial⟩ ⟨Nat.zero_le _,by simp [Zai],hS⟩ ?_
  clear hS
  rintro ⟨i,a2,c2⟩ w ⟨hi,hc,hS⟩
  simp only at hi hc hS ⊢
  have hle := Zbe l i
  by_cases hlt : i < l.length
  ·have hx0 : l[i]? = some l[i] := List.getElem?_eq_getElem hlt
   have hxm := List.getElem_mem hlt
   generalize l[i] = x at hx0 hxm
   have hj := Zcr hx0
   have hle2 := Zbe l (i + 1)
   have hjl : (Zai (l.take (i + 1))).length = (Zai (l.take i)).length + x.s.length := by rw [hj]; simp
   have hr := hBr
   have hx : (l.map Bs.val)[i]? = some (.slice x.a x.s.length x.c) := by simp [hx0,Bs.val]
   obtain ⟨xb,xo,rfl⟩ := (hr.rd hS).base (by intro e; rw [e] at hx; simp at hx)
   have hbx := hB.all x hxm
   repeat (first|refine Yd0 ?_|refine Ye0 ?_|refine Yd4 ?_|refine Yab ?_)
   refine Zap rfl rfl rfl rfl rfl hS (by simp) hc (hbx.rd hS) (by simp) Zel (by omega) (by simp only [maxLen]; omega) (fun a' c' w hS hc' _ => ?_)
   repeat (first|refine Yd0 ?_|refine Yef ?_|refine Yad ?_|refine Yd8 ?_)
   refine Zaf (z := (i,a2,c2)) (i + 1,a',c') ⟨?_,rfl,rfl,rfl,trivial⟩ ⟨by simp only; omega,by simp only; omega,?_⟩ (by simp only; omega)
   ·simp only
    rw [hjl]; rfl
   ·simp only
    rw [hj,Zdt]
    exact hS
  ·obtain rfl : i = l.length := by omega
   rw [List.take_length] at hS hc ⊢
   repeat (first|refine Yd0 ?_|refine Yey ?_|refine Yd9 ?_|refine Yez ?_)
   exact ⟨a2,c2,rfl,hc,hS⟩
end Cr
namespace Cr
open Go Go.Proofs
set_option maxRecDepth 10000

theorem Zdi (l : List (Int × List UInt8)) : ∀ i,i ≤ l.length → (Zba l i = false ↔ ((l.take i).map (·.1)).Nodup)
 | 0,_ => by simp [Zba]
 | i + 1,h => by
  have ih := Zdi l i (by omega)
  have e : (l.take (i + 1)).map (·.1) = (l.take i).map (·.1) ++ [(l.getD i (0,[])).1] := by
   rw [List.take_succ_eq_append_getElem (show i < l.length by omega),List.map_append,List.getD_eq_getElem?_getD,List.getElem?_eq_getElem (show i < l.length by omega)]
   rfl
  rw [e,Zba,Bool.or_eq_false_iff,ih,List.nodup_append]
  simp only [decide_eq_false_iff_not]
  constructor
  ·rintro ⟨h1,h2⟩
   refine ⟨h1,by simp,fun a ha b hb => ?_⟩
   rw [List.mem_singleton] at hb
   rw [hb]
   exact fun e => h2 (e ▸ ha)
  ·rintro ⟨h1,_,h2⟩
   exact ⟨h1,fun hm => h2 _ hm _ (List.mem_singleton.2 rfl) rfl⟩
theorem Znx {l : List (Int × List UInt8)} (h : (l.map (·.1)).Nodup) : Zba l l.length = false := (Zdi l _ (Nat.le_refl _)).2 (by simpa using h)
theorem Zny {l : List Chg} (h : Zk2 l = false) : (l.map (·.no)).Nodup := by
 unfold Zk2 at h
 have e : l.length = (l.map fun c => (c.no,([] : List UInt8))).length := by simp
 rw [e] at h
 have := (Zdi _ _ (Nat.le_refl _)).1 h
 rw [List.take_length] at this
 simpa [Function.comp_def] using this
theorem Zin {l : List (Int × List UInt8)} (h : (l.map (·.1)).Nodup) {m : Int} {s : List UInt8} (hv : (m,s) ∈ l) : Zcg l m = some s := Zqh (Znx h) hv

/-! ### counting -/
theorem Zuq (g : Nat → Nat) (a k : Nat) (hg : g k = 0) : ∀ n,((List.range n).map fun i => if i = k then a else g i).sum = (if k < n then a else 0) + ((List.range n).map g).sum
 | 0 => by simp
 | n + 1 => by
  rw [List.range_succ,List.map_append,List.sum_append,Zuq g a k hg n,List.map_append,List.sum_append]
  simp only [List.map_cons,List.map_nil,List.sum_cons,List.sum_nil]
  by_cases h : n = k
  ·subst h; simp [hg]; omega
  ·by_cases h2 : k < n
   ·rw [if_pos h2,if_neg h,if_pos (by omega)]; omega
   ·rw [if_neg h2,if_neg h,if_neg (by omega)]; omega
def wtO (x : Option Nd) : Nat := match x with | some x => nblk x.data.length | none => 0
theorem Zur (n : Nat) : ∀ A : Ents,(∀ k ∈ Zas A,0 ≤ k ∧ k < n) → (Zas A).Nodup → ((List.range n).map fun i => wtO ((getA (i : Nat) A).map (·.nd))).sum = (A.map fun x => nblk x.2.nd.data.length).sum
 | [],_,_ => by
  have : ∀ n,((List.range n).map fun i : Nat => wtO ((getA (i : Nat) ([] : Ents)).map (·.nd))).sum = 0 := fun n => by
   induction n with
   | zero => rfl
   | succ n ih => rw [List.range_succ,List.map_append,List.sum_append,ih]; simp [getA,wtO]
  simpa using this n
 | x :: A,hk,hn => by
  have hn' : x.1 ∉ Zas A ∧ (Zas A).Nodup := List.nodup_cons.1 hn
  have ih := Zur n A (fun k h => hk k (List.mem_cons_of_mem _ h)) hn'.2
  have hx := hk x.1 (List.mem_cons_self ..)
  have h0 : wtO ((getA ((x.1.toNat : Nat) : Int) A).map (·.nd)) = 0 := by
   rw [show ((x.1.toNat : Nat) : Int) = x.1 by omega,getA_none.2 hn'.1]; rfl
  have e : (fun i : Nat => wtO ((getA (i : Nat) (x :: A)).map (·.nd))) = fun i => if i = x.1.toNat then nblk x.2.nd.data.length else (fun i : Nat => wtO ((getA (i : Nat) A).map (·.nd))) i := by
   funext i
   simp only [getA]
   by_cases h : i = x.1.toNat
   ·rw [if_pos h,if_pos (by omega)]; rfl
   ·rw [if_neg h,if_neg (by omega)]
  rw [e,Zuq _ _ _ h0,ih,if_pos (by omega)]
  simp
theorem Zuv (T : Tb) (nb : Nat) : Zuw T nb = (nb : Int) - ((T.map wtO).sum : Nat) := by
 unfold Zuw
 have key : ∀ (T : Tb) (r : Int),T.foldl (fun r x => match x with | some x => r - (nblk x.data.length : Nat) | none => r) r = r - ((T.map wtO).sum : Nat) := by
  intro T
  induction T with
  | nil => intro r; simp
  | cons x T ih =>
   intro r
   rw [List.foldl_cons,ih,List.map_cons,List.sum_cons]
   cases x <;> simp [wtO] <;> omega
 exact key T nb
theorem Zlw (nb : Nat) : ∀ A : Ents,(∀ x ∈ A,x.2.ok nb) → (Zau A).length = (A.map fun x => nblk x.2.nd.data.length).sum
 | [],_ => rfl
 | x :: A,h => by
  have ih := Zlw nb A fun y hy => h y (List.mem_cons_of_mem _ hy)
  have hx := (h x (List.mem_cons_self ..)).cnt
  simp only [Zau,List.flatMap_cons,List.length_append,List.map_cons,List.sum_cons] at ih ⊢
  rw [ih,hx]
theorem Z0x {A : Ents} {n nb : Nat} (hk : ∀ k ∈ Zas A,0 ≤ k ∧ k < n) (hn : (Zas A).Nodup) (hok : ∀ x ∈ A,x.2.ok nb) : Zuw (tabOf A n) nb = (nb : Int) - ((Zau A).length : Nat) := by
 rw [Zuv,Zlw nb A hok,← Zur n A hk hn,tabOf,List.map_map]
 rfl
theorem Zz2 : ∀ (nb : Nat) (B : List Int),B.Nodup → (∀ b ∈ B,0 ≤ b ∧ b < nb) → (((List.range nb).map fun k => ((k : Nat) : Int)).filter fun b => decide (b ∈ B)).length = B.length
 | 0,B,_,hb => by
  cases B with
  | nil => rfl
  | cons b B => have := hb b (List.mem_cons_self ..); omega
 | nb + 1,B,hn,hb => by
  have ih := Zz2 nb (B.erase (nb : Nat)) (hn.erase _) fun b h => by
   have h1 := hb b (List.mem_of_mem_erase h)
   have h2 : b ≠ (nb : Nat) := ((hn.mem_erase_iff).1 h).1
   omega
  have e : ((List.range nb).map fun k => ((k : Nat) : Int)).filter (fun b => decide (b ∈ B)) = ((List.range nb).map fun k => ((k : Nat) : Int)).filter (fun b => decide (b ∈ B.erase (nb : Nat))) := by
   refine List.filter_congr fun x hx => ?_
   obtain ⟨k,hk,rfl⟩ := List.mem_map.1 hx
   have hk := List.mem_range.1 hk
   have : ((k : Nat) : Int) ≠ (nb : Nat) := by omega
   simp [hn.mem_erase_iff,this]
  rw [List.range_succ,List.map_append,List.filter_append,List.length_append,e,ih]
  by_cases h : ((nb : Nat) : Int) ∈ B
  ·have := List.length_erase_of_mem h
   have h2 : 0 < B.length := List.length_pos_of_mem h
   simp [h]; omega
  ·rw [List.erase_of_not_mem h]
   simp [h]
theorem freeL_mem {A : Ents} {nb : Nat} {b : Int} : b ∈ Zgm A nb ↔ (0 ≤ b ∧ b < nb) ∧ b ∉ Zau A := by
 unfold Zgm
 rw [List.mem_filter,List.mem_map]
 simp only [List.mem_range,decide_eq_true_eq]
 constructor
 ·rintro ⟨⟨k,hk,rfl⟩,h⟩
  exact ⟨by omega,h⟩
 ·rintro ⟨⟨h1,h2⟩,h⟩
  exact ⟨⟨b.toNat,by omega,by omega⟩,h⟩
theorem Zql (A : Ents) (nb : Nat) : (Zgm A nb).Nodup := by
 unfold Zgm
 refine List.Nodup.sublist List.filter_sublist ?_
 rw [List.Nodup,List.pairwise_map]
 exact (List.nodup_range (n := nb)).imp fun h e => h (by omega)
theorem Zyv {A : Ents} {nb : Nat} (hn : (Zau A).Nodup) (hb : ∀ b ∈ Zau A,0 ≤ b ∧ b < nb) : (Zau A).length + (Zgm A nb).length = nb := by
 have h1 := Zz2 nb (Zau A) hn hb
 have h2 := List.length_eq_countP_add_countP (l := (List.range nb).map fun k => ((k : Nat) : Int)) (fun b => decide (b ∈ Zau A))
 rw [List.countP_eq_length_filter,List.countP_eq_length_filter,h1] at h2
 simp only [List.length_map,List.length_range] at h2
 have e : Zgm A nb = ((List.range nb).map fun k => ((k : Nat) : Int)).filter (fun a => decide ¬(decide (a ∈ Zau A) = true)) := by
  unfold Zgm
  refine List.filter_congr fun x _ => ?_
  simp
 rw [e]; omega

/-! ### one change -/
structure Inv (rd fs : List Int) (dat : List (List UInt8)) (n nb : Nat) (q : List Chg) (z : ApS) (x : Tb × Nat × Bool) : Prop where
 keys : ∀ k ∈ Zas z.A,0 ≤ k ∧ k < n
 nodup : (Zas z.A).Nodup
 pend : ∀ c ∈ q,c.no ∉ Zas z.A
 ok : ∀ s ∈ z.A,s.2.ok nb
 flow : ∀ b ∈ z.free,0 ≤ b ∧ b < nb
 all : (Zau z.A ++ z.free).Nodup
 count : (Zau z.A).length + z.free.length = nb
 front : (Zby dat z.w).getD 0 [] = Zce rd fs n
 node : ∀ i,i < n → (i : Int) ∉ q.map (·.no) → (Zby dat z.w).getD (1 + i) [] = match getA (i : Nat) z.A with | some s => stoB s | none => zero64
 at_ : ∀ s ∈ z.A,∀ k b,s.2.blocks[k]? = some b → (Zby dat z.w).getD (1 + n + b.toNat) [] = Zga s.2.nd.data k
 wlen : ∀ v ∈ z.w,v.2.length = 64
 wlow : ∀ v ∈ z.w,1 ≤ v.1 ∧ v.1 < 1 + (n : Int) + nb
 wpend : ∀ v ∈ z.w,v.1 < 1 + (n : Int) → ∀ c ∈ q,v.1 ≠ 1 + c.no
 wfree : ∀ v ∈ z.w,∀ b ∈ z.free,v.1 ≠ 1 + (n : Int) + b
 wnodup : (z.w.map (·.1)).Nodup
 tab : x.1 = tabOf z.A n
 cnt : x.2.1 = z.w.length
 fine : x.2.2 = false
theorem Zim (l : List (List UInt8)) (a b : List (Int × List UInt8)) : Zby l (a ++ b) = Zby (Zby l a) b := by simp [Zby]
theorem Zm3 (d : List UInt8) (i : Nat) : (Zga d i).length = 64 := Zbl _
theorem Zdk (s : Sto) : (stoB s).length = 64 := Zbl _
theorem Zup {A : Ents} {n : Nat} {k : Int} {s : Sto} (h0 : 0 ≤ k) (h1 : k < n) : tabOf (setA k s A) n = (tabOf A n).set k.toNat (some s.nd) := by
 apply List.ext_getElem?
 intro i
 rw [List.getElem?_set]
 by_cases hi : i < n
 ·rw [Ze5 _ hi,Zdp]
  by_cases hk : k.toNat = i
  ·rw [if_pos hk,if_pos (by omega),if_pos (by rw [Zbw]; omega)]; rfl
  ·rw [if_neg hk,if_neg (by omega),Ze5 _ hi]
 ·have h2 : ∀ A : Ents,(tabOf A n)[i]? = none := fun A => List.getElem?_eq_none (by rw [Zbw]; omega)
  rw [h2,h2,if_neg (by omega)]
theorem Zcw {n : Nat} {bs : List Int} {d : List UInt8} {v : Int × List UInt8} (h : v ∈ Zca n bs d) : ∃ k b,bs[k]? = some b ∧ v = (1 + (n : Int) + b,Zga d k) := by
 obtain ⟨k,hk,rfl⟩ := List.mem_map.1 h
 have hk := List.mem_range.1 hk
 exact ⟨k,bs[k],List.getElem?_eq_getElem hk,by simp [List.getD_eq_getElem?_getD,hk]⟩
theorem Zwj {n : Nat} {bs : List Int} {d : List UInt8} {k : Nat} {b : Int} (h : bs[k]? = some b) : (1 + (n : Int) + b,Zga d k) ∈ Zca n bs d := by
 have hk := (List.getElem?_eq_some_iff.1 h).1
 exact List.mem_map.2 ⟨k,List.mem_range.2 hk,by simp [List.getD_eq_getElem?_getD,h]⟩
theorem Zt5 (n : Nat) (bs : List Int) (d : List UInt8) : (Zca n bs d).map (·.1) = bs.map fun b => 1 + (n : Int) + b := by
 apply List.ext_getElem
 ·simp [Zca]
 ·intro i h1 h2
  simp [Zca] at h1 h2 ⊢
  simp [h1]
theorem Inv.step {rd fs : List Int} {dat : List (List UInt8)} {n nb : Nat} {c : Chg} {q : List Chg} {z : ApS} {x : Tb × Nat × Bool} (hlen : dat.length = 1 + n + nb) (h : Inv rd fs dat n nb (c :: q) z x) (hc0 : 0 ≤ c.no) (hc1 : c.no < n) (hq : ∀ c' ∈ q,c'.no ≠ c.no)
  (hst : c.drop = false → c.nd.st.check = 0 ∧ c.nd.data.length ≤ 512) :
  (z.step n c = none ∧ (Zgh x nb c).2.2 = true) ∨ ∃ z',z.step n c = some z' ∧ Inv rd fs dat n nb q z' (Zgh x nb c) := by
 have hcA : c.no ∉ Zas z.A := h.pend c (List.mem_cons_self ..)
 have hll : ∀ a,(Zby dat a).length = 1 + n + nb := fun a => by rw [Zat]; exact hlen
 by_cases hd : c.drop = true
 ·right
  have e : Zgh x nb c = (x.1,x.2.1 + 1,false) := by unfold Zgh; rw [if_neg (by simp [h.fine]),if_pos hd]
  refine ⟨_,by unfold ApS.step; rw [if_pos hd],?_⟩
  rw [e]
  have hget : ∀ k,k < 1 + n + nb → (Zby dat (z.w ++ [(1 + c.no,zero64)])).getD k [] = if (k : Int) = 1 + c.no then zero64 else (Zby dat z.w).getD k [] := fun k hk => by
   rw [Zim,Zc1 _ _ _ (by rw [hll]; exact hk) (fun v hv => by rw [List.mem_singleton] at hv; rw [hv]; simp only; omega),Zdn]
   by_cases hk2 : (k : Int) = 1 + c.no
   ·rw [if_pos hk2,if_pos hk2.symm]; rfl
   ·rw [if_neg hk2,if_neg (fun e => hk2 e.symm)]; rfl
  refine ⟨h.keys,h.nodup,fun c' hc' => h.pend c' (List.mem_cons_of_mem _ hc'),h.ok,h.flow,h.all,h.count,?_,?_,?_,?_,?_,?_,?_,?_,h.tab,by simp [h.cnt],rfl⟩
  ·rw [hget 0 (by omega),if_neg (by omega)]; exact h.front
  ·intro i hi hiq
   rw [hget _ (by omega)]
   by_cases hic : ((1 + i : Nat) : Int) = 1 + c.no
   ·rw [if_pos hic]
    have : ((i : Nat) : Int) = c.no := by omega
    simp only [this,getA_none.2 hcA]
   ·rw [if_neg hic]
    exact h.node i hi fun hm => by
     rcases List.mem_cons.1 hm with e | e
     ·have e : ((i : Nat) : Int) = c.no := e
      omega
     ·exact hiq e
  ·intro s hs k b hb
   have hb2 := (h.ok s hs).low b (List.mem_of_getElem? hb)
   rw [hget _ (by omega),if_neg (by omega)]
   exact h.at_ s hs k b hb
  ·intro v hv
   rcases List.mem_append.1 hv with hv | hv
   ·exact h.wlen v hv
   ·rw [List.mem_singleton] at hv; rw [hv]; simp [zero64]
  ·intro v hv
   rcases List.mem_append.1 hv with hv | hv
   ·exact h.wlow v hv
   ·rw [List.mem_singleton] at hv; rw [hv]; simp only; omega
  ·intro v hv hlt c' hc'
   rcases List.mem_append.1 hv with hv | hv
   ·exact h.wpend v hv hlt c' (List.mem_cons_of_mem _ hc')
   ·rw [List.mem_singleton] at hv; rw [hv]; simp only
    have := hq c' hc'
    omega
  ·intro v hv b hb
   rcases List.mem_append.1 hv with hv | hv
   ·exact h.wfree v hv b hb
   ·have := h.flow b hb
    rw [List.mem_singleton] at hv; rw [hv]; simp only; omega
  ·rw [List.map_append,List.nodup_append]
   refine ⟨h.wnodup,by simp,fun a ha b hb => ?_⟩
   simp only [List.map_cons,List.map_nil,List.mem_singleton] at hb
   obtain ⟨v,hv,rfl⟩ := List.mem_map.1 ha
   rw [hb]
   by_cases hlt : v.1 < 1 + (n : Int)
   ·exact h.wpend v hv hlt c (List.mem_cons_self ..)
   ·omega
 ·have hd' : c.drop = false := by simpa using hd
  obtain ⟨hst1,hst2⟩ := hst hd'
  have hroom : Zuw x.1 nb = (z.free.length : Nat) := by
   rw [h.tab,Z0x h.keys h.nodup h.ok]
   have := h.count
   omega
  by_cases hr : z.free.length < nblk c.nd.data.length
  ·left
   refine ⟨by unfold ApS.step; rw [if_neg hd,if_pos hr],?_⟩
   unfold Zgh
   rw [if_neg (by simp [h.fine]),if_neg hd,if_pos (by rw [hroom]; omega)]
  ·right
   have e : Zgh x nb c = (x.1.set c.no.toNat (some c.nd),x.2.1 + 1 + nblk c.nd.data.length,false) := by
    unfold Zgh
    rw [if_neg (by simp [h.fine]),if_neg hd,if_neg (by rw [hroom]; omega)]
   obtain ⟨bs,hbs⟩ : ∃ bs,bs = z.free.take (nblk c.nd.data.length) := ⟨_,rfl⟩
   obtain ⟨fr,hfr⟩ : ∃ fr,fr = z.free.drop (nblk c.nd.data.length) := ⟨_,rfl⟩
   have hbl : bs.length = nblk c.nd.data.length := by rw [hbs,List.length_take]; omega
   have hsp : z.free = bs ++ fr := by rw [hbs,hfr,List.take_append_drop]
   refine ⟨_,by unfold ApS.step; rw [if_neg hd,if_neg hr,← hbs,← hfr],?_⟩
   rw [e]
   have hset : setA c.no (⟨c.nd,bs⟩ : Sto) z.A = z.A ++ [(c.no,⟨c.nd,bs⟩)] := Zrf hcA
   have hbo : Zau (setA c.no (⟨c.nd,bs⟩ : Sto) z.A) = Zau z.A ++ bs := by rw [hset]; simp [Zau]
   have hall := h.all
   rw [hsp] at hall
   have hnA := List.nodup_append.1 hall
   have hnF := List.nodup_append.1 hnA.2.1
   have hlowb : ∀ b ∈ bs,0 ≤ b ∧ b < nb := fun b hb => h.flow b (by rw [hsp]; exact List.mem_append_left _ hb)
   have hxs0 : ∀ v ∈ Zca n bs c.nd.data ++ [(1 + c.no,stoB ⟨c.nd,bs⟩)],0 ≤ v.1 := fun v hv => by
    rcases List.mem_append.1 hv with hv | hv
    ·obtain ⟨k,b,hb,rfl⟩ := Zcw hv
     have := hlowb b (List.mem_of_getElem? hb)
     simp only; omega
    ·rw [List.mem_singleton] at hv; rw [hv]; simp only; omega
   have hxn : ((Zca n bs c.nd.data ++ [(1 + c.no,stoB ⟨c.nd,bs⟩)]).map (·.1)).Nodup := by
    rw [List.map_append,Zt5,List.nodup_append]
    refine ⟨?_,by simp,fun a ha b hb => ?_⟩
    ·rw [List.Nodup,List.pairwise_map]
     exact hnF.1.imp fun h e => h (by omega)
    ·simp only [List.map_cons,List.map_nil,List.mem_singleton] at hb
     obtain ⟨y,hy,rfl⟩ := List.mem_map.1 ha
     have := hlowb y hy
     omega
   have hget : ∀ k,k < 1 + n + nb → (Zby dat (z.w ++ (Zca n bs c.nd.data ++ [(1 + c.no,stoB ⟨c.nd,bs⟩)]))).getD k [] = (Zcg (Zca n bs c.nd.data ++ [(1 + c.no,stoB ⟨c.nd,bs⟩)]) k).getD ((Zby dat z.w).getD k []) := fun k hk => by
    rw [Zim,Zc1 _ _ _ (by rw [hll]; exact hk) hxs0]
   have hnone : ∀ k : Nat,(k : Int) ≠ 1 + c.no → (∀ b ∈ bs,(k : Int) ≠ 1 + (n : Int) + b) → Zcg (Zca n bs c.nd.data ++ [(1 + c.no,stoB ⟨c.nd,bs⟩)]) k = none := fun k h1 h2 => by
    refine Zgl fun v hv e => ?_
    rcases List.mem_append.1 hv with hv | hv
    ·obtain ⟨i,b,hb,rfl⟩ := Zcw hv
     exact h2 b (List.mem_of_getElem? hb) e.symm
    ·rw [List.mem_singleton] at hv; rw [hv] at e; exact h1 e.symm
   refine ⟨?_,?_,?_,?_,?_,?_,?_,?_,?_,?_,?_,?_,?_,?_,?_,?_,?_,rfl⟩
   ·intro k hk
    rw [hset] at hk
    simp only [Zas,List.map_append,List.map_cons,List.map_nil,List.mem_append,List.mem_singleton] at hk
    rcases hk with hk | rfl
    ·exact h.keys k hk
    ·exact ⟨hc0,hc1⟩
   ·rw [hset]
    simp only [Zas,List.map_append,List.map_cons,List.map_nil]
    rw [List.nodup_append]
    refine ⟨h.nodup,by simp,fun a ha b hb => ?_⟩
    rw [List.mem_singleton] at hb
    rw [hb]
    exact fun e => hcA (e ▸ ha)
   ·intro c' hc' hm
    rw [hset] at hm
    simp only [Zas,List.map_append,List.map_cons,List.map_nil,List.mem_append,List.mem_singleton] at hm
    rcases hm with hm | hm
    ·exact h.pend c' (List.mem_cons_of_mem _ hc') hm
    ·exact hq c' hc' hm
   ·intro s hs
    rw [hset] at hs
    rcases List.mem_append.1 hs with hs | hs
    ·exact h.ok s hs
    ·rw [List.mem_singleton] at hs; rw [hs]
     exact ⟨hst1,hst2,hbl,hlowb⟩
   ·intro b hb
    exact h.flow b (by rw [hsp]; exact List.mem_append_right _ hb)
   ·rw [hbo,List.append_assoc]; exact hall
   ·show (Zau (setA c.no (⟨c.nd,bs⟩ : Sto) z.A)).length + fr.length = nb
    rw [hbo,List.length_append]
    have := h.count
    rw [hsp,List.length_append] at this
    omega
   ·rw [hget 0 (by omega),hnone 0 (by omega) (fun b hb => by have := hlowb b hb; omega)]; exact h.front
   ·intro i hi hiq
    simp only [Zdp]
    rw [hget _ (by omega)]
    by_cases hic : ((i : Nat) : Int) = c.no
    ·rw [if_pos hic,show ((1 + i : Nat) : Int) = 1 + c.no by omega,Zin hxn (List.mem_append_right _ (List.mem_singleton.2 rfl))]; rfl
    ·rw [if_neg hic,hnone _ (by omega) (fun b hb => by have := hlowb b hb; omega)]
     exact h.node i hi fun hm => by
      rcases List.mem_cons.1 hm with e | e
      ·exact hic e
      ·exact hiq e
   ·intro s hs k b hb
    rw [hset] at hs
    rcases List.mem_append.1 hs with hs | hs
    ·have hb1 := List.mem_of_getElem? hb
     have hb2 := (h.ok s hs).low b hb1
     rw [hget _ (by omega),hnone _ (by omega) (fun b' hb' e => ?_)]
     ·exact h.at_ s hs k b hb
     ·refine hnA.2.2 b (List.mem_flatMap.2 ⟨s,hs,hb1⟩) b' (List.mem_append_left _ hb') ?_
      have := hlowb b' hb'
      omega
    ·rw [List.mem_singleton] at hs
     subst hs
     have hb2 := hlowb b (List.mem_of_getElem? hb)
     rw [hget _ (by omega),show ((1 + n + b.toNat : Nat) : Int) = 1 + (n : Int) + b by omega,Zin hxn (List.mem_append_left _ (Zwj hb))]; rfl
   ·intro v hv
    rcases List.mem_append.1 hv with hv | hv
    ·exact h.wlen v hv
    ·rcases List.mem_append.1 hv with hv | hv
     ·obtain ⟨k,b,hb,rfl⟩ := Zcw hv
      exact Zm3 ..
     ·rw [List.mem_singleton] at hv; rw [hv]; exact Zdk _
   ·intro v hv
    rcases List.mem_append.1 hv with hv | hv
    ·exact h.wlow v hv
    ·rcases List.mem_append.1 hv with hv | hv
     ·obtain ⟨k,b,hb,rfl⟩ := Zcw hv
      have := hlowb b (List.mem_of_getElem? hb)
      simp only; omega
     ·rw [List.mem_singleton] at hv; rw [hv]; simp only; omega
   ·intro v hv hlt c' hc'
    rcases List.mem_append.1 hv with hv | hv
    ·exact h.wpend v hv hlt c' (List.mem_cons_of_mem _ hc')
    ·rcases List.mem_append.1 hv with hv | hv
     ·obtain ⟨k,b,hb,rfl⟩ := Zcw hv
      have := hlowb b (List.mem_of_getElem? hb)
      simp only at hlt; omega
     ·rw [List.mem_singleton] at hv; rw [hv]; simp only
      have := hq c' hc'
      omega
   ·intro v hv b hb
    rcases List.mem_append.1 hv with hv | hv
    ·exact h.wfree v hv b (by rw [hsp]; exact List.mem_append_right _ hb)
    ·rcases List.mem_append.1 hv with hv | hv
     ·obtain ⟨k,b',hb',rfl⟩ := Zcw hv
      have := hnF.2.2 b' (List.mem_of_getElem? hb') b hb
      simp only; omega
     ·have := h.flow b (by rw [hsp]; exact List.mem_append_right _ hb)
      rw [List.mem_singleton] at hv; rw [hv]; simp only; omega
   ·rw [List.map_append,List.nodup_append]
    refine ⟨h.wnodup,hxn,fun a ha b hb => ?_⟩
    obtain ⟨v,hv,rfl⟩ := List.mem_map.1 ha
    obtain ⟨u,hu,rfl⟩ := List.mem_map.1 hb
    rcases List.mem_append.1 hu with hu | hu
    ·obtain ⟨k,b',hb',rfl⟩ := Zcw hu
     exact h.wfree v hv b' (by rw [hsp]; exact List.mem_append_left _ (List.mem_of_getElem? hb'))
    ·rw [List.mem_singleton] at hu; rw [hu]; simp only
     by_cases hlt : v.1 < 1 + (n : Int)
     ·exact h.wpend v hv hlt c (List.mem_cons_self ..)
     ·omega
   ·rw [h.tab,Zup hc0 hc1]
   ·simp only [h.cnt,List.length_append,List.length_cons,List.length_nil,Zca,List.length_map,List.length_range,hbl]; omega
theorem Zn1 {nb : Nat} : ∀ (q : List Chg) (x : Tb × Nat × Bool),x.2.2 = true → (q.foldl (fun x c => Zgh x nb c) x).2.2 = true
 | [],_,h => h
 | c :: q,x,h => Zn1 q _ (by show (Zgh x nb c).2.2 = true; unfold Zgh; rw [if_pos h]; exact h)
theorem Inv.run {rd fs : List Int} {dat : List (List UInt8)} {n nb : Nat} (hlen : dat.length = 1 + n + nb) : ∀ {q : List Chg} {z : ApS} {x : Tb × Nat × Bool},Inv rd fs dat n nb q z x → (∀ c ∈ q,0 ≤ c.no ∧ c.no < n) → (q.map (·.no)).Nodup → (∀ c ∈ q,c.drop = false → c.nd.st.check = 0 ∧ c.nd.data.length ≤ 512) →
  (z.run n q = none ∧ (q.foldl (fun x c => Zgh x nb c) x).2.2 = true) ∨ ∃ z',z.run n q = some z' ∧ Inv rd fs dat n nb [] z' (q.foldl (fun x c => Zgh x nb c) x)
 | [],z,x,h,_,_,_ => .inr ⟨z,rfl,h⟩
 | c :: q,z,x,h,h1,h2,h3 => by
  have h2' : c.no ∉ q.map (·.no) ∧ (q.map (·.no)).Nodup := List.nodup_cons.1 h2
  have hc := h1 c (List.mem_cons_self ..)
  rcases h.step hlen hc.1 hc.2 (fun c' hc' e => h2'.1 (List.mem_map.2 ⟨c',hc',e⟩)) (h3 c (List.mem_cons_self ..)) with ⟨e1,e2⟩ | ⟨z',e1,h'⟩
  ·left
   refine ⟨by simp [ApS.run,e1],?_⟩
   rw [List.foldl_cons]; exact Zn1 q _ e2
  ·rcases h'.run hlen (fun c' hc' => h1 c' (List.mem_cons_of_mem _ hc')) h2'.2 (fun c' hc' => h3 c' (List.mem_cons_of_mem _ hc')) with ⟨g1,g2⟩ | ⟨z2,g1,g2⟩
   ·exact .inl ⟨by simp [ApS.run,e1,g1],g2⟩
   ·exact .inr ⟨z2,by simp [ApS.run,e1,g1],g2⟩
/-! ### all changes -/
theorem Zfz {k : Int} : ∀ (l : List Chg) (A : Ents),(Zas A).Nodup → getA k (Zd0 A l) = if k ∈ l.map (·.no) then none else getA k A
 | [],A,_ => by simp [Zd0]
 | c :: l,A,h => by
  have ih := Zfz (k := k) l (delA c.no A) (h.sublist Zh2)
  have e : Zd0 A (c :: l) = Zd0 (delA c.no A) l := rfl
  rw [e,ih,Zfc h]
  by_cases h1 : k = c.no
  ·simp [h1]
  ·simp [h1]
theorem Zls : ∀ (l : List Chg) (A : Ents),(Zd0 A l).Sublist A
 | [],_ => List.Sublist.refl _
 | c :: l,A => (Zls l (delA c.no A)).trans delA_sub
theorem Zo1 : ∀ (l : List Chg) (T : Tb),(∀ c ∈ l,0 ≤ c.no) → ∀ i,i < T.length → (Ziw T l)[i]? = if (i : Int) ∈ l.map (·.no) then some none else T[i]?
 | [],T,_,i,_ => by simp [Ziw]
 | c :: l,T,h,i,hi => by
  have e : Ziw T (c :: l) = Ziw (T.set c.no.toNat none) l := rfl
  have hc := h c (List.mem_cons_self ..)
  rw [e,Zo1 l _ (fun c' hc' => h c' (List.mem_cons_of_mem _ hc')) i (by simpa using hi),List.getElem?_set]
  have hmc : ((i : Int) ∈ (c :: l).map (·.no)) ↔ ((i : Int) = c.no ∨ (i : Int) ∈ l.map (·.no)) := by simp
  by_cases hm : (i : Int) ∈ l.map (·.no)
  ·rw [if_pos hm,if_pos (hmc.2 (.inr hm))]
  ·rw [if_neg hm]
   by_cases h1 : c.no.toNat = i
   ·have h2 : (i : Int) = c.no := by omega
    rw [if_pos h1,if_pos (by rw [h1]; exact hi),if_pos (hmc.2 (.inl h2))]
   ·rw [if_neg h1,if_neg (fun h => (hmc.1 h).elim (fun e => h1 (by omega)) hm)]
theorem Ziq : ∀ (l : List Chg) (T : Tb),(Ziw T l).length = T.length
 | [],_ => rfl
 | c :: l,T => by
  have e : Ziw T (c :: l) = Ziw (T.set c.no.toNat none) l := rfl
  rw [e,Ziq l]; simp
theorem Zyz {A : Ents} {n : Nat} {l : List Chg} (h : ∀ c ∈ l,0 ≤ c.no) (hn : (Zas A).Nodup) : Ziw (tabOf A n) l = tabOf (Zd0 A l) n := by
 apply List.ext_getElem?
 intro i
 by_cases hi : i < n
 ·rw [Zo1 l _ h i (by rw [Zbw]; exact hi),Ze5 _ hi,Ze5 _ hi,Zfz l A hn]
  split <;> rfl
 ·rw [List.getElem?_eq_none (by rw [Ziq,Zbw]; omega),List.getElem?_eq_none (by rw [Zbw]; omega)]
theorem Zqt : ∀ {l : List Chg},badC l = 0 → ∀ c ∈ l,c.drop = false → c.nd.st.check = 0 ∧ c.nd.data.length ≤ 512
 | c :: l,h,c',hc',hd => by
  unfold badC at h
  rcases List.mem_cons.1 hc' with rfl | hc'
  ·rw [if_neg (by simp [hd])] at h
   split at h
   ·rename_i h1; exact absurd h h1
   ·rename_i h1
    split at h
    ·cases h
    ·exact ⟨by simpa using h1,by omega⟩
  ·split at h
   ·exact Zqt h c' hc' hd
   ·split at h
    ·rename_i h1; exact absurd h h1
    ·split at h
     ·cases h
     ·exact Zqt h c' hc' hd
structure Right (l : List Chg) (n : Nat) : Prop where
 low : ∀ c ∈ l,0 ≤ c.no ∧ c.no < n
 nodup : (l.map (·.no)).Nodup
 ok : ∀ c ∈ l,c.drop = false → c.nd.st.check = 0 ∧ c.nd.data.length ≤ 512
theorem Zx2 {l : List Chg} {n : Nat} (h : Zek l n = 0) : Right l n := by
 unfold Zek at h
 split at h
 ·cases h
 ·rename_i h1
  split at h
  ·cases h
  ·rename_i h2
   refine ⟨fun c hc => ?_,Zny (by simpa using h2),Zqt h⟩
   have h3 : ¬ ((decide (c.no < 0) || decide ((n : Int) ≤ c.no)) = true) := fun e => h1 (List.any_eq_true.2 ⟨c,hc,e⟩)
   simp at h3
   omega
theorem Zt4 {A : Ents} {nb : Nat} (h : ∀ x ∈ A,x.2.ok nb) : ∀ b ∈ Zau A,0 ≤ b ∧ b < nb := fun b hb => by
 obtain ⟨x,hx,hbx⟩ := List.mem_flatMap.1 hb
 exact (h x hx).low b hbx
theorem Zt3 {A B : Ents} (h : A.Sublist B) : (Zau A).Sublist (Zau B) := by
 induction h with
 | slnil => exact List.Sublist.refl _
 | cons a _ ih => exact ih.trans (List.sublist_append_right _ _)
 | cons_cons a _ ih => exact ih.append_left _
theorem Inv.start {rd fs : List Int} {dat : List (List UInt8)} {n nb : Nat} {A : Ents} {l : List Chg} (hE : Enc rd fs dat n nb A) (hl : Right l n) : Inv rd fs dat n nb l (ApS.start A nb l) (Ziw (tabOf A n) l,0,false) := by
 have hsub := Zls l A
 have hok : ∀ s ∈ Zd0 A l,s.2.ok nb := fun s hs => hE.ok s (hsub.mem hs)
 have hbn : (Zau (Zd0 A l)).Nodup := hE.apart.sublist (Zt3 hsub)
 refine ⟨fun k hk => hE.keys k ((hsub.map _).mem hk),hE.nodup.sublist (hsub.map _),fun c hc hm => ?_,hok,fun b hb => (freeL_mem.1 hb).1,?_,Zyv hbn (Zt4 hok),hE.front,?_,?_,(fun v hv => by cases hv),(fun v hv => by cases hv),(fun v hv => by cases hv),(fun v hv => by cases hv),List.nodup_nil,Zyz (fun c hc => (hl.low c hc).1) hE.nodup,rfl,rfl⟩
 ·have := Zfz (k := c.no) l A hE.nodup
  rw [if_pos (List.mem_map.2 ⟨c,hc,rfl⟩)] at this
  exact getA_none.1 this hm
 ·rw [List.nodup_append]
  exact ⟨hbn,Zql _ _,fun a ha b hb e => (freeL_mem.1 hb).2 (e ▸ ha)⟩
 ·intro i hi hil
  have := hE.node i hi
  show dat.getD (1 + i) [] = match getA (i : Nat) (Zd0 A l) with | some s => stoB s | none => zero64
  rw [Zfz l A hE.nodup,if_neg hil]
  exact this
 ·intro s hs k b hb
  exact hE.at_ s (hsub.mem hs) k b hb
theorem Zwm {rd fs : List Int} {dat : List (List UInt8)} {n nb : Nat} {A : Ents} {l : List Chg} (hE : Enc rd fs dat n nb A) (hl : Right l n) :
  ((ApS.start A nb l).run n l = none ∧ (runT (tabOf A n) nb l).2.2 = true) ∨
  ∃ z,(ApS.start A nb l).run n l = some z ∧ (runT (tabOf A n) nb l) = (tabOf z.A n,z.w.length,false) ∧ Enc rd fs (Zby dat z.w) n nb z.A ∧ Zb3 z.w = 0 ∧ hasM ((1 + n + nb : Nat) : Int) z.w = true := by
 rcases (Inv.start hE hl).run hE.len hl.low hl.nodup hl.ok with ⟨h1,h2⟩ | ⟨z,h1,h⟩
 ·exact .inl ⟨h1,h2⟩
 ·refine .inr ⟨z,h1,?_,⟨by rw [Zat]; exact hE.len,h.front,h.keys,h.nodup,fun i hi => h.node i hi (by simp),h.ok,h.at_,(List.nodup_append.1 h.all).1⟩,?_,?_⟩
  ·have e1 := h.tab
   have e2 := h.cnt
   have e3 := h.fine
   have e : runT (tabOf A n) nb l = l.foldl (fun x c => Zgh x nb c) (Ziw (tabOf A n) l,0,false) := rfl
   rw [e]
   generalize l.foldl (fun x c => Zgh x nb c) (Ziw (tabOf A n) l,0,false) = x at e1 e2 e3 ⊢
   obtain ⟨x1,x2,x3⟩ := x
   simp only at e1 e2 e3
   rw [e1,e2,e3]
  ·unfold Zb3
   rw [if_neg ?_,if_neg (by rw [Znx h.wnodup]; simp)]
   intro hb
   obtain ⟨v,hv,hb⟩ := List.any_eq_true.1 hb
   have h1 := h.wlen v hv
   have h2 := h.wlow v hv
   unfold badW at hb
   simp [h1] at hb
   omega
  ·unfold hasM
   rw [List.all_eq_true]
   intro v hv
   have h2 := h.wlow v hv
   simp; omega
end Cr
namespace Cr
open Go Go.Proofs
set_option maxRecDepth 10000
theorem Zvc {n : Nat} (h : n ≤ 512) : nblk n ≤ 8 := by unfold nblk; omega
end Cr
namespace Cr
open Go Go.Proofs
set_option maxRecDepth 100000
set_option maxHeartbeats 8000000
attribute [local irreducible] Calls

structure QlogOk (D : DiskM) (j m : Nat) (done : Int) (dat : List (List UInt8)) : Prop where
 q : Quiet D (1 + j + dat.length)
 line : D.line = []
 d0 : 0 ≤ done
 dm : done ≤ (m : Nat)
 jl : j ≤ 1024
 at_ : ∀ k,k < dat.length → D.laid.getD (1 + j + k) [] = dat.getD k []
def qlog (lp p j m : Nat) (dat : List (List UInt8)) : Res := fun h => ∃ D done,QlogOk D j m done dat ∧ Sep [Zb9 lp p 1 0 0 j done false,disk p D] h
theorem Rd.qlog {w : World} {lp p j m : Nat} {dat : List (List UInt8)} (h : Rd w (Cr.qlog lp p j m dat)) : ∃ D done,QlogOk D j m done dat ∧ Rd w (Zb9 lp p 1 0 0 j done false) ∧ Rd w (Cr.disk p D) := by
 obtain ⟨f,⟨D,done,hq,hs⟩,ha⟩ := h
 have hr := Rd.sep ⟨f,hs,ha⟩
 exact ⟨D,done,hq,hr _ (List.mem_cons_self ..),hr _ (List.mem_cons_of_mem _ (List.mem_cons_self ..))⟩
theorem St.openQlog {W : World} {F : Nat → Prop} {lp p j m : Nat} {dat : List (List UInt8)} {rs : List Res} {w : World} (hS : St W F (qlog lp p j m dat :: rs) w) : ∃ D done,QlogOk D j m done dat ∧ St W F (Zb9 lp p 1 0 0 j done false :: disk p D :: rs) w := by
 obtain ⟨h,⟨h1,h2,⟨D,done,hq,hs⟩,hr,hd,hu⟩,s⟩ := hS
 exact ⟨D,done,hq,h,Sep.append_mk hs hr hd hu,s⟩
theorem St.shutQlog {W : World} {F : Nat → Prop} {lp p j m : Nat} {dat : List (List UInt8)} {rs : List Res} {w : World} {D : DiskM} {done : Int} (hq : QlogOk D j m done dat) (hS : St W F (Zb9 lp p 1 0 0 j done false :: disk p D :: rs) w) : St W F (qlog lp p j m dat :: rs) w :=
 St.shutR (rs' := [Zb9 lp p 1 0 0 j done false,disk p D]) hS fun _ hh => ⟨D,done,hq,hh⟩
theorem qlen {w : World} {lp p j m : Nat} {dat : List (List UInt8)} (h : Rd w (Cr.qlog lp p j m dat)) : 1 + j + dat.length ≤ 4096 ∧ ∀ s ∈ dat,s.length = 64 := by
 obtain ⟨D,done,hq,_,hD⟩ := h.qlog
 have hok := hD.disk.1
 have h1 := hok.most
 rw [hq.q.len] at h1
 refine ⟨h1,fun s hs => ?_⟩
 obtain ⟨k,hk,rfl⟩ := List.mem_iff_getElem.1 hs
 have h2 := hq.at_ k hk
 rw [List.getD_eq_getElem?_getD,List.getD_eq_getElem?_getD,List.getElem?_eq_getElem hk,List.getElem?_eq_getElem (show 1 + j + k < D.laid.length by rw [hq.q.len]; omega)] at h2
 simp only [Option.getD_some] at h2
 rw [← h2]
 exact hok.laid64 _ (List.getElem_mem _)
theorem Zn8 (lp p j m : Nat) (dat : List (List UInt8)) (W : World) (h : Rd W (qlog lp p j m dat)) :
  Calls Tryz.prog 135 #[.pointer (some ⟨lp,0,none⟩)] W (Ret fun v w => v = .int .i64 (dat.length : Nat) ∧ St W noF [] w) := by
 obtain ⟨D,done,hq,hL,hD⟩ := h.qlog
 have hj := hq.jl
 have := Zec lp p 1 0 0 j done false D W hL hD (by omega)
 rwa [show (D.laid.length : Int) - 1 - j = (dat.length : Nat) by rw [hq.q.len]; omega] at this
theorem Z21 (lp p j m : Nat) (dat : List (List UInt8)) (no : Nat) (W : World) (h : Rd W (qlog lp p j m dat)) (hno : no < dat.length) :
  Calls Tryz.prog 82 #[.pointer (some ⟨lp,0,none⟩),.int .i64 (no : Nat)] W (Ret fun v w => ∃ a c,v = .tuple #[.slice a 64 c,.int .i64 0] ∧ 64 ≤ c ∧ St W noF [bytes a (dat.getD no [])] w) := by
 have h64 := (qlen h).2
 obtain ⟨D,done,hq,hL,hD⟩ := h.qlog
 have hj := hq.jl
 have := Z2i lp p 1 0 0 j done false D (no : Nat) W hL hD (by omega) (by rw [hq.line]; simp)
 have hl := hq.q.len
 have e : Zf5 D j (no : Nat) = (0,dat.getD no []) := by
  unfold Zf5 DiskM.read
  rw [if_neg (by simp [hq.q.off]),if_neg (by omega),if_neg (by simp [hq.q.off]),if_neg (by simp [Zc2]; omega),Ztt hq.line,show ((1 : Int) + j + (no : Nat)).toNat = 1 + j + no by omega,hq.at_ no hno]
 have e2 : (dat.getD no []).length = 64 := by
  rw [List.getD_eq_getElem?_getD,List.getElem?_eq_getElem hno]
  exact h64 _ (List.getElem_mem _)
 rw [e] at this
 simp only [e2] at this
 exact this
theorem Zrm (lp p j m : Nat) (dat : List (List UInt8)) (a : Option Addr) (c : Nat) (l : List Wr) (rd fs : List Int) (W : World) (F : Nat → Prop) (hG : Gl W F rd fs) (hW : Wrs W F a l) (hl : l.length ≤ 1048576) (hm : (m : Int) < last)
  (hc : Zb3 (l.map Wr.data) = 0) (hh : hasM (dat.length : Nat) (l.map Wr.data) = true) (hS : St W F [qlog lp p j m dat] W) :
  Calls Tryz.prog 84 #[.pointer (some ⟨lp,0,none⟩),.slice a l.length c] W (Ret fun v w =>
   (j / 2 < l.length ∧ v = .int .i64 6 ∧ St W F [qlog lp p j m dat] w) ∨ (l.length ≤ j / 2 ∧ v = .int .i64 0 ∧ St W F [qlog lp p j (m + 1) (Zby dat (l.map Wr.data))] w)) := by
 obtain ⟨D,done,hq,hS⟩ := hS.openQlog
 have hj := hq.jl
 have h0 := hq.d0
 have hdm := hq.dm
 have hlen := hq.q.len
 have hgood := Zej hc
 have hx64 : ∀ v ∈ l,v.x.s.length ≤ 140737488355328 := fun v hv => by
  have := (hgood v.data (List.mem_map.2 ⟨v,hv,rfl⟩)).2
  simp only [Wr.data] at this
  omega
 have := Z1y lp p 1 0 0 j done false D a c l rd fs W F hG hW (by omega) h0 hl hx64 (by rw [hq.line]; simp) hS
 refine Calls.mono this fun e w ⟨v,he,hv,hS⟩ => ⟨v,he,?_⟩
 have hn : ((1 + j + dat.length : Nat) : Int) - 1 - j = (dat.length : Nat) := by omega
 have hnl : (l.map Wr.data).length = l.length := by simp
 by_cases hfull : j / 2 < l.length
 ·left
  have e : Zbf rd fs D j done (l.map Wr.data) = (6,D,done) := by
   unfold Zbf
   rw [if_neg (by simp [hq.q.off]),if_neg (by simpa using hc),hlen,hn,if_neg (by simp [hh]),if_pos (.inl (by rw [hnl]; omega))]
  rw [e] at hv hS
  exact ⟨hfull,hv,hS.shutQlog hq⟩
 ·right
  have hD := Zqp rd fs (j := j) (done := done) hq.q hq.line hc (by rw [hn]; exact hh) (by rw [hnl]; omega) (by omega)
  have hq2 : QlogOk (Zbf rd fs D j done (l.map Wr.data)).2.1 j (m + 1) (Zbf rd fs D j done (l.map Wr.data)).2.2 (Zby dat (l.map Wr.data)) := by
   refine ⟨by rw [Zat]; exact hD.q,hD.line,by have := hD.lo; omega,by have := hD.hi; omega,hj,fun k hk => ?_⟩
   rw [Zat] at hk
   rw [hD.at_ k (by omega),hq.at_ k hk,Zc1 _ _ _ hk (fun v hv => (hgood v hv).1)]
  rw [hD.e] at hv
  exact ⟨by omega,hv,hS.shutQlog hq2⟩
end Cr
namespace Cr
open Go Go.Proofs
set_option maxRecDepth 100000
set_option maxHeartbeats 8000000
attribute [local irreducible] Calls

instance seg_z (l : List Value) : Seg l 0 0 [] := ⟨by simp⟩
instance seg_pre (v : Value) (l cs : List Value) (n : Nat) [h : Seg l 0 n cs] : Seg (v :: l) 0 (n + 1) (v :: cs) := ⟨by have := h.seg; simp only [List.drop_zero] at this ⊢; rw [List.take_succ_cons,this.1]; exact ⟨rfl,by simp [this.2]⟩⟩
abbrev stoV (s : Sto) (da : Option Addr) (dc : Nat) (ba : Option Addr) (bc : Nat) : List Value := [.int .i64 s.nd.st.kind,.int .i64 s.nd.st.mode,.int .i64 s.nd.st.owner,.int .i64 s.nd.st.group,.slice da s.nd.data.length dc,.slice ba s.blocks.length bc]
def Zym (s : Sto) : List UInt8 := [1] ++ bigB s.nd.st.num 8 ++ bigB (s.nd.data.length : Nat) 4
def Zdb (s : Sto) (i : Nat) : List UInt8 := Zym s ++ (s.blocks.take i).flatMap fun b => bigB b 4
theorem Zqr {s : Sto} {i : Nat} {b : Int} (h : s.blocks[i]? = some b) : Zdb s (i + 1) = Zdb s i ++ bigB b 4 := by
 unfold Zdb
 rw [List.take_add_one,h]
 simp
theorem Zm6 (s : Sto) (i : Nat) : (Zdb s i).length ≤ 13 + 4 * i := by
 have : ((s.blocks.take i).flatMap fun b => bigB b 4).length = (s.blocks.take i).length * 4 := Zet fun b _ => Zag b 4
 unfold Zdb Zym
 simp only [List.length_append,this,Zag,List.length_take,List.length_cons,List.length_nil]
 omega
theorem Zt2 (s : Sto) : Zdb s s.blocks.length = Zpz s := by
 unfold Zdb Zym Zpz
 rw [List.take_length]
theorem Z0u (s : Sto) (da : Option Addr) (dc : Nat) (ba : Option Addr) (bc : Nat) (W : World) (hba : Rd W (row ba (ints .i64 s.blocks))) (hl : s.blocks.length ≤ 1048576) (_ : s.nd.data.length ≤ 1048576) :
  Calls Tryz.prog 152 #[.agg (stoV s da dc ba bc).toArray] W (Ret fun v w => ∃ p,v = .slice (some ⟨p,0,none⟩) 64 64 ∧ St W noF [bytes (some ⟨p,0,none⟩) (stoB s)] w) := by
 have hS := St.start W
 have hbr := hba.ro
 refine Zab Tryz.func152 rfl Tryz.ntmps152 rfl ?_
 repeat (first|refine Yd0 ?_|refine Yag ?_|refine Ya6 (fun _ _ hS _ => ?_)|refine Yd1 ?_|refine Yab ?_)
 rename_i t1 _ _
 refine Zps (α := Option Addr × Nat) (fun z => [(1,.pointer (some ⟨t1,0,none⟩)),(3,.slice z.1 (Zdb s 0).length z.2)]) (fun z w => (Zdb s 0).length ≤ z.2 ∧ St W noF [own 5 1 z.1 z.2 (bv (Zdb s 0)),pts t1 (.cells (stoV s da dc ba bc).toArray 281)] w) ?_ ?_
 ·have hjl : Zdb s 0 = [1] ++ bigB s.nd.st.num 8 ++ bigB (s.nd.data.length : Nat) 4 := by simp [Zdb,Zym]
  refine Zao (.s 1 (.s 2 (.s 3 (.s 6 (.s 7 (.s 8 (.s 9 (.h 0 (.h 4 (.h 5 (.h 10 (.h 11 (.h 12 (.s 13 .nil) .no) .no) .no) .no) .no) (.h 4 (.h 0 (.h 5 (.h 10 (.h 11 (.h 12 (.s 13 .nil) .no) .no) .no) .no) (.h 5 (.h 0 (.h 10 (.h 11 (.h 12 (.s 13 .nil) .no) .no) .no) (.h 10 (.h 0 (.h 11 (.h 12 (.s 13 .nil) .no) .no) .no) .no)) .no)) .no))))))))) mixed (by kernel_rfl) rfl ?_
  have hS := hS.drew
  repeat (first|(refine Zad ?_;first|refine Ybj ?_|refine Yct ?_|refine Ybm ?_|refine Yb1 ?_))
  refine Ze1 ?_ ?_
  ·skip
   repeat (first|refine Ybf (fun _ _ hS _ => ?_)|(refine Zad ?_;first|refine Yas ?_)|(refine Zac ?_;first|refine Yaz ?_))
   rename_i b0 _ _
   repeat (first|fail)
   refine Zae _ rfl rfl rfl rfl rfl hS (Zrr s.nd.st _) ?_
   rintro _ w rfl hS
   repeat (first|(refine Zad ?_;first|refine Yas ?_)|(refine Zac ?_;first|refine Yaz ?_))
   repeat (first|fail)
   refine Zaa _ rfl rfl rfl rfl rfl (Zms s.nd.st.num 8 (by omega) _) ?_
   rintro _ w ⟨a1,k1,rfl,hk1,hS'⟩
   replace hS := hS.plus hS'
   clear hS'
   repeat (first|(refine Zad ?_;first|refine Yas ?_)|(refine Zac ?_;first|refine Yaz ?_))
   repeat (first|fail)
   refine Zaa _ rfl rfl rfl rfl rfl (Zms (s.nd.data.length : Nat) 4 (by omega) _) ?_
   rintro _ w ⟨a2,k2,rfl,hk2,hS'⟩
   replace hS := hS.plus hS'
   clear hS'
   repeat (first|refine Ybf (fun _ _ hS _ => ?_)|(refine Zad ?_;first|refine Yas ?_)|(refine Zac ?_;first|refine Yaz ?_))
   rename_i b3 w3 _
   have hB := Bss.ofRd (w := w3) (a := some ⟨b3,0,none⟩) (l := [⟨some ⟨b0,0,none⟩,1,[1]⟩,⟨a1,k1,bigB s.nd.st.num 8⟩,⟨a2,k2,bigB (s.nd.data.length : Nat) 4⟩])
    (by simpa [Bs.val,Zag] using hS.ownRd (a := some ⟨b3,0,none⟩)) (fun x hx => by
     simp only [List.mem_cons,List.not_mem_nil,or_false] at hx
     rcases hx with rfl | rfl | rfl
     ·exact hS.ownRd
     ·exact hS.ownRd
     ·exact hS.ownRd)
   refine Zaa _ rfl rfl rfl rfl rfl (Zkc _ 3 _ _ hB (by simp) (by simp [Zai,Zag])) ?_
   rintro _ w ⟨a',c',rfl,hc',hS'⟩
   replace hS := (hS.plus hS')
   repeat (first|(refine Zad ?_;first|refine Yay ?_|refine Ybn ?_)|(refine Zac ?_;first|refine Yaz ?_))
   refine Zbi (a',c') ⟨rfl,by simp only; rw [hjl]; simp [Zai,Zag,look],trivial⟩ ⟨by simp only; rw [hjl]; simpa [Zai,Zag] using hc',?_⟩
   have hj : Zai [⟨some ⟨b0,0,none⟩,1,[1]⟩,⟨a1,k1,bigB s.nd.st.num 8⟩,⟨a2,k2,bigB (s.nd.data.length : Nat) 4⟩] = [1] ++ bigB s.nd.st.num 8 ++ bigB (s.nd.data.length : Nat) 4 := by simp [Zai]
   simp only; rw [hjl,← hj]
   exact hS.took
  repeat (first|(refine Zad ?_;first|refine Yas ?_))
  refine Zae _ rfl rfl rfl rfl rfl hS (Zrr s.nd.st _) ?_
  rintro _ w rfl hS
  repeat (first|(refine Zac ?_;first|refine Yaz ?_))
  refine Ze1 ?_ ?_
  ·skip
   repeat (first|refine Ybf (fun _ _ hS _ => ?_)|(refine Zad ?_;first|refine Yas ?_)|(refine Zac ?_;first|refine Yaz ?_))
   rename_i b0 _ _
   repeat (first|fail)
   refine Zaa _ rfl rfl rfl rfl rfl (Zms s.nd.st.num 8 (by omega) _) ?_
   rintro _ w ⟨a1,k1,rfl,hk1,hS'⟩
   replace hS := hS.plus hS'
   clear hS'
   repeat (first|(refine Zad ?_;first|refine Yas ?_)|(refine Zac ?_;first|refine Yaz ?_))
   repeat (first|fail)
   refine Zaa _ rfl rfl rfl rfl rfl (Zms (s.nd.data.length : Nat) 4 (by omega) _) ?_
   rintro _ w ⟨a2,k2,rfl,hk2,hS'⟩
   replace hS := hS.plus hS'
   clear hS'
   repeat (first|refine Ybf (fun _ _ hS _ => ?_)|(refine Zad ?_;first|refine Yas ?_)|(refine Zac ?_;first|refine Yaz ?_))
   rename_i b3 w3 _
   have hB := Bss.ofRd (w := w3) (a := some ⟨b3,0,none⟩) (l := [⟨some ⟨b0,0,none⟩,1,[1]⟩,⟨a1,k1,bigB s.nd.st.num 8⟩,⟨a2,k2,bigB (s.nd.data.length : Nat) 4⟩])
    (by simpa [Bs.val,Zag] using hS.ownRd (a := some ⟨b3,0,none⟩)) (fun x hx => by
     simp only [List.mem_cons,List.not_mem_nil,or_false] at hx
     rcases hx with rfl | rfl | rfl
     ·exact hS.ownRd
     ·exact hS.ownRd
     ·exact hS.ownRd)
   refine Zaa _ rfl rfl rfl rfl rfl (Zkc _ 3 _ _ hB (by simp) (by simp [Zai,Zag])) ?_
   rintro _ w ⟨a',c',rfl,hc',hS'⟩
   replace hS := (hS.plus hS')
   repeat (first|(refine Zad ?_;first|refine Yay ?_|refine Ybn ?_)|(refine Zac ?_;first|refine Yaz ?_))
   refine Zbi (a',c') ⟨rfl,by simp only; rw [hjl]; simp [Zai,Zag,look],trivial⟩ ⟨by simp only; rw [hjl]; simpa [Zai,Zag] using hc',?_⟩
   have hj : Zai [⟨some ⟨b0,0,none⟩,1,[1]⟩,⟨a1,k1,bigB s.nd.st.num 8⟩,⟨a2,k2,bigB (s.nd.data.length : Nat) 4⟩] = [1] ++ bigB s.nd.st.num 8 ++ bigB (s.nd.data.length : Nat) 4 := by simp [Zai]
   simp only; rw [hjl,← hj]
   exact hS.took
  repeat (first|(refine Zad ?_;first|refine Yas ?_))
  refine Zaa _ rfl rfl rfl rfl rfl (Zms s.nd.st.num 8 (by omega) _) ?_
  rintro _ w ⟨a1,k1,rfl,hk1,hS'⟩
  replace hS := hS.plus hS'
  clear hS'
  repeat (first|(refine Zac ?_;first|refine Yaz ?_))
  refine Ze1 ?_ ?_
  ·skip
   repeat (first|refine Ybf (fun _ _ hS _ => ?_)|(refine Zad ?_;first|refine Yas ?_)|(refine Zac ?_;first|refine Yaz ?_))
   rename_i b0 _ _
   repeat (first|fail)
   refine Zaa _ rfl rfl rfl rfl rfl (Zms (s.nd.data.length : Nat) 4 (by omega) _) ?_
   rintro _ w ⟨a2,k2,rfl,hk2,hS'⟩
   replace hS := hS.plus hS'
   clear hS'
   repeat (first|refine Ybf (fun _ _ hS _ => ?_)|(refine Zad ?_;first|refine Yas ?_)|(refine Zac ?_;first|refine Yaz ?_))
   rename_i b3 w3 _
   have hB := Bss.ofRd (w := w3) (a := some ⟨b3,0,none⟩) (l := [⟨some ⟨b0,0,none⟩,1,[1]⟩,⟨a1,k1,bigB s.nd.st.num 8⟩,⟨a2,k2,bigB (s.nd.data.length : Nat) 4⟩])
    (by simpa [Bs.val,Zag] using hS.ownRd (a := some ⟨b3,0,none⟩)) (fun x hx => by
     simp only [List.mem_cons,List.not_mem_nil,or_false] at hx
     rcases hx with rfl | rfl | rfl
     ·exact hS.ownRd
     ·exact hS.ownRd
     ·exact hS.ownRd)
   refine Zaa _ rfl rfl rfl rfl rfl (Zkc _ 3 _ _ hB (by simp) (by simp [Zai,Zag])) ?_
   rintro _ w ⟨a',c',rfl,hc',hS'⟩
   replace hS := (hS.plus hS')
   repeat (first|(refine Zad ?_;first|refine Yay ?_|refine Ybn ?_)|(refine Zac ?_;first|refine Yaz ?_))
   refine Zbi (a',c') ⟨rfl,by simp only; rw [hjl]; simp [Zai,Zag,look],trivial⟩ ⟨by simp only; rw [hjl]; simpa [Zai,Zag] using hc',?_⟩
   have hj : Zai [⟨some ⟨b0,0,none⟩,1,[1]⟩,⟨a1,k1,bigB s.nd.st.num 8⟩,⟨a2,k2,bigB (s.nd.data.length : Nat) 4⟩] = [1] ++ bigB s.nd.st.num 8 ++ bigB (s.nd.data.length : Nat) 4 := by simp [Zai]
   simp only; rw [hjl,← hj]
   exact hS.took
  repeat (first|(refine Zad ?_;first|refine Yas ?_))
  refine Zaa _ rfl rfl rfl rfl rfl (Zms (s.nd.data.length : Nat) 4 (by omega) _) ?_
  rintro _ w ⟨a2,k2,rfl,hk2,hS'⟩
  replace hS := hS.plus hS'
  clear hS'
  repeat (first|refine Ybf (fun _ _ hS _ => ?_)|(refine Zad ?_;first|refine Yas ?_)|(refine Zac ?_;first|refine Yaz ?_))
  rename_i b0 _ _ _ b3 w3 _
  have hB := Bss.ofRd (w := w3) (a := some ⟨b3,0,none⟩) (l := [⟨some ⟨b0,0,none⟩,1,[1]⟩,⟨a1,k1,bigB s.nd.st.num 8⟩,⟨a2,k2,bigB (s.nd.data.length : Nat) 4⟩])
   (by simpa [Bs.val,Zag] using hS.ownRd (a := some ⟨b3,0,none⟩)) (fun x hx => by
    simp only [List.mem_cons,List.not_mem_nil,or_false] at hx
    rcases hx with rfl | rfl | rfl
    ·exact hS.ownRd
    ·exact hS.ownRd
    ·exact hS.ownRd)
  refine Zaa _ rfl rfl rfl rfl rfl (Zkc _ 3 _ _ hB (by simp) (by simp [Zai,Zag])) ?_
  rintro _ w ⟨a',c',rfl,hc',hS'⟩
  replace hS := (hS.plus hS')
  repeat (first|(refine Zad ?_;first|refine Yay ?_|refine Ybn ?_)|(refine Zac ?_;first|refine Yaz ?_))
  refine Zbi (a',c') ⟨rfl,by simp only; rw [hjl]; simp [Zai,Zag,look],trivial⟩ ⟨by simp only; rw [hjl]; simpa [Zai,Zag] using hc',?_⟩
  have hj : Zai [⟨some ⟨b0,0,none⟩,1,[1]⟩,⟨a1,k1,bigB s.nd.st.num 8⟩,⟨a2,k2,bigB (s.nd.data.length : Nat) 4⟩] = [1] ++ bigB s.nd.st.num 8 ++ bigB (s.nd.data.length : Nat) 4 := by simp [Zai]
  simp only; rw [hjl,← hj]
  exact hS.took
 ·clear hS
  rintro ⟨a1,c1⟩ w ⟨hc1,hS⟩
  simp only at hc1 hS ⊢
  repeat (first|refine Yd0 ?_|refine Yaf ?_|refine Yan ?_|refine Yav ?_|refine Yap ?_|refine Yd3 ?_|refine Yab ?_)
  refine Zak (α := Nat × Option Addr × Nat) (fun z => [(3,.slice z.2.1 (Zdb s z.1).length z.2.2),(20,.slice ba s.blocks.length bc),(21,.int .i64 (s.blocks.length : Nat)),(22,.int .i64 (z.1 : Nat))])
   (fun z w => z.1 ≤ s.blocks.length ∧ (Zdb s z.1).length ≤ z.2.2 ∧ St W noF [own 5 1 z.2.1 z.2.2 (bv (Zdb s z.1))] w) (fun z => s.blocks.length - z.1) (0,a1,c1) ⟨rfl,rfl,rfl,rfl,trivial⟩ ⟨Nat.zero_le _,hc1,hS.pick [0]⟩ ?_
  clear hS
  rintro ⟨i,a2,c2⟩ w ⟨hi,hc,hS⟩
  simp only at hi hc hS ⊢
  have hbl := Zm6 s i
  by_cases hlt : i < s.blocks.length
  ·have hx0 : s.blocks[i]? = some s.blocks[i] := List.getElem?_eq_getElem hlt
   generalize s.blocks[i] = b at hx0
   have hsu := Zqr hx0
   have hr := hbr
   have hx : (ints .i64 s.blocks)[i]? = some (.int .i64 b) := by simp [ints,hx0]
   obtain ⟨xb,xo,rfl⟩ := (hr.rd hS).base (by intro e; rw [e] at hx; simp at hx)
   repeat (first|refine Yd0 ?_|refine Ye0 ?_|refine Yd4 ?_|refine Yab ?_)
   refine Zaa _ rfl rfl rfl rfl rfl (Zms b 4 (by omega) _) ?_
   rintro _ w ⟨a3,k3,rfl,hk3,hS'⟩
   replace hS := hS.plus hS'
   clear hS'
   repeat (first|refine Yaa ?_)
   refine Zap rfl rfl rfl rfl rfl hS (by simp) hc (hS.ownRd (a := a3)) (by simp [Zag]) Zel (by omega) (by simp only [maxLen]; omega) (fun a' c' w hS hc' _ => ?_)
   repeat (first|refine Yd0 ?_|refine Yef ?_|refine Yad ?_|refine Yd8 ?_)
   refine Zaf (z := (i,a2,c2)) (i + 1,a',c') ⟨?_,rfl,rfl,rfl,trivial⟩ ⟨by simp only; omega,by simp only; rw [hsu]; simp [Zag]; omega,?_⟩ (by simp only; omega)
   ·simp only
    rw [hsu]; simp only [List.length_append,Zag]; rfl
   ·simp only
    rw [hsu,Zdt]
    exact hS.took
  ·obtain rfl : i = s.blocks.length := by omega
   repeat (first|refine Yd0 ?_|refine Yaf ?_|refine Ya3 ?_|refine Yec ?_|refine Yd6 ?_)
   refine Zaa _ rfl rfl rfl rfl rfl (Zmx a2 c2 (Zdb s s.blocks.length) _ hS.ownRd) ?_
   rintro _ w ⟨p,rfl,hS'⟩
   replace hS := hS.plus hS'
   clear hS'
   repeat (first|refine Yd0 ?_|refine Yag ?_|refine Yah ?_|refine Yd2 ?_)
   refine ⟨p,rfl,?_⟩
   have h := hS.pick [0]
   rw [Zt2] at h
   exact h
abbrev Zxr (lp n r : Nat) : List Value := [.pointer (some ⟨lp,0,none⟩),.int .i64 (n : Nat),.map (some r)]
abbrev Zhw (tp lp n r : Nat) : Res := pts tp (.cells (Zxr lp n r).toArray 188)
theorem Z0n (tp lp n r : Nat) (b : Int) (W : World) (hT : Rd W (Zhw tp lp n r)) (hn : n ≤ 1048576) (hb : 0 ≤ b) (hb1 : b ≤ 1048576) :
  Calls Tryz.prog 151 #[.pointer (some ⟨tp,0,none⟩),.int .i64 b] W (Ret fun v w => v = .int .i64 (1 + (n : Int) + b) ∧ W = w) := by
 have hc := hT.pts
 have hS := St.start W
 refine Zab Tryz.func151 rfl Tryz.ntmps151 rfl ?_
 repeat (first|refine Yd0 ?_|(refine X_id ?_;first|refine Yaf ?_|refine Yag ?_|refine Yau ?_|refine Yan ?_|refine Yax ?_|refine Yb4 ?_)|refine Yed ?_|refine Yd2 ?_)
 exact ⟨rfl,rfl⟩
theorem Zxo (tp lp n r p j m nb : Nat) (dat : List (List UInt8)) (W : World) (hT : Rd W (Zhw tp lp n r)) (hq : Rd W (qlog lp p j m dat)) (hd : dat.length = 1 + n + nb) :
  Calls Tryz.prog 213 #[.pointer (some ⟨tp,0,none⟩)] W (Ret fun v w => v = .int .i64 (nb : Nat) ∧ St W noF [] w) := by
 have hTo := hT.ro
 have hqo := hq.ro
 have hql := (qlen hq).1
 have hS := St.start W
 have e : (dat.length : Int) - 1 - (n : Nat) = (nb : Nat) := by omega
 rw [← e]
 refine Zab Tryz.func213 rfl Tryz.ntmps213 rfl ?_
 repeat (first|refine Yd0 ?_|refine Yag ?_|refine Yd1 ?_|refine Yab ?_)
 refine Zao (.s 0 (.s 1 (.s 2 (.s 3 (.s 6 (.s 7 (.s 8 (.s 9 (.h 4 (.s 5 (.s 10 (.s 11 .nil))) .no))))))))) mixed (by kernel_rfl) rfl ?_
 have hS := hS.drew
 have hc := hTo
 repeat (first|(refine X_id ?_;first|(refine Zae 135 rfl rfl rfl rfl rfl hS (Zn8 lp p j m dat _ (hqo.rd hS)) ?_;rintro _ _ rfl hS))|refine Yah ?_|refine Yd2 ?_|(refine Zad ?_;first|refine Yay ?_|refine Ya0 ?_|refine Ybn ?_|refine Ybq ?_|refine Ybj ?_|refine Ycg ?_|refine Yas ?_|refine Yc2 ?_)|(refine Zac ?_;first|refine Yaz ?_))
 exact ⟨rfl,hS⟩
theorem may_ (lp p j m n : Nat) (dat : List (List UInt8)) (W : World) (hq : Rd W (qlog lp p j m dat)) (h1 : 1 ≤ n) (h2 : n ≤ 400) (h3 : n + 2 ≤ dat.length) :
  Calls Tryz.prog 81 #[.pointer (some ⟨lp,0,none⟩),.int .i64 (n : Nat)] W (Ret fun v w => v = .bool true ∧ St W noF [] w) := by
 have hqo := hq.ro
 have hql := (qlen hq).1
 have hS := St.start W
 refine Zab Tryz.func81 rfl Tryz.ntmps81 rfl ?_
 repeat (first|refine Yeg ?_|(refine X_id ?_;first|(refine Zae 135 rfl rfl rfl rfl rfl hS (Zn8 lp p j m dat _ (hqo.rd hS)) ?_;rintro _ _ rfl hS)|refine Yaf ?_|refine Yag ?_|refine Ya5 ?_|refine Ydu ?_|refine Yb7 ?_|refine Yax ?_)|refine Yed ?_|refine Yd2 ?_)
 exact ⟨rfl,hS⟩
end Cr
namespace Cr
open Go Go.Proofs
set_option maxRecDepth 100000
set_option maxHeartbeats 8000000
attribute [local irreducible] Calls

theorem Z0m (n : Nat) (rd fs : List Int) (W : World) (hG : Gl W noF rd fs) :
  Calls Tryz.prog 85 #[.int .i64 (n : Nat)] W (Ret fun v w => ∃ p,v = .slice (some ⟨p,0,none⟩) 64 64 ∧ St W noF [bytes (some ⟨p,0,none⟩) (Zce rd fs n)] w) := by
 have hS := St.start W
 have hcl : [Value.int .u8 67,.int .u8 82,.int .u8 69,.int .u8 69,.int .u8 76] = bv Zds := rfl
 refine Zab Tryz.func85 rfl Tryz.ntmps85 rfl ?_
 repeat (first|refine Yd0 ?_|refine Yee ?_|refine Yd1 ?_|refine Yab ?_)
 refine Zaa _ rfl rfl rfl rfl rfl (Zms (n : Nat) 4 (by omega) _) ?_
 rintro _ w ⟨a1,k1,rfl,hk1,hS'⟩
 replace hS := hS.plus hS'
 clear hS'
 repeat (first|refine Yd0 ?_|refine Yag ?_|refine Ybf (fun _ _ hS _ => ?_)|refine Yd1 ?_|refine Yab ?_)
 rename_i b0 _ _
 refine Zlz rfl rfl rfl rfl hS (by simp) (fun w hS => ?_)
 repeat (first|refine Yaa ?_|refine Yaf ?_|refine Ybf (fun _ _ hS _ => ?_))
 rename_i b1 w1 _
 have hB := Bss.ofRd (w := w1) (a := some ⟨b1,0,none⟩) (l := [⟨some ⟨b0,0,none⟩,5,Zds⟩,⟨a1,k1,bigB (n : Nat) 4⟩]) (by simpa [Bs.val,Zag,Zds] using hS.ownRd (a := some ⟨b1,0,none⟩)) (fun x hx => by
  simp only [List.mem_cons,List.not_mem_nil,or_false] at hx
  rcases hx with rfl | rfl
  ·exact hS.rd (by simp [bytes,← hcl])
  ·exact hS.ownRd)
 have hfl : (Zbp (Zdd [⟨some ⟨b0,0,none⟩,5,Zds⟩,⟨a1,k1,bigB (n : Nat) 4⟩])).length < 1152921504606846976 := by simp [Zbp,Zdd,Zcm,Zag,Zds]
 have hl32 : LenO (bv (digest rd fs (Zdd [⟨some ⟨b0,0,none⟩,5,Zds⟩,⟨a1,k1,bigB (n : Nat) 4⟩]))) 32 := ⟨by rw [Zaq]; exact Zbc _ _ _⟩
 refine Zae _ rfl rfl rfl rfl rfl hS (Zqm _ 2 _ rd fs _ hfl (by simp) (hG.mono fun r hr => (hr.rd hS).ro) hB) ?_
 rintro _ w rfl hS
 clear hB hfl
 repeat (first|refine Yd0 ?_|refine Yao (fun _ hS _ => ?_)|refine Yar (fun _ _ hS _ => ?_)|refine Ybf (fun _ _ hS _ => ?_)|refine Yd1 ?_|refine Yab ?_)
 rename_i b2 _ _ _ _ _ _ b4 _ _
 refine Zlz rfl rfl rfl rfl hS (by simp) (fun w hS => ?_)
 repeat (first|refine Yaa ?_|refine Yaf ?_|refine Ydk ?_|refine Ybf (fun _ _ hS _ => ?_))
 rename_i b6 w6 _
 have hB := Bss.ofRd (w := w6) (a := some ⟨b6,0,none⟩) (l := [⟨some ⟨b4,0,none⟩,5,Zds⟩,⟨a1,k1,bigB (n : Nat) 4⟩,⟨some ⟨b2,0,none⟩,32,digest rd fs [Zds,bigB (n : Nat) 4]⟩]) (by simpa [Bs.val,Zag,Zds,Zbc] using hS.ownRd (a := some ⟨b6,0,none⟩)) (fun x hx => by
  simp only [List.mem_cons,List.not_mem_nil,or_false] at hx
  rcases hx with rfl | rfl | rfl
  ·exact hS.rd (by simp [bytes,← hcl])
  ·exact hS.ownRd
  ·exact (hS.rd (r := pts b2 (.cells (bv (digest rd fs [Zds,bigB (n : Nat) 4])).toArray 79)) (by simp [Zdd])).ptsB (T := 79))
 refine Zaa _ rfl rfl rfl rfl rfl (Zkc _ 3 _ _ hB (by simp) (by simp [Zai,Zag,Zbc,Zds])) ?_
 rintro _ w ⟨a',c',rfl,hc',hS'⟩
 replace hS := hS.plus hS'
 clear hS' hB
 repeat (first|refine Yaa ?_)
 refine Zaa _ rfl rfl rfl rfl rfl (Zmx a' c' (Zai [⟨some ⟨b4,0,none⟩,5,Zds⟩,⟨a1,k1,bigB (n : Nat) 4⟩,⟨some ⟨b2,0,none⟩,32,digest rd fs [Zds,bigB (n : Nat) 4]⟩]) _ hS.ownRd) ?_
 rintro _ w ⟨p,rfl,hS'⟩
 replace hS := hS.plus hS'
 clear hS'
 repeat (first|refine Yd0 ?_|refine Yag ?_|refine Yah ?_|refine Yd2 ?_)
 refine ⟨p,rfl,?_⟩
 have h := hS.pick [0]
 unfold Zce
 simpa [Zai] using h
end Cr
namespace Cr
open Go Go.MapKept
set_option maxRecDepth 10000

structure StampOk (es : Array MapEntry) (clock : Nat) : Prop where
 low : ∀ e ∈ es.toList,e.born < clock
 apart : (es.toList.map (·.born)).Nodup
def kvs (es : Array MapEntry) : List (Value × Value) := es.toList.map fun e => (e.key,e.val)
def mapq {α : Type} (mk : α → Value) (r : Nat) (L : List (α × Value)) : Res := fun h => ∃ (es : Array MapEntry) (clock : Nat),kvs es = L.map (fun x => (mk x.1,x.2)) ∧ StampOk es clock ∧ pts r (.map es clock) h
section
variable {α : Type}
theorem St.openMap {W : World} {F : Nat → Prop} {mk : α → Value} {r : Nat} {L : List (α × Value)} {rs : List Res} {w : World} (hS : St W F (mapq mk r L :: rs) w) : ∃ es clock,kvs es = L.map (fun x => (mk x.1,x.2)) ∧ StampOk es clock ∧ St W F (pts r (.map es clock) :: rs) w := by
 obtain ⟨h,⟨h1,h2,⟨es,clock,a,b,hp⟩,hs,hd,hu⟩,s⟩ := hS
 exact ⟨es,clock,a,b,h,⟨h1,h2,hp,hs,hd,hu⟩,s⟩
theorem Ro.openMap {W : World} {F : Nat → Prop} {mk : α → Value} {r : Nat} {L : List (α × Value)} (H : Ro W F (mapq mk r L)) : ∃ es clock,kvs es = L.map (fun x => (mk x.1,x.2)) ∧ StampOk es clock ∧ Ro W F (pts r (.map es clock)) := by
 obtain ⟨h,⟨es,clock,a,b,hp⟩,ha⟩ := H
 exact ⟨es,clock,a,b,h,hp,ha⟩
theorem Rd.openMap {w : World} {mk : α → Value} {r : Nat} {L : List (α × Value)} (H : Rd w (mapq mk r L)) : ∃ es clock,kvs es = L.map (fun x => (mk x.1,x.2)) ∧ StampOk es clock ∧ Rd w (Cr.pts r (.map es clock)) := by
 obtain ⟨h,⟨es,clock,a,b,hp⟩,ha⟩ := H
 exact ⟨es,clock,a,b,h,hp,ha⟩
theorem Rd.mapq_r {w : World} {mk : α → Value} {r : Nat} {L : List (α × Value)} (H : Rd w (mapq mk r L)) : Rd w (mapr mk r L) := by
 obtain ⟨h,⟨es,clock,a,b,hp⟩,ha⟩ := H
 exact ⟨h,⟨es,clock,a,hp⟩,ha⟩
end
def delM {α : Type} [DecidableEq α] (k : α) : List (α × Value) → List (α × Value)
 | [] => []
 | x :: l => if k = x.1 then l else x :: delM k l
section
variable {α : Type} [DecidableEq α]
theorem Zj8 {d : TypeDesc} {mk : α → Value} [hk : Key d mk] (k : α) : ∀ (L : List (α × Value)) (es : List MapEntry) (i : Nat),es.map (fun e => (e.key,e.val)) = L.map (fun x => (mk x.1,x.2)) →
  (Instr.findNow d (mk k) es i = some none ∧ delM k L = L) ∨ ∃ j v,Instr.findNow d (mk k) es i = some (some (j,v)) ∧ i ≤ j ∧ j - i < es.length ∧ (es.eraseIdx (j - i)).map (fun e => (e.key,e.val)) = (delM k L).map (fun x => (mk x.1,x.2))
 | [],[],i,_ => .inl ⟨rfl,rfl⟩
 | [],_ :: _,_,h => by simp at h
 | _ :: _,[],_,h => by simp at h
 | x :: L,e :: es,i,h => by
  simp only [List.map_cons,List.cons.injEq,Prod.mk.injEq] at h
  obtain ⟨⟨h1,h2⟩,h3⟩ := h
  unfold Instr.findNow delM
  rw [h1,hk.same]
  by_cases hkx : k = x.1
  ·right
   exact ⟨i,e.val,by simp [hkx],Nat.le_refl _,by simp,by simp [hkx,h3]⟩
  ·rcases Zj8 (d := d) k L es (i + 1) h3 with ⟨g1,g2⟩ | ⟨j,v,g1,g2,g4,g3⟩
   ·left
    exact ⟨by simp [hkx,g1],by simp [hkx,g2]⟩
   ·right
    have e1 : j - i = (j - (i + 1)) + 1 := by omega
    refine ⟨j,v,by simp [hkx,g1],by omega,by simp; omega,?_⟩
    rw [e1,List.eraseIdx_cons_succ,List.map_cons,g3,if_neg hkx,h1,h2]
    rfl
variable {P : Program} {o : Oper} {σ : Env} {w : World} {x y : Operand} {t kt et : TypeId} {N : Nat} {ds : Md} {K : Env → World → Prop} {mk : α → Value} {dd : TypeDesc}
theorem Zeo {β : Type} {d : Nat} {W : World} {F : Nat → Prop} {rs : List Res} (mk : β → Value) (ho : o.op = .makeMap t none) (hd : o.dst = some d) (hN : Nat.blt d N = true) (hS : St W F rs w)
  (hk : ∀ r w',St W F (mapq mk r [] :: rs) w' → K ((d,.map (some r)) :: σ) w') : X P o N ds σ w K := ⟨fun f ha K' Q' hK => by
 unfold Oper.wp
 have hexec : (execOp f.eval o).run P w = .ok (.value (.map (some w.heap.size))) (w.alloc (.map #[] 0)) := by
  have : (Instr.makeMap t none).run P w = .ok (.map (some w.heap.size)) (w.alloc (.map #[] 0)) := rfl
  simp [execOp,ho,this]
 rw [hexec]
 have := hK _ _ _ (ha.put (Zam hN) (.map (some w.heap.size))) (hk w.heap.size _ ((hS.alloc (.map #[] 0)).head fun h hh => ⟨#[],0,rfl,⟨by simp,by simp⟩,hh⟩))
 rw [← hd] at this
 exact this⟩
theorem Zgt {r : Nat} {L : List (α × Value)} {k : α} {z : Value} {n m : Nat} (ho : o.op = .lookup t x y true) (hx : ev σ x = some (.map (some r))) (hy : ev σ y = some (mk k)) [hu : Und P t (.map kt et)] [hkt : Und P kt dd] [hK : Key dd mk] [hi : Inf P et z n m]
  (hr : Rd w (mapr mk r L)) : Yl P o σ w (.tuple #[(getM k L).getD z,.bool (getM k L).isSome]) := ⟨fun N ds f ha => by
 obtain ⟨h,⟨es,clock,hes,rfl⟩,hag⟩ := hr
 have hb : w.heap[r]? = some (.map es clock) := hag r _ (Zal _ _)
 obtain ⟨q,g1,g2,_⟩ := Zct (hk := hK) k L es.toList 0 hes
 obtain ⟨i,hi',hz',_⟩ := info_parts hi.inf
 have hc := run_checkKey (P := P) (w := w) hkt.und (hK.isKey k) es.isEmpty 9999
 have hf := run_findKey (P := P) (w := w) hkt.und g1
 have hg : (getObj r).run P w = .ok (.map es clock) w := by simp [getObj,Sem.run,hb]
 simp only [execOp,ho,ha.eval hx,ha.eval hy,Instr.lookup,Sem.run_bind,run_underlying hu.und,hg,hc,hf,Result.andThen_ok,Sem.run_pure]
 rw [← g2]
 cases q <;> simp [zeroValue,typeInfo,hi',hz']⟩
theorem Zk5 {es : Array MapEntry} {clock : Nat} (h : StampOk es clock) (k v : Value) : StampOk (es.push { key := k,val := v,born := clock }) (clock + 1) := by
 refine ⟨fun e he => ?_,?_⟩
 ·simp only [Array.toList_push,List.mem_append,List.mem_singleton] at he
  rcases he with he | rfl
  ·have := h.low e he; omega
  ·exact Nat.lt_succ_self _
 ·rw [Array.toList_push,List.map_append,List.nodup_append]
  refine ⟨h.apart,by simp,fun a ha b hb => ?_⟩
  obtain ⟨e,he,rfl⟩ := List.mem_map.1 ha
  have := h.low e he
  simp at hb
  omega
theorem Zih {es : Array MapEntry} {clock : Nat} (h : StampOk es clock) (j : Nat) (f : MapEntry → MapEntry) (hf : ∀ e,(f e).born = e.born) : StampOk (es.modify j f) clock := by
 have e1 : (es.modify j f).toList.map (·.born) = es.toList.map (·.born) := by
  rw [Array.toList_modify]
  generalize es.toList = l
  induction l generalizing j with
  | nil => simp
  | cons x l ih =>
   cases j with
   | zero => simp [hf]
   | succ j => simp [ih]
 refine ⟨fun e he => ?_,by rw [e1]; exact h.apart⟩
 have : e.born ∈ (es.modify j f).toList.map (·.born) := List.mem_map.2 ⟨e,he,rfl⟩
 rw [e1] at this
 obtain ⟨e',he',hb⟩ := List.mem_map.1 this
 rw [← hb]
 exact h.low e' he'
theorem Zp0 {es : Array MapEntry} {clock : Nat} (h : StampOk es clock) (j : Nat) (hj : j < es.size) : StampOk (es.eraseIdx j hj) clock := by
 have hsub : (es.eraseIdx j hj).toList.Sublist es.toList := by rw [Array.toList_eraseIdx]; exact List.eraseIdx_sublist _ _
 exact ⟨fun e he => h.low e (hsub.subset he),h.apart.sublist (hsub.map _)⟩
theorem Zd3 {r : Nat} {L : List (α × Value)} {k : α} {v : Value} {W : World} {F : Nat → Prop} {rs : List Res} {z : Operand} (ho : o.op = .mapUpdate t x y z) (hx : ev σ x = some (.map (some r))) (hy : ev σ y = some (mk k)) (hz : ev σ z = some v) [hu : Und P t (.map kt et)] [hkt : Und P kt dd] [hK : Key dd mk]
  (hd : o.dst = none) (hS : St W F (mapq mk r L :: rs) w) (hk : ∀ w',St W F (mapq mk r (setM k v L) :: rs) w' → K σ w') : X P o N ds σ w K := ⟨fun f ha K' Q' hKK => by
 obtain ⟨es,clock,hes,hst,hS2⟩ := hS.openMap
 have hb : w.heap[r]? = some (.map es clock) := hS2.get
 obtain ⟨q,g1,g2,_⟩ := Zct (hk := hK) k L es.toList 0 hes
 have hc := run_checkKey (P := P) (w := w) hkt.und (hK.isKey k) false 9999
 have hf := run_findKey (P := P) (w := w) hkt.und g1
 have hg : (getObj r).run P w = .ok (.map es clock) w := by simp [getObj,Sem.run,hb]
 have hset : ∀ o',(setObj r o').run P w = .ok () { w with heap := w.heap.setIfInBounds r o' } := fun o' => run_setObj_map o' hb
 unfold Oper.wp
 have key : ∃ es' clock',(execOp f.eval o).run P w = .ok .skip { w with heap := w.heap.setIfInBounds r (.map es' clock') } ∧ kvs es' = (setM k v L).map (fun x => (mk x.1,x.2)) ∧ StampOk es' clock' := by
  cases hq : q with
  | none =>
   subst hq
   refine ⟨es.push { key := mk k,val := v,born := clock },clock + 1,?_,?_,Zk5 hst _ _⟩
   ·simp only [execOp,ho,ha.eval hx,ha.eval hy,ha.eval hz,Instr.mapUpdate,Sem.run_bind,run_underlying hu.und,hg,hc,hf,hset,Result.andThen_ok,Sem.run_pure]
   ·rw [Zg3 (by rw [← g2]; rfl)]
    have hes' : es.toList.map (fun e => (e.key,e.val)) = L.map (fun x => (mk x.1,x.2)) := hes
    simp [kvs,hes']
  | some p =>
   obtain ⟨j,u⟩ := p
   subst hq
   obtain ⟨g4,g5,g6⟩ := Zg2 (v := v) L es.toList 0 hes j u g1
   simp only [Nat.sub_zero] at g4 g6
   have hek : ((es[j]?).map (·.key)).getD (mk k) = mk k := by
    rw [← Array.getElem?_toList,g6]; rfl
   refine ⟨es.modify j fun e => { e with key := mk k,val := v },clock,?_,?_,Zih hst _ _ (fun _ => rfl)⟩
   ·simp only [execOp,ho,ha.eval hx,ha.eval hy,ha.eval hz,Instr.mapUpdate,Sem.run_bind,run_underlying hu.und,hg,hc,hf,hset,Result.andThen_ok,Sem.run_pure,hek,Instr.keyThatStays,hK.bits,if_true]
   ·simpa [kvs,Array.toList_modify] using g4
 obtain ⟨es',clock',hexec,hes',hst'⟩ := key
 rw [hexec]
 have u := Zaz (o' := .map es' clock') hb
 refine hKK _ _ _ (?_ : Fr σ N ds _) (hk _ ((hS2.set u).head fun h hh => ⟨es',clock',hes',hst',hh⟩))
 rw [hd]; exact ha⟩
end
/-! ### going through a map -/
def Zc0 (es : Array MapEntry) (seen : Array Nat) : List MapEntry := es.toList.filter fun e => !seen.contains e.born
theorem Zjx (es : Array MapEntry) : Zc0 es #[] = es.toList := by simp [Zc0]
theorem Zg7 (e : MapEntry) : ∀ (l : List MapEntry),(l.map (·.born)).Nodup → e ∈ l → l.Perm (e :: l.filter fun x => !(x.born == e.born))
 | x :: l,hn,he => by
  have hn' : x.born ∉ l.map (·.born) ∧ (l.map (·.born)).Nodup := List.nodup_cons.1 hn
  by_cases hx : x.born = e.born
  ·rcases List.mem_cons.1 he with rfl | he
   ·have : l.filter (fun x => !(x.born == e.born)) = l := List.filter_eq_self.2 fun y hy => by
     have : y.born ≠ e.born := fun q => hn'.1 (by rw [← q]; exact List.mem_map.2 ⟨y,hy,rfl⟩)
     simpa using this
    rw [List.filter_cons_of_neg (by simp),this]
   ·exact absurd (show x.born ∈ l.map (·.born) by rw [hx]; exact List.mem_map.2 ⟨e,he,rfl⟩) hn'.1
  ·have he' : e ∈ l := (List.mem_cons.1 he).resolve_left fun q => hx (by rw [q])
   have ih := Zg7 e l hn'.2 he'
   rw [List.filter_cons_of_pos (by simpa using hx)]
   exact (ih.cons x).trans (.swap _ _ _)
theorem Zlg {es : Array MapEntry} {clock : Nat} (h : StampOk es clock) {seen : Array Nat} {e : MapEntry} (he : e ∈ Zc0 es seen) : (Zc0 es seen).Perm (e :: Zc0 es (seen.push e.born)) := by
 have hn : ((Zc0 es seen).map (·.born)).Nodup := h.apart.sublist ((List.filter_sublist ..).map _)
 have h1 := Zg7 e _ hn he
 have h2 : Zc0 es (seen.push e.born) = (Zc0 es seen).filter fun x => !(x.born == e.born) := by
  unfold Zc0
  rw [List.filter_filter]
  refine List.filter_congr fun x _ => ?_
  have e3 : (x.born == e.born) = decide (x.born = e.born) := by by_cases h : x.born = e.born <;> simp [h]
  simp [e3,Bool.and_comm]
 rw [h2]
 exact h1
section
variable {P : Program} {o : Oper} {σ : Env} {w : World} {x y : Operand} {t kt et : TypeId} {N : Nat} {ds : Md} {K : Env → World → Prop}
theorem Zp2 (w : World) (ty : TypeId) (it bm since c0 : Nat) (seen : Array Nat) (es : Array MapEntry) (clock : Nat) (hi : w.heap[it]? = some (.mapIter (some bm) since seen c0)) (hb : w.heap[bm]? = some (.map es clock)) (hold : ∀ x ∈ es.toList,x.born < since) (hsc : since ≤ c0) :
  (Zc0 es seen = [] ∧ (Instr.next (.pointer (some ⟨it,0,none⟩)) false ty).run P w = .ok (.tuple #[.bool false]) w) ∨
  ∃ e ∈ Zc0 es seen,∃ w1 : World,(w1 = w ∨ w1 = w.drew) ∧ (Instr.next (.pointer (some ⟨it,0,none⟩)) false ty).run P w = .ok (.tuple #[.bool true,e.key,e.val]) { w1 with heap := w1.heap.setIfInBounds it (.mapIter (some bm) since (seen.push e.born) clock) } := by
 simp only [Instr.next,getObj,Sem.run_bind,Sem.run,hi,hb,Result.andThen,next_test_false seen es since c0 hold hsc,Bool.false_eq_true,if_false]
 have hLe : Zc0 es seen = (Array.filter (fun e => !seen.contains e.born) es).toList := by simp [Zc0]
 rw [hLe]
 have hmem : ∀ x ∈ (Array.filter (fun e => !seen.contains e.born) es).toList,x.born < since := fun x hx => hold x (by simp at hx ⊢; exact hx.1)
 generalize Array.filter (fun e => !seen.contains e.born) es = L at hmem ⊢
 have e1 : L.filter (fun x => decide (x.born < since)) = L := Array.filter_eq_self.2 (fun x hx => by simpa using hmem x (by simpa using hx))
 have e2 : L.filter (fun x => decide (x.born ≥ since)) = #[] := by
  rw [Array.filter_eq_empty_iff]
  intro x hx
  have := hmem x (by simpa using hx)
  simp
  omega
 simp only [e1,e2,Array.append_empty]
 by_cases h0 : L.size = 0
 ·left
  have : L = #[] := Array.eq_empty_of_size_eq_zero h0
  subst this
  refine ⟨rfl,?_⟩
  simp [choose,Sem.run,Question.forced]
 ·right
  have hne : L.isEmpty = false := by simp [Array.isEmpty,h0]
  simp only [hne,Bool.false_eq_true,if_false,Array.empty_append,Array.size_map]
  have hch : ∃ (j : Nat) (w1 : World),j < L.size ∧ (w1 = w ∨ w1 = w.drew) ∧ (choose (Question.mapNext L.size)).run P w = .ok j w1 := by
   by_cases hf : L.size ≤ 1
   ·exact ⟨0,w,by omega,.inl rfl,by simp [choose,Sem.run,Question.forced,hf]⟩
   ·exact ⟨_,w.drew,Nat.mod_lt _ (by omega),.inr rfl,by
     simp only [choose,Sem.run,Question.forced,decide_eq_true_eq,hf,if_false,Question.cut]
     rfl⟩
  obtain ⟨j,w1,hj,hal,hrun⟩ := hch
  refine ⟨L[j],by simp,w1,hal,?_⟩
  have hi1 : w1.heap[it]? = some (.mapIter (some bm) since seen c0) := by rcases hal with rfl | rfl <;> exact hi
  have hset : ∀ o' : Obj,(setObj it o').run P w1 = .ok () { w1 with heap := w1.heap.setIfInBounds it o' } := fun o' => by simp [setObj,Sem.run,hi1]
  simp only [hrun,Array.getElem?_map,Array.getElem?_eq_getElem hj,Option.map_some,Sem.run_bind,hset,Result.andThen]
  rfl
theorem Zly {bm d : Nat} {es : Array MapEntry} {clock : Nat} {W : World} {F : Nat → Prop} {rs : List Res} (ho : o.op = .range t x) (hx : ev σ x = some (.map (some bm))) [hu : Und P t (.map kt et)] (hm : Rd w (pts bm (.map es clock))) (hd : o.dst = some d) (hN : Nat.blt d N = true) (hS : St W F rs w)
  (hk : ∀ it w',St W F (pts it (.mapIter (some bm) clock #[] clock) :: rs) w' → RowKit.Below w.heap.size w w' → K ((d,.pointer (some ⟨it,0,none⟩)) :: σ) w') : X P o N ds σ w K := ⟨fun f ha K' Q' hK => by
 have hb : w.heap[bm]? = some (.map es clock) := by obtain ⟨h,rfl,hag⟩ := hm; exact hag bm _ (Zal _ _)
 unfold Oper.wp
 have hexec : (execOp f.eval o).run P w = .ok (.value (.pointer (some ⟨w.heap.size,0,none⟩))) (w.alloc (.mapIter (some bm) clock #[] clock)) := by
  simp [execOp,ho,ha.eval hx,run_range_map w t kt et bm es clock hu.und hb]
 rw [hexec]
 have := hK _ _ _ (ha.put (Zam hN) (.pointer (some ⟨w.heap.size,0,none⟩))) (hk w.heap.size _ (hS.alloc _) ((RowKit.Below.refl _ _).alloc (Nat.le_refl _) _))
 rw [← hd] at this
 exact this⟩
theorem Zpo {it bm d : Nat} {es : Array MapEntry} {clock : Nat} {seen : Array Nat} {W : World} {F : Nat → Prop} {rs : List Res} (ho : o.op = .next x false) (hx : ev σ x = some (.pointer (some ⟨it,0,none⟩))) (hst : StampOk es clock) (hm : Rd w (pts bm (.map es clock))) (hd : o.dst = some d) (hN : Nat.blt d N = true)
  (hS : St W F (pts it (.mapIter (some bm) clock seen clock) :: rs) w) (h0 : Zc0 es seen = [] → K ((d,.tuple #[.bool false]) :: σ) w)
  (h1 : ∀ e,e ∈ Zc0 es seen → ∀ w',St W F (pts it (.mapIter (some bm) clock (seen.push e.born) clock) :: rs) w' → K ((d,.tuple #[.bool true,e.key,e.val]) :: σ) w') : X P o N ds σ w K := ⟨fun f ha K' Q' hK => by
 have hb : w.heap[bm]? = some (.map es clock) := by obtain ⟨h,rfl,hag⟩ := hm; exact hag bm _ (Zal _ _)
 have hi : w.heap[it]? = some (.mapIter (some bm) clock seen clock) := hS.get
 unfold Oper.wp
 rcases Zp2 (P := P) w o.type it bm clock clock seen es clock hi hb hst.low (Nat.le_refl _) with ⟨g1,g2⟩ | ⟨e,he,w1,hw1,g2⟩
 ·have hexec : (execOp f.eval o).run P w = .ok (.value (.tuple #[.bool false])) w := by
   simp [execOp,ho,ha.eval hx,g2]
  rw [hexec]
  have := hK _ _ _ (ha.put (Zam hN) (.tuple #[.bool false])) (h0 g1)
  rw [← hd] at this
  exact this
 ·have hexec : (execOp f.eval o).run P w = .ok (.value (.tuple #[.bool true,e.key,e.val])) { w1 with heap := w1.heap.setIfInBounds it (.mapIter (some bm) clock (seen.push e.born) clock) } := by
   simp [execOp,ho,ha.eval hx,g2]
  rw [hexec]
  have hS1 : St W F (pts it (.mapIter (some bm) clock seen clock) :: rs) w1 := by
   rcases hw1 with rfl | rfl
   ·exact hS
   ·exact hS.drew
  have := hK _ _ _ (ha.put (Zam hN) (.tuple #[.bool true,e.key,e.val])) (h1 e he _ (hS1.set (Zaz (o' := .mapIter (some bm) clock (seen.push e.born) clock) hS1.get)))
  rw [← hd] at this
  exact this⟩
end
end Cr
