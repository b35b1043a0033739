/-
  Layer 8 (tree): a name taken out of a directory.
  Layer 8 (tree) in plain words,4: a tree with another one at a path; which nodes it has. No program is in sight.
  Layer 8 (tree) in plain words,5: a node made,turned,taken out. No program is in sight.
  Layer 8 (tree): a directory left; a free node; what is wrong with a node to be made.
  Layer 8 (tree): Make.
  Layer 8 (tree) in plain words,6: other bytes,a node taken out. No program is in sight.
  Layer 8 (tree): Put,Remove.
  Layer 9 (table): a table of a change; what stands at a path; a key's value.
  Layer 9 (table): the directories that are still to be made.
  Layer 9 (table): one more node of a value's way; what was made is taken away again.
-/
import Derived.Test.YtpbgaojjlepkcaaGreatDoorTba12
import Derived.Test.YtpbgaojjlepkcaaGreatDoorTba8
import Derived.Test.YtpbgaojjlepkcaaGreatDoorTba3
namespace Cr
open Go Go.Proofs
set_option maxRecDepth 100000
set_option maxHeartbeats 8000000
attribute [local irreducible] Calls

section
variable {P : Program} {o : Oper} {σ : Env} {w : World} {N : Nat} {ds : Md} {K : Env → World → Prop} {x y : Operand} {t : TypeId}
theorem Zze {T e : TypeId} {g off n c : Nat} {l : List Value} {W : World} {F : Nat → Prop} {rs : List Res} {z : Value} {bytes : Nat} {TT : TypeId} (ho : o.op = .call { callee := .builtin .clear,args := #[x],argTypes := #[t] }) (hx : ev σ x = some (.slice (some ⟨g,off,none⟩) n c))
  [h : Und P t (.slice T)] [hi : Inf P T z e bytes] (h1 : ∀ u ∈ z.cells.toList,u.oneCell' = true) (hd : o.dst = none) (hS : St W F (pts g (.cells l.toArray TT (0,0)) :: rs) w) (hfit : off + n * e ≤ l.length)
  (hk : ∀ w' zs,zs.length = n * e → St W F (pts g (.cells (Zah l off zs).toArray TT (0,0)) :: rs) w' → K σ w') : X P o N ds σ w K := ⟨fun f ha K' Q' hK => by
 have hb := hS.get
 obtain ⟨i,hi',hz',hsz,hby⟩ := info_parts hi.inf
 have hzs : z.cells.size = e := hi.zs
 have hlen : (Builtin.zeroCells z.cells n).toList.length = n * e := by simp [size_zeroCells,hzs]
 have h1' : ∀ u ∈ (Builtin.zeroCells z.cells n).toList,u.oneCell' = true := fun u hu => by
  unfold Builtin.zeroCells at hu
  simp only [Array.toList_map,List.mem_map] at hu
  obtain ⟨j,hj,rfl⟩ := hu
  have hj' : j < n * z.cells.size := by simpa using hj
  have hpos : 0 < z.cells.size := Nat.pos_of_ne_zero fun e => by rw [e] at hj'; omega
  have hm := Nat.mod_lt j hpos
  refine h1 _ ?_
  rw [getElem!_pos z.cells (j % z.cells.size) hm]
  exact Array.mem_toList_iff.2 (Array.getElem_mem hm)
 by_cases h0 : n = 0
 ·subst h0
  have hexec : (execOp f.eval o).run P w = .ok (.value (.tuple #[])) w := by
   simp [execOp,ho,resolve,invoke,builtin,ha.eval hx,Builtin.clear_,run_underlying h.und]
  unfold Oper.wp
  rw [hexec]
  refine hK _ _ _ (?_ : Fr σ N ds _) (hk w [] (by simp) (by
   have : Zah l off [] = l := by unfold Zah; simp
   rw [this]; exact hS))
  rw [hd]; exact ha
 ·have hst := run_storeCells_at P g off TT (Builtin.zeroCells z.cells n).toList 0 l.toArray w hb (by simpa [size_zeroCells,hzs] using hfit) h1'
  simp only [Nat.add_zero] at hst
  have hexec : (execOp f.eval o).run P w = .ok (.value (.tuple #[])) (w.setRow g (Zah l off (Builtin.zeroCells z.cells n).toList).toArray) := by
   obtain ⟨n,rfl⟩ : ∃ k,n = k + 1 := ⟨n - 1,by omega⟩
   simp only [execOp,ho,resolve,invoke,builtin,ha.eval hx,Builtin.clear_,Sem.run_bind,Sem.run_pure,Result.andThen_ok,List.map_toArray,List.map_cons,List.map_nil]
   simp [run_underlying h.und,zeroValue,typeInfo,hi',hz',hst,Zah]
  unfold Oper.wp
  rw [hexec]
  have u := Za7 hb (Zah l off (Builtin.zeroCells z.cells n).toList).toArray
  refine hK _ _ _ (?_ : Fr σ N ds _) (hk _ _ hlen (hS.set u))
  rw [hd]; exact ha⟩
end
theorem Zy1 (x : Nm) (b : Nat) (s : List UInt8) (T : TypeId) (fz : Nat × Nat) (W : World) (hb : Rd W (pts b (.cells (List.toArray [.string (str s)]) T fz))) :
  Calls Tryz.prog 173 #[.agg (List.toArray [.string (str x.1),.int .i64 x.2]),.pointer (some ⟨b,0,none⟩)] W (Ret fun v w => v = .bool (decide (x.1 = s)) ∧ St W noF [] w) := by
 have hc := hb.ro
 have hS := St.start W
 by_cases h : x.1 = s
 ·refine Zab Tryz.func173 rfl Tryz.ntmps173 rfl ?_
  repeat (first|refine Yd0 ?_|(refine X_id ?_;first|refine Yag ?_|refine Yan ?_|refine Yap ?_|refine Ya6 (fun _ _ hS _ => ?_)|refine Ycv ?_|refine Yca ?_)|refine Yed ?_|refine Yd2 ?_)
  refine ⟨?_,hS.drops⟩
  simp [h]
 ·have h' : str x.1 ≠ str s := fun e => h (Zus e)
  refine Zab Tryz.func173 rfl Tryz.ntmps173 rfl ?_
  repeat (first|refine Yd0 ?_|(refine X_id ?_;first|refine Yag ?_|refine Yan ?_|refine Yap ?_|refine Ya6 (fun _ _ hS _ => ?_)|refine Ycq ?_|refine Yca ?_)|refine Yed ?_|refine Yd2 ?_)
  refine ⟨?_,hS.drops⟩
  simp [h,h']
theorem Zyl (a : Option Addr) (l : List Nm) (c b : Nat) (s : List UInt8) (T : TypeId) (fz : Nat × Nat) (W : World) (hr0 : Rd W (row a (nmV l))) (hb : Rd W (pts b (.cells (List.toArray [.string (str s)]) T fz))) (hl : l.length ≤ 1048576) :
  Calls Tryz.prog 162 #[.slice a l.length c,.func (.func 173) #[] #[.pointer (some ⟨b,0,none⟩)]] W (Ret fun v w => v = .int .i64 (ixN s l) ∧ St W noF [] w) := by
 have hbo := hb.ro
 have hr1 := hr0.ro
 have hS := St.start W
 refine Zab Tryz.func162 rfl Tryz.ntmps162 rfl ?_
 repeat (first|refine Yd0 ?_|refine Yev ?_|refine Yd3 ?_|refine Yab ?_)
 refine Zak (α := Nat) (fun k => [(0,.slice a l.length c),(1,.func (.func 173) #[] #[.pointer (some ⟨b,0,none⟩)]),(7,.int .i64 (l.length : Nat)),(8,.int .i64 (k : Nat))])
  (fun k w => k ≤ l.length ∧ (∀ j,j < k → ∀ y,l[j]? = some y → y.1 ≠ s) ∧ St W noF [] w) (fun k => l.length - k) 0 ⟨rfl,rfl,rfl,rfl,trivial⟩ ⟨Nat.zero_le _,fun j hj => absurd hj (by omega),hS⟩ ?_
 clear hS
 rintro k w ⟨hk,hne,hS2⟩
 by_cases hlt : k < l.length
 ·have hx0 : l[k]? = some l[k] := List.getElem?_eq_getElem (by omega)
  generalize l[k] = x at hx0
  have hr := hr1
  have hxs : ((nmV l).drop (k * 2)).take 2 = [.string (str x.1),.int .i64 x.2] := Zik hx0
  obtain ⟨xb,xo,rfl⟩ := (hr.rd hS2).base (by intro e; rw [e] at hxs; simp at hxs)
  have hS := hS2
  by_cases hq : x.1 = s
  ·have hc1 := fun w h => Zy1 x b s T fz w h
   rw [decide_eq_true hq] at hc1
   repeat (first|refine Yd0 ?_|refine Ye2 ?_|refine Yd4 ?_|refine Yab ?_)
   refine Zb4 (first := []) (captured := [.pointer (some ⟨b,0,none⟩)]) rfl rfl rfl rfl rfl (hc1 _ (hbo.rd hS)) ?_
   rintro _ w' ⟨rfl,hS'⟩
   replace hS := hS.plus hS'
   clear hS'
   repeat (first|refine Yd0 ?_|refine Yee ?_|refine Yeh ?_|refine Yel ?_)
   exact ⟨by rw [Zvl hx0 hq hne],hS⟩
  ·have hc1 := fun w h => Zy1 x b s T fz w h
   rw [decide_eq_false hq] at hc1
   repeat (first|refine Yd0 ?_|refine Ye2 ?_|refine Yd4 ?_|refine Yab ?_)
   refine Zb4 (first := []) (captured := [.pointer (some ⟨b,0,none⟩)]) rfl rfl rfl rfl rfl (hc1 _ (hbo.rd hS)) ?_
   rintro _ w' ⟨rfl,hS'⟩
   replace hS := hS.plus hS'
   clear hS'
   repeat (first|refine Yd0 ?_|refine Yd5 ?_|refine Yer ?_|refine Yd8 ?_)
   refine Zaf (k + 1) ⟨rfl,rfl,rfl,rfl,trivial⟩ ⟨by omega,fun j hj y hy => ?_,hS⟩ (by omega)
   by_cases hjk : j = k
   ·subst hjk; rw [hx0] at hy; cases hy; exact hq
   ·exact hne j (by omega) y hy
 ·obtain rfl : k = l.length := by omega
  have hS := hS2
  repeat (first|refine Yd0 ?_|refine Yag ?_|refine Ya3 ?_|refine Yd9 ?_|refine Yez ?_)
  rw [Zmq fun x hx => (by
   obtain ⟨j,hj,he⟩ := List.mem_iff_getElem.1 hx
   exact hne j hj x (by rw [List.getElem?_eq_getElem hj,he]))]
  exact ⟨rfl,hS⟩
theorem Zx1 {s : List UInt8} {l : List Nm} (h : ixN s l < 0) : rmN s l = l := by
 unfold rmN
 refine List.filter_eq_self.2 fun x hx => ?_
 rcases Zhg (s := s) (l := l) with ⟨_,h2⟩ | ⟨k,y,h1,_,_⟩
 ·have := List.find?_eq_none.1 h2 x hx
  simpa using this
 ·omega
theorem Zrk {s : List UInt8} : ∀ {l : List Nm} {k : Nat} {x : Nm},ixN s l = k → l[k]? = some x → rmN s (l.take (k + 1)) = l.take k
 | y :: l,k,x,h,hx => by
  unfold ixN at h
  by_cases hy : y.1 = s
  ·rw [if_pos hy] at h
   obtain rfl : k = 0 := by omega
   simp [rmN,hy]
  ·rw [if_neg hy] at h
   split at h
   ·omega
   ·obtain ⟨k,rfl⟩ : ∃ j,k = j + 1 := ⟨k - 1,by omega⟩
    have ih := Zrk (s := s) (l := l) (k := k) (x := x) (by omega) (by simpa using hx)
    rw [List.take_succ_cons,List.take_succ_cons]
    unfold rmN at ih ⊢
    rw [List.filter_cons_of_pos (by simpa using hy),ih]
theorem Zv7 (a : Option Addr) (c : Nat) (l : List Nm) (sb : Nat) (s : List UInt8) (T : TypeId) (fz : Nat × Nat) (W : World) (F : Nat → Prop) (hlc : l.length ≤ c) (hl : l.length ≤ 1048576) (hsb : Ro W F (pts sb (.cells (List.toArray [.string (str s)]) T fz))) (hS : St W F [own 290 2 a c (nmV l)] W) :
  Calls Tryz.prog 172 #[.slice a l.length c,.func (.func 173) #[] #[.pointer (some ⟨sb,0,none⟩)]] W (Ret fun v w => ∃ a' c',v = .slice a' (rmN s l).length c' ∧ (rmN s l).length ≤ c' ∧ St W F [own 290 2 a' c' (nmV (rmN s l))] w) := by
 have hnl := Zgk l
 refine Zab Tryz.func172 rfl Tryz.ntmps172 rfl ?_
 repeat (first|refine Yd0 ?_|refine Yee ?_|refine Yd1 ?_|refine Yab ?_)
 refine Zaa _ rfl rfl rfl rfl rfl (Zyl a l c sb s T fz _ (hS.rd (List.mem_cons_self ..)).own_row (hsb.rd hS) hl) ?_
 rintro _ w ⟨rfl,hS'⟩
 replace hS := hS.plus hS'
 clear hS'
 rcases Zhg (s := s) (l := l) with ⟨h1,_⟩ | ⟨k,x,h1,h2,_⟩
 ·have hm1 : ixN s l = -1 := by have := Zzv s l; omega
  have hrm := Zx1 h1
  rw [hm1,hrm]
  repeat (first|refine Yd0 ?_|refine Yaf ?_|refine Yag ?_|refine Ybi ?_|refine Yeh ?_|refine Yei ?_)
  exact ⟨a,c,rfl,hlc,hS.took⟩
 ·rw [h1]
  have hkl := (List.getElem?_eq_some_iff.1 h2).1
  have hrk := Zrk h1 h2
  obtain ⟨b,cells,rfl,hcl,hct,hcm,hS⟩ := St.openOwn hS (by intro e; rw [e] at hnl; simp at hnl; omega)
  repeat (first|refine Yd0 ?_|refine Yaf ?_|refine Yag ?_|refine Ybh ?_|refine Yax ?_|refine Yex ?_|refine Yab ?_)
  refine Zcp (α := Nat) (fun m => [(0,.slice (some ⟨b,0,none⟩) l.length c),(5,.int .i64 (m : Nat))]) (fun m w => m < l.length ∧ m = (rmN s l).length ∧ ∃ L : List Value,L.length = c * 2 ∧ L.take (m * 2) = nmV (rmN s l) ∧ St W F [pts b (.cells L.toArray 290 (0,0))] w) ?_ ?_
  ·refine Zak (α := Nat × Nat) (fun z => [(0,.slice (some ⟨b,0,none⟩) l.length c),(1,.func (.func 173) #[] #[.pointer (some ⟨sb,0,none⟩)]),(5,.int .i64 (z.1 : Nat)),(6,.int .i64 (z.2 : Nat))])
    (fun z w => z.2 ≤ l.length ∧ z.1 < z.2 ∧ z.1 = (rmN s (l.take z.2)).length ∧ ∃ L : List Value,L.length = c * 2 ∧ L.take (z.1 * 2) = nmV (rmN s (l.take z.2)) ∧ (L.drop (z.2 * 2)).take ((l.length - z.2) * 2) = (nmV l).drop (z.2 * 2) ∧ St W F [pts b (.cells L.toArray 290 (0,0))] w)
    (fun z => l.length - z.2) (k,k + 1) ⟨rfl,rfl,rfl,rfl,trivial⟩ ⟨by dsimp only; omega,by dsimp only; omega,by dsimp only; rw [hrk,List.length_take]; omega,cells,hcl,?_,?_,hS⟩ ?_
   ·dsimp only
    rw [hrk,Zrp,← hct,List.take_take,hnl,Nat.min_eq_left (by omega)]
   ·dsimp only
    have := congrArg (List.drop ((k + 1) * 2)) hct
    rw [List.drop_take,hnl] at this
    rw [← this]; congr 1; omega
   clear hS
   rintro ⟨m,j⟩ w ⟨hj,hmj,hm,L,hL,ht,hd,hS2⟩
   simp only at hj hmj hm ht hd hS2
   by_cases hlt : j < l.length
   ·have hx0 : l[j]? = some l[j] := List.getElem?_eq_getElem (by omega)
    have htk : l.take (j + 1) = l.take j ++ [l[j]] := List.take_succ_eq_append_getElem hlt
    generalize l[j] = y at hx0 htk
    have hr := (hS2.rd (List.mem_cons_self ..)).mono (r' := row (some ⟨b,0,none⟩) L) (fun g hg => ⟨g,.inr ⟨b,0,L.toArray,_,(0,0),rfl,hg,fun j v hv => by simpa using hv⟩,fun _ _ e => e⟩)
    have hdn : ∀ q,(L.drop (j * 2)).take ((q + 1) * 2) = (L.drop (j * 2)).take 2 ++ ((L.drop ((j + 1) * 2)).take (q * 2)) := fun q => by
     rw [show (q + 1) * 2 = 2 + q * 2 by omega,List.take_add,List.drop_drop,show j * 2 + 2 = (j + 1) * 2 by omega]
    obtain ⟨q,hq⟩ : ∃ q,l.length - j = q + 1 := ⟨l.length - j - 1,by omega⟩
    have hnd : (nmV l).drop (j * 2) = nmC y ++ (nmV l).drop ((j + 1) * 2) := by
     have := Zik hx0
     rw [← List.take_append_drop 2 ((nmV l).drop (j * 2)),this,List.drop_drop,show j * 2 + 2 = (j + 1) * 2 by omega]
    rw [hq,hdn q,hnd] at hd
    have h2l : ((L.drop (j * 2)).take 2).length = 2 := by rw [List.length_take,List.length_drop,hL]; omega
    obtain ⟨hxs,hd2⟩ := List.append_inj hd (by rw [h2l]; rfl)
    have hxs : (L.drop (j * 2)).take 2 = [.string (str y.1),.int .i64 y.2] := hxs
    have hS := hS2
    by_cases hys : y.1 = s
    ·have hc1 := fun w h => Zy1 y sb s T fz w h
     rw [decide_eq_true hys] at hc1
     have hre : rmN s (l.take (j + 1)) = rmN s (l.take j) := by unfold rmN; rw [htk,List.filter_append]; simp [hys]
     repeat (first|refine Yd0 ?_|(refine X_id ?_;first|refine Yaf ?_|refine Yav ?_|refine Ya2 ?_|refine Ybc ?_|refine Ybe ?_|refine Ybp ?_|refine Yao (fun _ hS _ => ?_)|refine Yar (fun _ _ hS _ => ?_))|refine Yd4 ?_|refine Yab ?_)
     refine Zb4 (first := []) (captured := [.pointer (some ⟨sb,0,none⟩)]) rfl rfl rfl rfl rfl (hc1 _ (hsb.rd hS)) ?_
     rintro _ w' ⟨rfl,hS'⟩
     replace hS := hS.plus hS'
     clear hS'
     repeat (first|refine Yd0 ?_|refine Yaf ?_|refine Yag ?_|refine Ybb ?_|refine Yax ?_|refine Yer ?_|refine Yd8 ?_)
     exact Zaf (z := (m,j)) (m,j + 1) ⟨rfl,rfl,rfl,rfl,trivial⟩ ⟨hlt,by dsimp only; omega,by rw [hre]; exact hm,L,hL,by rw [hre]; exact ht,by rw [show l.length - (j + 1) = q by omega]; exact hd2,hS.took⟩ (by dsimp only; omega)
    ·have hc1 := fun w h => Zy1 y sb s T fz w h
     rw [decide_eq_false hys] at hc1
     have hre : rmN s (l.take (j + 1)) = rmN s (l.take j) ++ [y] := by unfold rmN; rw [htk,List.filter_append]; simp [hys]
     repeat (first|refine Yd0 ?_|(refine X_id ?_;first|refine Yaf ?_|refine Yav ?_|refine Ya2 ?_|refine Ybc ?_|refine Ybe ?_|refine Ybp ?_|refine Yao (fun _ hS _ => ?_)|refine Yar (fun _ _ hS _ => ?_))|refine Yd4 ?_|refine Yab ?_)
     refine Zb4 (first := []) (captured := [.pointer (some ⟨sb,0,none⟩)]) rfl rfl rfl rfl rfl (hc1 _ (hsb.rd hS)) ?_
     rintro _ w' ⟨rfl,hS'⟩
     replace hS := hS.plus hS'
     clear hS'
     repeat (first|refine Yd0 ?_|refine Yaf ?_|refine Ybo ?_|refine Ybc ?_|refine Ybe ?_|refine Yea ?_|refine Yab ?_)
     rw [show adr (some ⟨b,0,none⟩) ((((m,j).fst : Nat) : Int).toNat * 2) = ⟨b,m * 2,none⟩ by simp [adr]]
     refine Zhq rfl rfl rfl rfl (by simp [Value.oneCell']) rfl hS (by simp; omega) (fun w hS _ => ?_)
     repeat (first|refine Yd0 ?_|refine Yef ?_|refine Yad ?_|refine Yd8 ?_)
     have hs1 : (Zah L (m * 2) [.string (str y.1),.int .i64 y.2]).length = L.length := Zbn (by simp; omega)
     refine Zaf (z := (m,j)) (m + 1,j + 1) ⟨rfl,rfl,rfl,rfl,trivial⟩ ⟨hlt,by dsimp only; omega,by rw [hre,List.length_append,← hm]; rfl,Zah L (m * 2) [.string (str y.1),.int .i64 y.2],by rw [hs1,hL],?_,?_,hS.took⟩ (by dsimp only; omega)
     ·rw [hre,Zju,← ht]
      unfold Zah
      rw [List.take_append_of_le_length (by simp; omega),List.take_of_length_le (by simp; omega)]
      simp [nmV,nmC]
     ·rw [← hd2]
      unfold Zah
      rw [show l.length - (j + 1,j + 1).2 = q by simp only; omega,List.append_assoc,List.drop_append,List.drop_of_length_le (by simp; omega),List.nil_append,List.drop_append,List.drop_of_length_le (by simp; omega),List.nil_append,List.drop_drop]
      congr 2
      simp; omega
   ·obtain rfl : j = l.length := by omega
    have hS := hS2
    rw [List.take_length] at hm ht
    repeat (first|refine Yd0 ?_|refine Yaf ?_|refine Yav ?_|refine Ya3 ?_|refine Yec ?_|refine Yd6 ?_)
    exact Zbi m ⟨rfl,rfl,trivial⟩ ⟨hmj,hm,L,hL,ht,hS⟩
  ·rintro m w ⟨hml,hm,L,hL,ht,hS⟩
   repeat (first|refine Yaa ?_|refine Yaf ?_|refine Yd1 ?_)
   refine X_yl (Zan (l := m) (h := l.length) rfl rfl rfl rfl (.inl ⟨rfl,rfl⟩) (.inr ⟨_,_,rfl,by omega,by omega,by omega⟩)) rfl rfl ?_
   rw [Zed (show m < c by omega)]
   repeat (first|refine Yaa ?_)
   refine Zze rfl rfl (by simp [Value.cells,Value.oneCell']) rfl hS (by omega) (fun w zs hzs hS => ?_)
   have hsl : (Zah L (m * 2) zs).length = L.length := Zbn (by rw [hzs]; omega)
   repeat (first|refine Yd0 ?_|refine Yaf ?_|refine Yd1 ?_|refine Yab ?_)
   refine X_yl (Zan (l := 0) (h := m) rfl rfl rfl rfl (.inr ⟨_,_,rfl,by omega,by omega,by omega⟩) (.inl ⟨rfl,rfl⟩)) rfl rfl ?_
   rw [Zed (show 0 < c by omega)]
   simp only [Nat.zero_mul,Nat.sub_zero]
   repeat (first|refine Yd0 ?_|refine Yag ?_|refine Yah ?_|refine Yd2 ?_)
   refine ⟨some ⟨b,0,none⟩,c,by rw [hm],by omega,?_⟩
   refine hS.head fun g hg => Za2 (c := c) (l := Zah L (m * 2) zs) (by rw [hsl,hL]) hcm ?_ g hg
   rw [Zgk,← hm,← ht]
   unfold Zah
   rw [List.append_assoc,List.take_append_of_le_length (by rw [List.length_take]; omega),List.take_take,Nat.min_self]
end Cr
namespace Cr
open Go

def updT : List (List UInt8) → (Tn → Tn) → Tn → Tn
 | [],f,t => f t
 | s :: p,f,.mk nm no st data kids => .mk nm no st data (kids.map fun k => if k.nm = s then updT p f k else k)
theorem Zgg : ∀ l m : List Tn,subL (l ++ m) = subL l ++ subL m
 | [],m => rfl
 | x :: l,m => by rw [List.cons_append,subL,subL,Zgg l m,List.append_assoc]
theorem Zn0 {l m : List Tn} (h : l.Perm m) : (subL l).Perm (subL m) := by
 induction h with
 | nil => exact .refl _
 | cons x _ ih => rw [subL,subL]; exact ih.append_left _
 | swap x y l => rw [subL,subL,subL,subL,← List.append_assoc,← List.append_assoc]; exact List.perm_append_comm.append_right _
 | trans _ _ h1 h2 => exact h1.trans h2
theorem Zj1 : ∀ l m : List Tn,hgtL (l ++ m) = max (hgtL l) (hgtL m)
 | [],m => by rw [List.nil_append,hgtL]; omega
 | x :: l,m => by rw [List.cons_append,hgtL,hgtL,Zj1 l m]; omega
theorem hgtL_le {l : List Tn} {d : Nat} : hgtL l ≤ d ↔ ∀ x ∈ l,1 + hgtT x ≤ d := by
 induction l with
 | nil => simp [hgtL]
 | cons x l ih => rw [hgtL]; simp only [List.mem_cons,forall_eq_or_imp,← ih]; omega
theorem Zdg {n : Nat} {t k : Tn} {s : List UInt8} (h : TnOk n t) (hs : Za9 t s = .ok k) : t.st.kind = 1 ∧ k.nm = s ∧ ∃ l1 l2,t.kids = l1 ++ k :: l2 ∧ (∀ x ∈ l1,x.nm ≠ s) ∧ ∀ x ∈ l2,x.nm ≠ s := by
 obtain ⟨hk,_,hn⟩ := Zhi hs
 refine ⟨hk,hn,?_⟩
 unfold Za9 at hs
 rw [if_pos hk] at hs
 cases hq : kidT s t.kids with
 | none => rw [hq] at hs; cases hs
 | some x =>
  rw [hq] at hs
  simp only [Except.ok.injEq] at hs
  subst hs
  obtain ⟨_,l1,l2,he,h1⟩ := List.find?_eq_some_iff_append.1 hq
  refine ⟨l1,l2,he,fun y hy => by simpa using h1 y hy,fun y hy => ?_⟩
  have hr := h.rise
  rw [he,List.pairwise_append,List.pairwise_cons] at hr
  have := Z3h (hr.2.1.1 y hy)
  rw [hn] at this
  exact fun e => this e.symm
theorem Ze4 {t k : Tn} {s : List UInt8} {p : List (List UInt8)} {f : Tn → Tn} {l1 l2 : List Tn} (he : t.kids = l1 ++ k :: l2) (hn : k.nm = s) (h1 : ∀ x ∈ l1,x.nm ≠ s) (h2 : ∀ x ∈ l2,x.nm ≠ s) : updT (s :: p) f t = .mk t.nm t.no t.st t.data (l1 ++ updT p f k :: l2) := by
 obtain ⟨nm,no,st,data,kids⟩ := t
 have he : kids = l1 ++ k :: l2 := he
 subst he
 rw [updT]
 congr 1
 rw [List.map_append,List.map_cons,if_pos hn]
 congr 1
 ·conv => rhs; rw [← List.map_id l1]
  exact List.map_congr_left fun x hx => by rw [if_neg (h1 x hx)]; rfl
 ·congr 1
  conv => rhs; rw [← List.map_id l2]
  exact List.map_congr_left fun x hx => by rw [if_neg (h2 x hx)]; rfl
def Ziy (f : Tn → Tn) (u : Tn) : Prop := (f u).nm = u.nm ∧ (f u).no = u.no
theorem Zfn {f : Tn → Tn} {u : Tn} (hf : Ziy f u) : ∀ {p : List (List UInt8)} {t : Tn},goT t p = .ok u → (updT p f t).nm = t.nm ∧ (updT p f t).no = t.no
 | [],t,h => by rw [goT] at h; injection h with h; subst h; exact hf
 | s :: p,.mk nm no st data kids,_ => ⟨rfl,rfl⟩
theorem Zfw {t u : Tn} {s : List UInt8} {p : List (List UInt8)} (h : goT t (s :: p) = .ok u) : ∃ k,Za9 t s = .ok k ∧ goT k p = .ok u := by
 rw [goT] at h
 cases hs : Za9 t s with
 | error e => rw [hs] at h; cases h
 | ok k => rw [hs] at h; exact ⟨k,rfl,h⟩
theorem Zeu (t : Tn) : Zcf t = ent t :: Zcu t.kids := by unfold Zcf Zcu; rw [Zd5]; rfl
theorem Zj9 (l1 l2 : List Tn) (k : Tn) : Zcu (l1 ++ k :: l2) = Zcu l1 ++ (Zcf k ++ Zcu l2) := by
 unfold Zcu Zcf
 rw [Zgg,subL]; simp
theorem Z24 {α : Type} (e : α) (A L1 R L2 : List α) : (e :: (L1 ++ (A ++ (R ++ L2)))).Perm (A ++ (e :: (L1 ++ (L2 ++ R)))) :=
 (((List.perm_append_comm_assoc L1 A (R ++ L2)).trans ((List.perm_append_comm.append_left L1).append_left A)).cons e).trans List.perm_middle.symm
theorem Zod {t k k' : Tn} {l1 l2 : List Tn} (he : t.kids = l1 ++ k :: l2) (e1 : k'.nm = k.nm) (e2 : k'.no = k.no) : (Tn.mk t.nm t.no t.st t.data (l1 ++ k' :: l2)).names = t.names := by
 unfold Tn.names
 rw [he]
 show (l1 ++ k' :: l2).map _ = _
 rw [List.map_append,List.map_append,List.map_cons,List.map_cons,e1,e2]
section
variable {n : Nat} {f : Tn → Tn} {u : Tn}
theorem Ziz (hf : Ziy f u) : ∀ {p : List (List UInt8)} {t : Tn},(∀ v ∈ subT t,TnOk n v) → goT t p = .ok u → ∃ rest,(Zcf t).Perm (Zcf u ++ rest) ∧ (Zcf (updT p f t)).Perm (Zcf (f u) ++ rest)
 | [],t,_,h => by
  rw [goT] at h; injection h with h; subst h
  exact ⟨[],by simp,by rw [updT]; simp⟩
 | s :: p,t,ht,h => by
  obtain ⟨k,hs,hg⟩ := Zfw h
  obtain ⟨hk,hn,l1,l2,he,h1,h2⟩ := Zdg (ht t (Zdx t)) hs
  have hkm : k ∈ t.kids := by rw [he]; simp
  obtain ⟨rest,r1,r2⟩ := Ziz hf (fun v hv => ht v (Ze6 hkm hv)) hg
  obtain ⟨e1,e2⟩ := Zfn hf hg
  have hu := Ze4 (p := p) (f := f) he hn h1 h2
  have hent : ent (updT (s :: p) f t) = ent t := by
   rw [hu]
   show ((t.no,(⟨t.st,if t.st.kind = 1 then wrD (Tn.mk t.nm t.no t.st t.data (l1 ++ updT p f k :: l2)).names else t.data⟩ : Nd)) : Int × Nd) = _
   rw [Zod he e1 e2]; rfl
  refine ⟨ent t :: (Zcu l1 ++ (Zcu l2 ++ rest)),?_,?_⟩
  ·rw [Zeu t,he,Zj9]
   have : (Zcf k ++ Zcu l2).Perm (Zcf u ++ (rest ++ Zcu l2)) := by rw [← List.append_assoc]; exact r1.append_right _
   exact ((this.append_left (Zcu l1)).cons (ent t)).trans (Z24 _ _ _ _ _)
  ·rw [Zeu (updT (s :: p) f t),hent,hu]
   show (ent t :: Zcu (l1 ++ updT p f k :: l2)).Perm _
   rw [Zj9]
   have : (Zcf (updT p f k) ++ Zcu l2).Perm (Zcf (f u) ++ (rest ++ Zcu l2)) := by rw [← List.append_assoc]; exact r2.append_right _
   exact ((this.append_left (Zcu l1)).cons (ent t)).trans (Z24 _ _ _ _ _)
theorem Zrb (hf : Ziy f u) : ∀ {p : List (List UInt8)} {t : Tn},(∀ v ∈ subT t,TnOk n v) → goT t p = .ok u → (∀ v ∈ subT (f u),TnOk n v) → ∀ v ∈ subT (updT p f t),TnOk n v
 | [],t,_,h,hv => by rw [goT] at h; injection h with h; subst h; rw [updT]; exact hv
 | s :: p,t,ht,h,hfu => by
  obtain ⟨k,hs,hg⟩ := Zfw h
  have h0 := ht t (Zdx t)
  obtain ⟨hk,hn,l1,l2,he,h1,h2⟩ := Zdg h0 hs
  have hkm : k ∈ t.kids := by rw [he]; simp
  have ih := Zrb hf (fun v hv => ht v (Ze6 hkm hv)) hg hfu
  obtain ⟨e1,e2⟩ := Zfn hf hg
  rw [Ze4 (p := p) (f := f) he hn h1 h2]
  intro v hv
  rw [Zd5] at hv
  rcases List.mem_cons.1 hv with rfl | hv
  ·have hnames := Zod (k' := updT p f k) he e1 e2
   refine ⟨h0.chk,h0.low,fun q => ?_,?_,?_,fun q => absurd hk q⟩
   ·rw [hnames]; exact h0.dir q
   ·have := h0.rise
    rw [he] at this
    have h3 : ((l1 ++ k :: l2).map Tn.nm).Pairwise ltS := List.pairwise_map.2 this
    have h4 : ((l1 ++ updT p f k :: l2).map Tn.nm).Pairwise ltS := ?_
    ·exact List.pairwise_map.1 h4
    rw [List.map_append,List.map_cons] at h3 ⊢
    rw [e1]; exact h3
   ·intro x hx
    replace hx : x ∈ l1 ++ updT p f k :: l2 := hx
    simp only [List.mem_append,List.mem_cons] at hx
    rcases hx with hx | rfl | hx
    ·exact h0.nmk x (by rw [he]; simp [hx])
    ·rw [e1]; exact h0.nmk k hkm
    ·exact h0.nmk x (by rw [he]; simp [hx])
  ·replace hv : v ∈ subL (l1 ++ updT p f k :: l2) := hv
   rw [Zgg,subL] at hv
   rcases List.mem_append.1 hv with hv | hv
   ·obtain ⟨x,hx,hv⟩ := mem_subL.1 hv
    exact ht v (Ze6 (by rw [he]; simp [hx]) hv)
   ·rcases List.mem_append.1 hv with hv | hv
    ·exact ih v hv
    ·obtain ⟨x,hx,hv⟩ := mem_subL.1 hv
     exact ht v (Ze6 (by rw [he]; simp [hx]) hv)
theorem Zl6 (hf : Ziy f u) : ∀ {p : List (List UInt8)} {t : Tn},(∀ v ∈ subT t,TnOk n v) → goT t p = .ok u → hgtT (updT p f t) ≤ max (hgtT t) (p.length + hgtT (f u))
 | [],t,_,h => by rw [goT] at h; injection h with h; subst h; rw [updT]; simp only [List.length_nil]; omega
 | s :: p,t,ht,h => by
  obtain ⟨k,hs,hg⟩ := Zfw h
  obtain ⟨hk,hn,l1,l2,he,h1,h2⟩ := Zdg (ht t (Zdx t)) hs
  have hkm : k ∈ t.kids := by rw [he]; simp
  have ih := Zl6 hf (fun v hv => ht v (Ze6 hkm hv)) hg
  rw [Ze4 (p := p) (f := f) he hn h1 h2,Zd8 (Tn.mk _ _ _ _ _),Zd8 t,he]
  simp only [Tn.kids,Zj1,hgtL,List.length_cons]
  omega
end
theorem Zmt : ∀ {p : List (List UInt8)} {t u : Tn},goT t p = .ok u → p.length + hgtT u ≤ hgtT t
 | [],t,u,h => by rw [goT] at h; injection h with h; subst h; simp
 | s :: p,t,u,h => by
  obtain ⟨k,hs,hg⟩ := Zfw h
  have h1 := Zmt hg
  have h2 := Zi4 (Zhi hs).2.1
  rw [← Zd8] at h2
  simp only [List.length_cons]; omega
theorem Zvs {β : Type} {l m : List (Int × β)} (h : l.Perm m) (hn : (Zas l).Nodup) (k : Int) : getA k l = getA k m := by
 have hn' : (Zas m).Nodup := (h.map (fun x : Int × β => x.1)).nodup_iff.1 hn
 cases hq : getA k l with
 | none =>
  refine (getA_none.2 fun hm => getA_none.1 hq ?_).symm
  exact (h.map (fun x : Int × β => x.1)).mem_iff.2 hm
 | some v => exact (Zdq hn' (h.mem_iff.1 (Zi6 hq))).symm
theorem Zj6 {β : Type} {k : Int} {x : Int × β} {l : List (Int × β)} : getA k (x :: l) = if k = x.1 then some x.2 else getA k l := rfl
end Cr
namespace Cr
open Go

def addF (k u : Tn) : Tn := .mk u.nm u.no u.st u.data (insT k u.kids)
def rmF (s : List UInt8) (u : Tn) : Tn := .mk u.nm u.no u.st u.data (rmT s u.kids)
def datF (d : List UInt8) (u : Tn) : Tn := .mk u.nm u.no u.st d u.kids
theorem Zr1 (k u : Tn) : Ziy (addF k) u := ⟨rfl,rfl⟩
theorem Zr0 (s : List UInt8) (u : Tn) : Ziy (rmF s) u := ⟨rfl,rfl⟩
theorem Zzu (d : List UInt8) (u : Tn) : Ziy (datF d) u := ⟨rfl,rfl⟩
theorem Zln {l m : List Tn} (h : l.Perm m) : (Zcu l).Perm (Zcu m) := (Zn0 h).map ent
theorem Zlo (k : Tn) (l : List Tn) : Zcu (k :: l) = Zcf k ++ Zcu l := by unfold Zcu Zcf; rw [subL]; simp
theorem Zoy {k : Tn} (h : k.kids = []) : Zcf k = [ent k] := by rw [Zeu,h]; rfl
section
variable {n : Nat} {t u k : Tn} {p : List (List UInt8)} {s : List UInt8}
theorem Zib {L : List (Int × Nd)} (h : (Zcf t).Perm L) (hn : ((Zcf t).map (·.1)).Nodup) (no : Int) : Nt t no = getA no L := Zvs h hn no
theorem Nt_none {no : Int} : Nt t no = none ↔ no ∉ (Zcf t).map (·.1) := getA_none
/-! ### one more -/
theorem Zsu (ht : TreeOk n t) (hg : goT t p = .ok u) (hk : k.kids = []) : ∃ rest,(Zcf t).Perm (ent u :: rest) ∧ (Zcf (updT p (addF k) t)).Perm (ent k :: ent (addF k u) :: rest) := by
 obtain ⟨r,h1,h2⟩ := Ziz (Zr1 k u) ht.node hg
 rw [Zeu u] at h1
 refine ⟨Zcu u.kids ++ r,h1,h2.trans ?_⟩
 rw [Zeu (addF k u)]
 have h3 : (Zcu (insT k u.kids)).Perm (ent k :: Zcu u.kids) := by
  have := Zln (Zee k u.kids)
  rwa [Zlo,Zoy hk] at this
 exact ((h3.append_right r).cons (ent (addF k u))).trans (.swap _ _ _)
theorem Zpa (ht : TreeOk n t) (hg : goT t p = .ok u) (hk : k.kids = []) (hnew : Nt t k.no = none) : ((Zcf (updT p (addF k) t)).map (·.1)).Nodup := by
 obtain ⟨r,h1,h2⟩ := Zsu ht hg hk
 have k1 := (h1.map (fun x : Int × Nd => x.1)).nodup_iff.1 ht.nodup
 refine (h2.map (fun x : Int × Nd => x.1)).nodup_iff.2 ?_
 have hm : k.no ∉ (ent u :: r).map (fun x : Int × Nd => x.1) := fun h => Nt_none.1 hnew ((h1.map (fun x : Int × Nd => x.1)).mem_iff.2 h)
 exact List.nodup_cons.2 ⟨hm,k1⟩
theorem Z4w (ht : TreeOk n t) (hg : goT t p = .ok u) (hk : k.kids = []) (hnew : Nt t k.no = none) (no : Int) : Nt (updT p (addF k) t) no = if no = k.no then some k.nd else if no = u.no then some (addF k u).nd else Nt t no := by
 obtain ⟨r,h1,h2⟩ := Zsu ht hg hk
 rw [Zib h2 (Zpa ht hg hk hnew),Zib h1 ht.nodup]
 simp only [Zj6]
 show (if no = k.no then some k.nd else if no = (addF k u).no then some (addF k u).nd else getA no r) = if no = k.no then some k.nd else if no = u.no then some (addF k u).nd else if no = u.no then some u.nd else getA no r
 rw [show (addF k u).no = u.no from rfl]
 by_cases h : no = u.no <;> simp [h]
theorem Z16 (hu : u.st.kind = 1) : (addF k u).nd = ⟨u.st,wrD (insN (k.nm,k.no) u.names)⟩ := by
 unfold Tn.nd
 show (⟨u.st,if u.st.kind = 1 then wrD ((insT k u.kids).map fun k => (k.nm,k.no)) else u.data⟩ : Nd) = _
 rw [if_pos hu,Zh5]; rfl
theorem Zok {l : List Tn} (h : kidT s l = none) : ∀ x ∈ l,x.nm ≠ s := fun x hx => by
 have := List.find?_eq_none.1 h x hx
 simpa using this
theorem Z4k (ht : TreeOk n t) (hg : goT t p = .ok u) (hu : u.st.kind = 1) (hk : k.kids = []) (hko : TnOk n k) (hnew : Nt t k.no = none) (hnm : nameOk k.nm) (hkid : kidT k.nm u.kids = none) (h512 : (wrD (insN (k.nm,k.no) u.names)).length ≤ 512) (hp : p.length < 8) : TreeOk n (updT p (addF k) t) := by
 have hu0 := ht.node u (Zb6 hg)
 have hr := ht.root
 obtain ⟨e1,e2⟩ := Zfn (Zr1 k u) hg
 have hnames : (addF k u).names = insN (k.nm,k.no) u.names := Zh5 k u.kids
 refine ⟨Zrb (Zr1 k u) ht.node hg ?_,Zpa ht hg hk hnew,⟨e2.trans hr.1,?_⟩,?_,ht.small⟩
 ·intro v hv
  rw [Zd5] at hv
  rcases List.mem_cons.1 hv with rfl | hv
  ·refine ⟨hu0.chk,hu0.low,fun q => ⟨(hu0.dir hu).1,by rw [hnames]; exact h512⟩,Zop hu0.rise (Zok hkid),fun x hx => ?_,fun q => absurd hu q⟩
   rcases List.mem_cons.1 ((Zee k u.kids).mem_iff.1 hx) with rfl | hx
   ·exact hnm
   ·exact hu0.nmk x hx
  ·rcases List.mem_append.1 ((Zn0 (Zee k u.kids)).mem_iff.1 (show v ∈ subL (insT k u.kids) from hv) |> fun h => by rw [subL] at h; exact h) with hv | hv
   ·rw [Zd5,hk] at hv
    rcases List.mem_cons.1 hv with rfl | hv
    ·exact hko
    ·cases hv
   ·obtain ⟨x,hx,hv⟩ := mem_subL.1 hv
    exact ht.node v (Zdj (Zb6 hg) (Ze6 hx hv))
 ·cases p with
  | nil => rw [goT] at hg; injection hg with hg; subst hg; exact hr.2
  | cons s p =>
   obtain ⟨x,hs,hg'⟩ := Zfw hg
   obtain ⟨_,hn,l1,l2,he,h1,h2⟩ := Zdg (ht.node t (Zdx t)) hs
   rw [Ze4 (p := p) (f := addF k) he hn h1 h2]; exact hr.2
 ·have h1 := Zl6 (Zr1 k u) ht.node hg
  have h2 := Zmt hg
  have h3 : hgtT (addF k u) ≤ max 1 (hgtT u) := by
   rw [Zd8,Zd8 u]
   refine hgtL_le.2 fun x hx => ?_
   rcases List.mem_cons.1 ((Zee k u.kids).mem_iff.1 (show x ∈ insT k u.kids from hx)) with rfl | hx
   ·rw [Zd8,hk,hgtL]; omega
   ·have := Zi4 hx; omega
  have := ht.high
  omega
end
end Cr
namespace Cr
open Go Go.Proofs
set_option maxRecDepth 100000
set_option maxHeartbeats 8000000
attribute [local irreducible] Calls

def Zh6 (n : Nat) (N : Int → Option Nd) : Option Nat := (List.range n).find? fun (i : Nat) => (N (i : Int)).isNone
theorem Ztp {n : Nat} {N : Int → Option Nd} (h : ∀ (j : Nat),j < n → N j ≠ none) : Zh6 n N = none :=
 List.find?_eq_none.2 fun x hx => by simpa [Option.isNone_iff_eq_none] using h x (List.mem_range.1 hx)
theorem Zfx {n : Nat} {N : Int → Option Nd} {i : Nat} (hi : i < n) (h0 : N i = none) (h : ∀ (j : Nat),j < i → N j ≠ none) : Zh6 n N = some i := by
 unfold Zh6
 rw [List.find?_eq_some_iff_getElem]
 refine ⟨by simp [h0],i,by simpa using hi,by simp,fun j hj => ?_⟩
 have := h j hj
 cases hN : N (j : Int) with
 | none => exact absurd hN this
 | some y => simp [hN]
def Zjv (nd : Nd) : Int := if (nd.st.kind ≠ 0 ∧ nd.st.kind ≠ 1 ∧ nd.st.kind ≠ 2) ∨ (nd.st.kind = 1 ∧ nd.data ≠ []) then 17 else if nd.st.check ≠ 0 then nd.st.check else if 512 < nd.data.length then 2 else 0
theorem Z5f (nd : Nd) (a : Option Addr) (q : Nat) (W : World) :
  Calls Tryz.prog 98 #[.agg (List.toArray [.int .i64 nd.st.kind,.int .i64 nd.st.mode,.int .i64 nd.st.owner,.int .i64 nd.st.group,.slice a nd.data.length q])] W (Ret fun v w => v = .int .i64 (Zjv nd) ∧ St W noF [] w) := by
 have hS := St.start W
 have hck := fun W => Zqe nd.st W
 unfold StatM.val at hck
 obtain ⟨e,he⟩ : ∃ e,e = nd.st.check := ⟨_,rfl⟩
 unfold Zjv
 rw [← he] at hck ⊢
 by_cases h1 : nd.st.kind = 1
 ·by_cases hd : nd.data.length = 0
  ·have hd' : nd.data = [] := List.eq_nil_of_length_eq_zero hd
   rw [if_neg (by rintro (⟨_,h,_⟩ | ⟨_,h⟩); exact h h1; exact h hd')]
   by_cases h0 : e = 0
   ·subst h0
    refine Zab Tryz.func98 rfl Tryz.ntmps98 rfl ?_
    repeat (first|refine Yeu ?_|(refine X_id ?_;first|(refine Zae 161 rfl rfl rfl rfl rfl hS (hck _) ?_;rintro _ _ rfl hS)|refine Yaf ?_|refine Yag ?_|refine Yan ?_|refine Ya5 ?_|refine Ya4 ?_|refine Yav ?_|refine Ybi ?_|refine Ybl ?_|refine Ybd ?_|refine Ybu ?_|refine Yap ?_|refine Ybe ?_|refine Ya6 (fun _ _ hS _ => ?_))|refine Yeq ?_|refine Yab ?_|refine Yat ?_|refine Yam ?_)
    exact ⟨by simp [hd'],hS.drops⟩
   ·rw [if_pos h0]
    refine Zab Tryz.func98 rfl Tryz.ntmps98 rfl ?_
    repeat (first|refine Yeu ?_|(refine X_id ?_;first|(refine Zae 161 rfl rfl rfl rfl rfl hS (hck _) ?_;rintro _ _ rfl hS)|refine Yaf ?_|refine Yag ?_|refine Yan ?_|refine Ya5 ?_|refine Ya4 ?_|refine Yav ?_|refine Ybi ?_|refine Ybl ?_|refine Ybd ?_|refine Ybu ?_|refine Yap ?_|refine Ybe ?_|refine Ya6 (fun _ _ hS _ => ?_))|refine Yek ?_|refine Yel ?_)
    exact ⟨rfl,hS.drops⟩
  ·rw [if_pos (.inr ⟨h1,fun e => hd (by rw [e]; rfl)⟩)]
   refine Zab Tryz.func98 rfl Tryz.ntmps98 rfl ?_
   repeat (first|refine Yeu ?_|(refine X_id ?_;first|refine Yaf ?_|refine Yag ?_|refine Yan ?_|refine Ya5 ?_|refine Ya4 ?_|refine Yav ?_|refine Ybi ?_|refine Ybl ?_|refine Ybd ?_|refine Ybx ?_|refine Yap ?_|refine Ya6 (fun _ _ hS _ => ?_))|refine Yen ?_|refine Yel ?_)
   exact ⟨rfl,hS.drops⟩
 ·by_cases h02 : nd.st.kind = 0 ∨ nd.st.kind = 2
  ·rw [if_neg (by rintro (⟨h,_,h'⟩ | ⟨h,_⟩); rcases h02 with q | q; exact h q; exact h' q; exact h1 h)]
   have hor : nd.st.kind ≠ 0 → nd.st.kind = 2 := fun h => h02.resolve_left h
   by_cases hk0 : nd.st.kind = 0
   case' neg => have hk2 := hor hk0
   all_goals
    by_cases h0 : e = 0
    ·subst h0
     by_cases h5 : 512 < nd.data.length
     ·refine Zab Tryz.func98 rfl Tryz.ntmps98 rfl ?_
      repeat (first|refine Yeu ?_|(refine X_id ?_;first|(refine Zae 161 rfl rfl rfl rfl rfl hS (hck _) ?_;rintro _ _ rfl hS)|refine Yaf ?_|refine Yag ?_|refine Yan ?_|refine Ya5 ?_|refine Ya4 ?_|refine Yav ?_|refine Ybh ?_|refine Ybl ?_|refine Ybd ?_|refine Ybx ?_|refine Yap ?_|refine Ybe ?_|refine Ya6 (fun _ _ hS _ => ?_))|refine Yek ?_|refine Yel ?_)
      exact ⟨by simp [h5],hS.drops⟩
     ·refine Zab Tryz.func98 rfl Tryz.ntmps98 rfl ?_
      repeat (first|refine Yeu ?_|(refine X_id ?_;first|(refine Zae 161 rfl rfl rfl rfl rfl hS (hck _) ?_;rintro _ _ rfl hS)|refine Yaf ?_|refine Yag ?_|refine Yan ?_|refine Ya5 ?_|refine Ya4 ?_|refine Yav ?_|refine Ybh ?_|refine Ybl ?_|refine Ybd ?_|refine Ybu ?_|refine Yap ?_|refine Ybe ?_|refine Ya6 (fun _ _ hS _ => ?_))|refine Yeq ?_|refine Yab ?_|refine Yat ?_|refine Yam ?_)
      exact ⟨by simp [h5],hS.drops⟩
    ·rw [if_pos h0]
     refine Zab Tryz.func98 rfl Tryz.ntmps98 rfl ?_
     repeat (first|refine Yeu ?_|(refine X_id ?_;first|(refine Zae 161 rfl rfl rfl rfl rfl hS (hck _) ?_;rintro _ _ rfl hS)|refine Yaf ?_|refine Yag ?_|refine Yan ?_|refine Ya5 ?_|refine Ya4 ?_|refine Ybh ?_|refine Ybl ?_|refine Ybd ?_|refine Yap ?_|refine Ybe ?_|refine Ya6 (fun _ _ hS _ => ?_))|refine Yek ?_|refine Yel ?_)
     exact ⟨rfl,hS.drops⟩
  ·have hk0 : ¬ nd.st.kind = 0 := fun h => h02 (.inl h)
   have hk2 : ¬ nd.st.kind = 2 := fun h => h02 (.inr h)
   rw [if_pos (.inl ⟨hk0,h1,hk2⟩)]
   refine Zab Tryz.func98 rfl Tryz.ntmps98 rfl ?_
   repeat (first|refine Yac ?_|refine Yaa ?_|refine Yaw ?_|refine Ybg ?_|refine Yc1 ?_|(refine X_id ?_;first|refine Yaf ?_|refine Yag ?_|refine Yan ?_|refine Ya5 ?_|refine Ybl ?_|refine Yap ?_|refine Ya6 (fun _ _ hS _ => ?_))|refine Yen ?_|refine Yel ?_)
   exact ⟨rfl,hS.drops⟩
section
variable {c f tp n : Nat} {b : Int} {T N : Int → Option Nd} {X : List RowD}
theorem Z4c (hn : n ≤ 1048576) (W : World) (F : Nat → Prop) (hT : TreeRo W F f tp n b T) (hS : St W F [chR c f b T N X] W) :
  Calls Tryz.prog 101 #[.pointer (some ⟨c,0,none⟩)] W (Ret fun v w => ∃ X',(∀ x ∈ X,x ∈ X') ∧ St W F [chR c f b T N X'] w ∧ v = match Zh6 n N with
   | some i => .tuple #[.int .i64 (i : Nat),.bool true]
   | none => .tuple #[.int .i64 0,.bool false]) := by
 obtain ⟨P,D,pm,dm,hq,hS⟩ := hS.openCh
 have hc := hT.blk
 refine Zab Tryz.func101 rfl Tryz.ntmps101 rfl ?_
 repeat (first|refine Yd0 ?_|(refine X_id ?_;first|refine Yaf ?_|refine Yag ?_|refine Yau ?_|refine Yan ?_|refine Yap ?_|refine Yca ?_)|refine Yd1 ?_|refine Yab ?_)
 refine Zaa _ rfl rfl rfl rfl rfl (hT.tab.nodes _ (fun r h => h.rd hS)) ?_
 rintro _ _ ⟨rfl,rfl⟩
 replace hS := hS.shutCh hq
 clear hc
 repeat (first|refine Yd0 ?_|refine Yaf ?_|refine Yal ?_|refine Yab ?_)
 refine Zak (α := Nat) (fun i => [(0,.pointer (some ⟨c,0,none⟩)),(14,.int .i64 (n : Nat)),(15,.int .i64 (i : Nat))])
  (fun i w => i ≤ n ∧ (∀ j : Nat,j < i → N j ≠ none) ∧ ∃ X',(∀ x ∈ X,x ∈ X') ∧ St W F [chR c f b T N X'] w) (fun i => n - i) 0 ⟨rfl,rfl,rfl,trivial⟩ ⟨Nat.zero_le _,fun j hj => absurd hj (by omega),X,fun _ h => h,hS⟩ ?_
 clear hS
 rintro i w ⟨hi,hne,X',hX',hS⟩
 by_cases hlt : i < n
 ·repeat (first|refine Yd0 ?_|refine Yaf ?_|refine Yag ?_|refine Ya2 ?_|refine Yd4 ?_|refine Yab ?_)
  obtain ⟨_,hc,_,hw,hbk⟩ := hS.call [true]
  refine Zaa _ rfl rfl rfl rfl rfl (Z1c (i : Nat) _ _ (hT.mono hw) hc) ?_
  rintro v w ⟨X2,hX2,hS,nd,a',q',rfl,hy⟩
  replace hS := hbk hS
  clear hbk hw hc
  cases hN : N (i : Int) with
  | none =>
   simp only [Option.isSome_none]
   rw [Zfx hlt hN hne]
   repeat (first|refine Yd0 ?_|(refine X_id ?_;first|refine Yaf ?_|refine Yag ?_|refine Ya1 ?_|refine Ybo ?_|refine Yao (fun _ hS _ => ?_)|refine Yar (fun _ _ hS _ => ?_))|refine Yeh ?_|refine Ye3 ?_)
   exact ⟨X2,fun x hx => hX2 x (hX' x hx),hS.took,rfl⟩
  | some y =>
   simp only [Option.isSome_some]
   repeat (first|refine Yd0 ?_|(refine X_id ?_;first|refine Yaf ?_|refine Yag ?_|refine Ya1 ?_|refine Ybb ?_|refine Yax ?_|refine Yao (fun _ hS _ => ?_)|refine Yar (fun _ _ hS _ => ?_))|refine Yeb ?_|refine Yd8 ?_)
   exact Zaf (i + 1) ⟨rfl,rfl,rfl,trivial⟩ ⟨hlt,fun j hj => by
    by_cases hji : j = i
    ·subst hji; rw [hN]; simp
    ·exact hne j (by omega),X2,fun x hx => hX2 x (hX' x hx),hS.took⟩ (by omega)
 ·obtain rfl : i = n := by omega
  rw [Ztp hne]
  repeat (first|refine Yd0 ?_|refine Yag ?_|refine Ya3 ?_|refine Yd9 ?_|refine Yab ?_|refine Ya9 ?_|refine Yba ?_|refine Ybv ?_)
  exact ⟨X',hX',hS,rfl⟩
theorem Zzs (no : Int) (nd : Nd) (a : Option Addr) (q : Nat) (nb : Option Addr) (l : List Nm) (nc : Nat) (s : List UInt8) (W : World) (F : Nat → Prop) (hG : Lg W F) (hl : RX X nb (nmV l)) (hok : NmOk l) (hS : St W F [chR c f b T N X] W) :
  Calls Tryz.prog 107 #[.pointer (some ⟨c,0,none⟩),.agg (List.toArray [.int .i64 no,.int .i64 nd.st.kind,.int .i64 nd.st.mode,.int .i64 nd.st.owner,.int .i64 nd.st.group,.slice a nd.data.length q]),.slice nb l.length nc,.string (str s)] W (Ret fun v w =>
   v = .tuple #[] ∧ ∃ X',(∀ x ∈ X,x ∈ X') ∧ St W F [chR c f b T (fun k => if k = no then some ⟨nd.st,wrD (rmN s l)⟩ else N k) X'] w) := by
 have hok2 : NmOk (rmN s l) := Z2y hok
 have hll := hok.1
 refine Zab Tryz.func107 rfl Tryz.ntmps107 rfl ?_
 repeat (first|refine Yd0 ?_|refine Yaf ?_|refine Ya6 (fun _ _ hS _ => ?_)|refine Yd1 ?_|refine Yab ?_)
 refine Zaa _ rfl rfl rfl rfl rfl (Zvb nb l nc _ (hl.rd (hS.rd (r := chR c f b T N X) (by simp)).ch) (by omega)) ?_
 rintro _ w ⟨a',c',rfl,hc',hS'⟩
 replace hS := hS.plus hS'
 clear hS'
 repeat (first|refine Yaa ?_|refine Yci ?_)
 obtain ⟨_,hc,hr,hw,hbk⟩ := hS.call [true,false,false,false]
 refine Zaa _ rfl rfl rfl rfl rfl (Zv7 a' c' l _ s _ _ _ _ hc' (by omega) (hr _ (List.mem_cons_self ..)) hc) ?_
 rintro _ w ⟨a2,c2,rfl,hc2,hS⟩
 replace hS := hbk hS
 clear hbk hw hc hr
 generalize rmN s l = l2 at hS hok2 hc2 ⊢
 repeat (first|refine Yd0 ?_|refine Yag ?_|refine Yab ?_)
 refine Zao (.s 0 (.s 1 (.s 2 (.s 3 (.s 4 (.s 5 (.s 6 (.h 7 (.s 8 (.h 9 .nil .no)) .no)))))))) mixed (by kernel_rfl) rfl ?_
 have hS := hS.drew
 repeat (first|(refine Zad ?_;first|refine Ya0 ?_|refine Ybj ?_|refine Yb3 ?_|refine Ybm ?_|refine Yb1 ?_|refine Yas ?_))
 refine Zaa _ rfl rfl rfl rfl rfl (Zjh a2 l2 c2 _ (hS.rd (List.mem_cons_self ..)).own_row.ro hok2 (hG.at_ hS)) ?_
 rintro _ w ⟨b3,q3,rfl,hq3,hS'⟩
 replace hS := hS.plus hS'
 clear hS'
 have hwl := Zpu hok2
 repeat (first|(refine Zad ?_;first|refine Ycb ?_|refine Yas ?_)|(refine Zac ?_;first|refine Yaz ?_))
 obtain ⟨_,hc,hr,hw,hbk⟩ := hS.call [false,false,false,false,true]
 refine Zaa _ rfl rfl rfl rfl rfl (set_ no ⟨nd.st,wrD l2⟩ b3 q3 _ _ (.inl (hr _ (List.mem_cons_self ..)).own_row) (by simp only; omega) hc) ?_
 rintro _ w ⟨rfl,X',hX',hS⟩
 replace hS := hbk hS
 clear hbk hw hc hr
 repeat (first|refine Ybs ?_|(refine Zad ?_;first|refine Yay ?_)|(refine Zac ?_;first|refine Yaz ?_))
 exact ⟨rfl,X',hX',hS.took⟩
end
end Cr
namespace Cr
open Go Go.Proofs
set_option maxRecDepth 100000
set_option maxHeartbeats 8000000
attribute [local irreducible] Calls

def Zbs (n : Nat) (t : Tn) (nd : Nd) (p : List (List UInt8)) : Int × Tn :=
 if ¬ Zbh p ∨ p = [] then (10,t) else
 if Zjv nd ≠ 0 then (Zjv nd,t) else
 match Zc7 t p with
 | .error e => (e,t)
 | .ok x => if (kidT x.2 x.1.kids).isSome = true then (8,t) else
  match Zh6 n (Nt t) with
  | none => (6,t)
  | some i => if 512 < (wrD (insN (x.2,(i : Int)) x.1.names)).length then (6,t) else (0,updT p.dropLast (addF (.mk x.2 i nd.st nd.data [])) t)
theorem Zfu {t u : Tn} {p : List (List UInt8)} {s : List UInt8} (h : Zc7 t p = .ok (u,s)) : Zbh p ∧ goT t p.dropLast = .ok u ∧ u.st.kind = 1 ∧ p = p.dropLast ++ [s] ∧ nameOk s := by
 unfold Zc7 at h
 split at h
 ·rename_i hr
  split at h
  ·cases h
  ·rename_i s' hs'
   split at h
   ·cases h
   ·rename_i u' hu'
    split at h
    ·rename_i hk
     simp only [Except.ok.injEq,Prod.mk.injEq] at h
     obtain ⟨rfl,rfl⟩ := h
     have hne : p ≠ [] := fun e => by rw [e] at hs'; cases hs'
     have hp : p = p.dropLast ++ [s'] := by
      have := List.dropLast_concat_getLast hne
      rw [List.getLast?_eq_some_getLast hne] at hs'
      injection hs' with hs'
      rw [hs'] at this; exact this.symm
     exact ⟨hr,hu',hk,hp,hr.2 s' (List.mem_of_getLast? hs')⟩
    ·cases h
 ·cases h
theorem Zll {n i : Nat} {N : Int → Option Nd} (h : Zh6 n N = some i) : i < n ∧ N i = none := by
 unfold Zh6 at h
 have h1 := List.mem_of_find?_eq_some h
 have h2 := List.find?_some h
 exact ⟨List.mem_range.1 h1,by simpa [Option.isNone_iff_eq_none] using h2⟩
theorem Zlf {nd : Nd} (h : Zjv nd = 0) : (nd.st.kind = 0 ∨ nd.st.kind = 1 ∨ nd.st.kind = 2) ∧ (nd.st.kind = 1 → nd.data = []) ∧ nd.st.check = 0 ∧ nd.data.length ≤ 512 := by
 unfold Zjv at h
 split at h
 ·cases h
 ·rename_i h1
  split at h
  ·exact absurd h (by assumption)
  ·rename_i h2
   split at h
   ·cases h
   ·rename_i h3
    refine ⟨?_,fun q => Decidable.byContradiction fun q2 => h1 (.inr ⟨q,q2⟩),Decidable.not_not.1 h2,by omega⟩
    have := fun q => h1 (.inl q)
    omega
theorem kidT_ix {u : Tn} {s : List UInt8} : 0 ≤ ixN s u.names ↔ (kidT s u.kids).isSome = true := by
 have hf := Zle u s
 rcases Zhg (s := s) (l := u.names) with ⟨h1,h2⟩ | ⟨k,x,h1,_,h3⟩
 ·rw [h2] at hf
  have : kidT s u.kids = none := by cases hq : kidT s u.kids with | none => rfl | some y => rw [hq] at hf; cases hf
  rw [this]; simp; omega
 ·rw [h3] at hf
  have : (kidT s u.kids).isSome = true := by cases hq : kidT s u.kids with | none => rw [hq] at hf; cases hf | some y => rfl
  rw [this]; simp; omega
theorem Zpt : wrD [] = [40,41] := by simp [wrD,dirM,Zbt,Zaw]
theorem Z3c {n i : Nat} {nd : Nd} {s : List UInt8} (hm : Zjv nd = 0) (hi : i < n) : TnOk n (.mk s i nd.st nd.data []) := by
 obtain ⟨h1,h2,h3,h4⟩ := Zlf hm
 refine ⟨h3,⟨Int.natCast_nonneg i,by show (i : Int) < n; omega⟩,fun q => ⟨h2 q,?_⟩,List.Pairwise.nil,fun _ h => (by cases h),fun _ => ⟨rfl,h4⟩⟩
 show (wrD []).length ≤ 512
 rw [Zpt]; decide
section
variable {n : Nat} {t : Tn}
theorem Zrt (ht : TreeOk n t) (nd : Nd) (p : List (List UInt8)) : TreeOk n (Zbs n t nd p).2 := by
 unfold Zbs
 split
 ·exact ht
 ·split
  ·exact ht
  ·rename_i hm
   replace hm := Decidable.not_not.1 hm
   cases hl : Zc7 t p with
   | error e => exact ht
   | ok x =>
    obtain ⟨u,s⟩ := x
    obtain ⟨hr,hg,hu,hp,hs⟩ := Zfu hl
    simp only
    split
    ·exact ht
    ·rename_i hkid
     have hkid' : kidT s u.kids = none := by cases hq : kidT s u.kids with | none => rfl | some y => rw [hq] at hkid; exact absurd rfl hkid
     cases hf : Zh6 n (Nt t) with
     | none => exact ht
     | some i =>
      obtain ⟨hi,hnew⟩ := Zll hf
      simp only
      split
      ·exact ht
      ·rename_i h5
       have hpl : p.dropLast.length < 8 := by
        have h8 := hr.1
        have := congrArg List.length hp
        rw [List.length_append,List.length_singleton] at this; omega
       exact Z4k ht hg hu rfl (Z3c hm hi) hnew hs hkid' (by simp only [Tn.nm,Tn.no] at h5 ⊢; omega) hpl
end
section
variable {c f tp n : Nat} {b : Int} {T : Int → Option Nd} {t : Tn} {X : List RowD}
theorem Z39 (ht : TreeOk n t) (nd : Nd) (a : Option Addr) (q : Nat) (pa : Option Addr) (p : List (List UInt8)) (pc : Nat) (W : World) (F : Nat → Prop) (hT : TreeRo W F f tp n b T) (hG : Lg W F) (ha : Ro W F (bytes a nd.data)) (hp : Ro W F (row pa (strV p))) (hpc : p.length ≤ pc) (hpl : p.length ≤ 1048576) (hS : St W F [chR c f b T (Nt t) X] W) :
  Calls Tryz.prog 51 #[.pointer (some ⟨c,0,none⟩),.agg (List.toArray [.int .i64 nd.st.kind,.int .i64 nd.st.mode,.int .i64 nd.st.owner,.int .i64 nd.st.group,.slice a nd.data.length q]),.slice pa p.length pc] W (Ret fun v w => ∃ X',(∀ x ∈ X,x ∈ X') ∧ v = .int .i64 (Zbs n t nd p).1 ∧ St W F [chR c f b T (Nt (Zbs n t nd p).2) X'] w) := by
 unfold Zbs
 refine Zab Tryz.func51 rfl Tryz.ntmps51 rfl ?_
 repeat (first|refine Yd0 ?_|refine Yaf ?_|refine Yag ?_|refine Ybr ?_|refine Ya6 (fun _ _ hS _ => ?_)|refine Yeb ?_|refine Yab ?_)
 refine Zaa _ rfl rfl rfl rfl rfl (Zzl pa p pc _ (hp.rd hS) hpc hpl) ?_
 rintro _ w (⟨hr,q0,s0,a',c',hpq,rfl,hc',hS'⟩ | ⟨hbad,rfl,hS'⟩)
 case inr =>
  replace hS := hS.plus hS'
  clear hS'
  rw [if_pos hbad]
  repeat (first|refine Yd0 ?_|refine Yaf ?_|refine Yag ?_|refine Ya1 ?_|refine Ybl ?_|refine Yeh ?_|refine Yei ?_)
  exact ⟨X,fun _ h => h,rfl,hS.took⟩
 replace hS := hS.plus hS'
 clear hS'
 rw [if_neg (by rintro (h | h); exact h hr; rw [h] at hpq; simp at hpq)]
 obtain ⟨e,he⟩ : ∃ e,e = Zjv nd := ⟨_,rfl⟩
 have hmd := fun W => Z5f nd a q W
 rw [← he] at hmd ⊢
 by_cases h0 : e = 0
 case neg =>
  rw [if_pos h0]
  repeat (first|refine Yd0 ?_|(refine X_id ?_;first|(refine Zae 98 rfl rfl rfl rfl rfl hS (hmd _) ?_;rintro _ _ rfl hS)|refine Yaf ?_|refine Yag ?_|refine Ya1 ?_|refine Ybl ?_|refine Ybd ?_|refine Ybe ?_)|refine Ye4 ?_|refine Yei ?_)
  exact ⟨X,fun _ h => h,rfl,hS.took⟩
 subst h0
 rw [if_neg (by simp)]
 obtain ⟨hmk,hmd1,hmc,hm5⟩ := Zlf he.symm
 repeat (first|refine Yd0 ?_|(refine X_id ?_;first|(refine Zae 98 rfl rfl rfl rfl rfl hS (hmd _) ?_;rintro _ _ rfl hS)|refine Yaf ?_|refine Yag ?_|refine Ya1 ?_|refine Ybd ?_|refine Ybe ?_)|refine Yeb ?_|refine Yab ?_)
 obtain ⟨_,hc,_,hw,hbk⟩ := hS.call [false,false,true]
 refine Zaa _ rfl rfl rfl rfl rfl (Z3j ht pa p pc _ _ (hT.mono hw) (hG.mono hw) (hw _ hp) hpc hpl hc) ?_
 rintro v w ⟨X1,hX1,hS,hv⟩
 replace hS := hbk hS
 clear hbk hw hc
 cases hl : Zc7 t p with
 | error e =>
  rw [hl] at hv
  obtain ⟨he0,no',nd',a',q',b',m',k',s',rfl⟩ := hv
  simp only
  repeat (first|refine Yd0 ?_|(refine X_id ?_;first|refine Yaf ?_|refine Yag ?_|refine Ya1 ?_|refine Ybl ?_|refine Yao (fun _ hS _ => ?_)|refine Yar (fun _ _ hS _ => ?_))|refine Yen ?_|refine Yel ?_)
  exact ⟨X1,hX1,rfl,hS.took⟩
 | ok x =>
  obtain ⟨u,s⟩ := x
  rw [hl] at hv
  obtain ⟨a2,q2,nb,nc,rfl,hq2,hrow,hnrow⟩ := hv
  obtain ⟨_,hg,hk,hpd,hs⟩ := Zfu hl
  have hu := Zb6 hg
  have hnok := (ht.rd hu hk).1
  have hn5 := ((ht.node u hu).dir hk).2
  have hnl : u.names.length ≤ 1023 := by
   have hge := Zi7 (m := 7) (l := u.names.map Zeh) fun x hx => by
    obtain ⟨y,_,rfl⟩ := List.mem_map.1 hx
    exact Zkd y 6
   rw [wrD,dirM,Zbt] at hn5
   simp only [List.length_map,List.length_cons,List.length_append,List.length_nil] at hge hn5
   omega
  simp only at hq2 hrow hnrow ⊢
  repeat (first|refine Yd0 ?_|(refine X_id ?_;first|refine Yaf ?_|refine Yag ?_|refine Ya1 ?_|refine Ybd ?_|refine Yao (fun _ hS _ => ?_)|refine Yar (fun _ _ hS _ => ?_))|refine Yem ?_|refine Yab ?_)
  refine Zaa _ rfl rfl rfl rfl rfl (Z3x nb u.names nc s _ (hnrow.rd (hS.rd (r := chR c f b T (Nt t) X1) (by simp)).ch) (by omega)) ?_
  rintro _ w ⟨rfl,hS'⟩
  replace hS := hS.plus hS'
  clear hS'
  by_cases hix : 0 ≤ ixN s u.names
  ·rw [if_pos (kidT_ix.1 hix)]
   repeat (first|refine Yd0 ?_|refine Yag ?_|refine Yb7 ?_|refine Yeh ?_|refine Yel ?_)
   exact ⟨X1,hX1,rfl,hS.took⟩
  have hix' : ixN s u.names < 0 := by omega
  rw [if_neg (fun h => hix (kidT_ix.2 h))]
  have hkid : kidT s u.kids = none := by
   cases hq : kidT s u.kids with
   | none => rfl
   | some y => exact absurd (kidT_ix.2 (by rw [hq]; rfl)) hix
  repeat (first|refine Yd0 ?_|refine Yaf ?_|refine Yag ?_|refine Yb9 ?_|refine Yeb ?_|refine Yd8 ?_)
  obtain ⟨_,hc,_,hw,hbk⟩ := hS.call [false,true]
  refine Zaa _ rfl rfl rfl rfl rfl (Z4c (by have := ht.small; omega) _ _ (hT.mono hw) hc) ?_
  rintro v w ⟨X2,hX2,hS,hv⟩
  replace hS := hbk hS
  clear hbk hw hc
  subst hv
  cases hf : Zh6 n (Nt t) with
  | none =>
   simp only
   repeat (first|refine Yej ?_|(refine X_id ?_;first|refine Yaf ?_|refine Yag ?_|refine Ya1 ?_|refine Ya5 ?_|refine Ybo ?_)|refine Yeh ?_|refine Yei ?_)
   exact ⟨X2,fun x hx => hX2 x (hX1 x hx),rfl,hS.took⟩
  | some i =>
   obtain ⟨hi,hnew⟩ := Zll hf
   have hsl : s.length ≤ 64 := by have := hs.2.1; omega
   simp only
   repeat (first|refine Yeg ?_|(refine X_id ?_;first|refine Yaf ?_|refine Yag ?_|refine Ya1 ?_|refine Ybb ?_|refine Ybe ?_)|refine Yd1 ?_|refine Yab ?_)
   obtain ⟨_,hc,_,hw,hbk⟩ := hS.call [true]
   refine Zaa _ rfl rfl rfl rfl rfl (Z3z u.no u.nd a2 q2 nb u.names nc s (i : Nat) _ _ (hG.mono hw) (hnrow.sub hX2) hnok (by omega) ⟨hsl,by omega,by have := ht.small; omega⟩ (Ztj (ht.node u hu)) hc) ?_
   rintro v w ⟨X3,hX3,(⟨h5,rfl,hS⟩ | ⟨h5,rfl,hS⟩)⟩
   ·replace hS := hbk hS
    clear hbk hw hc
    rw [if_pos h5]
    repeat (first|refine Yeg ?_|refine Yag ?_|refine Ya4 ?_|refine Ybo ?_|refine Yeh ?_|refine Yei ?_)
    exact ⟨X3,fun x hx => hX3 x (hX2 x (hX1 x hx)),rfl,hS.took⟩
   ·replace hS := hbk hS
    clear hbk hw hc
    rw [if_neg (by omega)]
    have hNt : (fun k => if k = (i : Int) then some (Tn.mk s i nd.st nd.data []).nd else if k = u.no then some (⟨u.nd.st,wrD (insN (s,(i : Int)) u.names)⟩ : Nd) else Nt t k) = Nt (updT p.dropLast (addF (.mk s i nd.st nd.data [])) t) := by
     funext x
     rw [Z4w (k := .mk s i nd.st nd.data []) ht hg rfl hnew,Z16 hk]
     rfl
    by_cases hdir : nd.st.kind = 1
    ·have hknd : (Tn.mk s i nd.st nd.data []).nd = ⟨nd.st,wrD []⟩ := by
      show (⟨nd.st,if nd.st.kind = 1 then wrD [] else nd.data⟩ : Nd) = _
      rw [if_pos hdir]
     rw [hknd] at hNt
     repeat (first|refine Yeg ?_|(refine X_id ?_;first|refine Yan ?_|refine Ya4 ?_|refine Ybb ?_|refine Ybi ?_|refine Yap ?_)|refine Yet ?_|refine Yab ?_)
     refine Zaa _ rfl rfl rfl rfl rfl (Zjh none [] 0 _ (Zge _ _ _) ⟨by decide,fun _ h => (by cases h)⟩ (hG.at_ hS)) ?_
     rintro _ w ⟨b3,q3,rfl,hq3,hS'⟩
     replace hS := hS.plus hS'
     clear hS'
     repeat (first|refine Yd0 ?_|refine Yaf ?_|refine Yan ?_|refine Ybe ?_|refine Yao (fun _ hS _ => ?_)|refine Yd1 ?_|refine Yab ?_)
     obtain ⟨_,hc,hr,hw,hbk⟩ := hS.call [false,true]
     refine Zaa _ rfl rfl rfl rfl rfl (set_ (i : Nat) ⟨nd.st,wrD []⟩ b3 q3 _ _ (.inl (hr _ (List.mem_cons_self ..)).own_row) (by simp only [Zpt]; decide) hc) ?_
     rintro _ w ⟨rfl,X4,hX4,hS⟩
     replace hS := hbk hS
     clear hbk hw hc hr
     rw [hNt] at hS
     repeat (first|refine Yd0 ?_|refine Yag ?_|refine Yed ?_|refine Yd2 ?_)
     exact ⟨X4,fun x hx => hX4 x (hX3 x (hX2 x (hX1 x hx))),rfl,hS.took⟩
    ·have hknd : (Tn.mk s i nd.st nd.data []).nd = nd := by
      show (⟨nd.st,if nd.st.kind = 1 then wrD [] else nd.data⟩ : Nd) = _
      rw [if_neg hdir]
     rw [hknd] at hNt
     repeat (first|refine Yeg ?_|(refine X_id ?_;first|refine Yaf ?_|refine Yan ?_|refine Ya4 ?_|refine Ybb ?_|refine Ybh ?_|refine Yap ?_|refine Ybe ?_)|refine Yeb ?_|refine Yab ?_)
     obtain ⟨_,hc,_,hw,hbk⟩ := hS.call [true]
     refine Zaa _ rfl rfl rfl rfl rfl (set_ (i : Nat) nd a q _ _ (.inl (hw _ ha)) (by omega) hc) ?_
     rintro _ w ⟨rfl,X4,hX4,hS⟩
     replace hS := hbk hS
     clear hbk hw hc
     rw [hNt] at hS
     repeat (first|refine Yd0 ?_|refine Yag ?_|refine Yed ?_|refine Yd2 ?_)
     exact ⟨X4,fun x hx => hX4 x (hX3 x (hX2 x (hX1 x hx))),rfl,hS.took⟩
end
end Cr
namespace Cr
open Go

section
variable {n : Nat} {t u k : Tn} {p : List (List UInt8)} {s : List UInt8}
/-! ### one node otherwise -/
theorem Zn2 {f : Tn → Tn} (ht : TreeOk n t) (hg : goT t p = .ok u) (hf : Ziy f u) (hk : (f u).kids = u.kids) : ∃ rest,(Zcf t).Perm (ent u :: rest) ∧ (Zcf (updT p f t)).Perm (ent (f u) :: rest) := by
 obtain ⟨r,h1,h2⟩ := Ziz hf ht.node hg
 rw [Zeu u] at h1
 rw [Zeu (f u),hk] at h2
 exact ⟨Zcu u.kids ++ r,h1,h2⟩
theorem Zk8 {f : Tn → Tn} (ht : TreeOk n t) (hg : goT t p = .ok u) (hf : Ziy f u) (hk : (f u).kids = u.kids) : ((Zcf (updT p f t)).map (·.1)).Nodup := by
 obtain ⟨r,h1,h2⟩ := Zn2 ht hg hf hk
 have k1 := (h1.map (fun x : Int × Nd => x.1)).nodup_iff.1 ht.nodup
 refine (h2.map (fun x : Int × Nd => x.1)).nodup_iff.2 ?_
 rw [List.map_cons] at k1 ⊢
 rw [show (ent (f u)).1 = (ent u).1 from hf.2]; exact k1
theorem Z2a {f : Tn → Tn} (ht : TreeOk n t) (hg : goT t p = .ok u) (hf : Ziy f u) (hk : (f u).kids = u.kids) (no : Int) : Nt (updT p f t) no = if no = u.no then some (f u).nd else Nt t no := by
 obtain ⟨r,h1,h2⟩ := Zn2 ht hg hf hk
 rw [Zib h2 (Zk8 ht hg hf hk),Zib h1 ht.nodup]
 simp only [Zj6]
 show (if no = (f u).no then some (f u).nd else getA no r) = if no = u.no then some (f u).nd else if no = u.no then some u.nd else getA no r
 rw [hf.2]
 by_cases h : no = u.no <;> simp [h]
theorem Zn6 {f : Tn → Tn} (ht : TreeOk n t) (hg : goT t p = .ok u) (hf : Ziy f u) (hk : (f u).st.kind = u.st.kind) : (updT p f t).no = 0 ∧ (updT p f t).st.kind = 1 := by
 have hr := ht.root
 refine ⟨(Zfn hf hg).2.trans hr.1,?_⟩
 cases p with
 | nil => rw [goT] at hg; injection hg with hg; subst hg; rw [updT,hk]; exact hr.2
 | cons s p =>
  obtain ⟨x,hs,hg'⟩ := Zfw hg
  obtain ⟨_,hn,l1,l2,he,h1,h2⟩ := Zdg (ht.node t (Zdx t)) hs
  rw [Ze4 (p := p) (f := f) he hn h1 h2]; exact hr.2
theorem Z0w {f : Tn → Tn} (ht : TreeOk n t) (hg : goT t p = .ok u) (hf : Ziy f u) (hk : (f u).kids = u.kids) (hst : (f u).st.kind = u.st.kind) (hok : TnOk n (f u)) : TreeOk n (updT p f t) := by
 refine ⟨Zrb hf ht.node hg fun v hv => ?_,Zk8 ht hg hf hk,Zn6 ht hg hf hst,?_,ht.small⟩
 ·rw [Zd5,hk] at hv
  rcases List.mem_cons.1 hv with rfl | hv
  ·exact hok
  ·exact ht.node v (Zdj (Zb6 hg) (by rw [Zd5]; exact List.mem_cons_of_mem _ hv))
 ·have h1 := Zl6 hf ht.node hg
  have h2 := Zmt hg
  have h3 : hgtT (f u) = hgtT u := by rw [Zd8,Zd8 u,hk]
  have := ht.high
  omega
theorem Zv9 {d : List UInt8} (hu : u.st.kind ≠ 1) : (datF d u).nd = ⟨u.st,d⟩ := by
 show (⟨u.st,if u.st.kind = 1 then _ else d⟩ : Nd) = _
 rw [if_neg hu]
theorem Z35 {d : List UInt8} (ht : TreeOk n t) (hg : goT t p = .ok u) (hu : u.st.kind ≠ 1) (hd : d.length ≤ 512) : TreeOk n (updT p (datF d) t) := by
 have h0 := ht.node u (Zb6 hg)
 exact Z0w ht hg (Zzu d u) rfl rfl ⟨h0.chk,h0.low,fun q => absurd q hu,h0.rise,h0.nmk,fun q => ⟨(h0.leaf hu).1,hd⟩⟩
/-! ### one less -/
theorem Zx0 {l1 l2 : List Tn} (hn : k.nm = s) (h1 : ∀ x ∈ l1,x.nm ≠ s) (h2 : ∀ x ∈ l2,x.nm ≠ s) : rmT s (l1 ++ k :: l2) = l1 ++ l2 := by
 unfold rmT
 rw [List.filter_append,List.filter_cons_of_neg (by simpa using hn),List.filter_eq_self.2 fun x hx => by simpa using h1 x hx,List.filter_eq_self.2 fun x hx => by simpa using h2 x hx]
theorem Zux (ht : TreeOk n t) (hg : goT t p = .ok u) (hs : Za9 u s = .ok k) (hk : k.kids = []) : ∃ rest,(Zcf t).Perm (ent k :: ent u :: rest) ∧ (Zcf (updT p (rmF s) t)).Perm (ent (rmF s u) :: rest) := by
 obtain ⟨r,h1,h2⟩ := Ziz (Zr0 s u) ht.node hg
 obtain ⟨_,hn,l1,l2,he,q1,q2⟩ := Zdg (ht.node u (Zb6 hg)) hs
 have e1 : (rmF s u).kids = l1 ++ l2 := by show rmT s u.kids = _; rw [he]; exact Zx0 hn q1 q2
 rw [Zeu u,he] at h1
 rw [Zeu (rmF s u),e1] at h2
 refine ⟨Zcu (l1 ++ l2) ++ r,h1.trans ?_,h2⟩
 have h3 : (Zcu (l1 ++ k :: l2)).Perm (ent k :: Zcu (l1 ++ l2)) := by
  have := Zln (List.perm_middle (a := k) (l₁ := l1) (l₂ := l2))
  rwa [Zlo,Zoy hk] at this
 exact ((h3.append_right r).cons (ent u)).trans (.swap _ _ _)
theorem Zrj (ht : TreeOk n t) (hg : goT t p = .ok u) (hs : Za9 u s = .ok k) (hk : k.kids = []) : ((Zcf (updT p (rmF s) t)).map (·.1)).Nodup := by
 obtain ⟨r,h1,h2⟩ := Zux ht hg hs hk
 have k1 := (h1.map (fun x : Int × Nd => x.1)).nodup_iff.1 ht.nodup
 refine (h2.map (fun x : Int × Nd => x.1)).nodup_iff.2 ?_
 exact (List.nodup_cons.1 k1).2
theorem Z5u (ht : TreeOk n t) (hg : goT t p = .ok u) (hs : Za9 u s = .ok k) (hk : k.kids = []) (no : Int) : Nt (updT p (rmF s) t) no = if no = k.no then none else if no = u.no then some (rmF s u).nd else Nt t no := by
 obtain ⟨r,h1,h2⟩ := Zux ht hg hs hk
 have k1 := (h1.map (fun x : Int × Nd => x.1)).nodup_iff.1 ht.nodup
 have k2 : k.no ∉ u.no :: r.map (fun x : Int × Nd => x.1) := (List.nodup_cons.1 k1).1
 rw [Zib h2 (Zrj ht hg hs hk),Zib h1 ht.nodup]
 simp only [Zj6]
 show (if no = u.no then some (rmF s u).nd else getA no r) = if no = k.no then none else if no = u.no then some (rmF s u).nd else if no = k.no then some k.nd else if no = u.no then some u.nd else getA no r
 by_cases h : no = k.no
 ·subst h
  have h3 : ¬ k.no = u.no := fun e => k2 (by rw [e]; exact List.mem_cons_self ..)
  have h4 : getA k.no r = none := getA_none.2 fun e => k2 (List.mem_cons_of_mem _ e)
  simp [h3,h4]
 ·by_cases h2 : no = u.no
  ·rw [if_pos h2,if_neg h,if_pos h2]
  ·rw [if_neg h2,if_neg h,if_neg h2,if_neg h,if_neg h2]
theorem Z2z (hu : u.st.kind = 1) : (rmF s u).nd = ⟨u.st,wrD (rmN s u.names)⟩ := by
 unfold Tn.nd
 show (⟨u.st,if u.st.kind = 1 then wrD ((rmT s u.kids).map fun k => (k.nm,k.no)) else u.data⟩ : Nd) = _
 rw [if_pos hu,Zn7]; rfl
theorem Zip (q : Nm → Bool) : ∀ l : List Nm,(Zaw ((l.filter q).map Zeh)).length ≤ (Zaw (l.map Zeh)).length
 | [] => by simp
 | x :: l => by
  have ih := Zip q l
  rw [List.map_cons,Zaw,List.length_append]
  by_cases h : q x = true
  ·rw [List.filter_cons_of_pos h,List.map_cons,Zaw,List.length_append]; omega
  ·rw [List.filter_cons_of_neg h]; omega
theorem Z2k (s : List UInt8) (l : List Nm) : (wrD (rmN s l)).length ≤ (wrD l).length := by
 have := Zip (fun x => decide (x.1 ≠ s)) l
 unfold wrD dirM rmN
 rw [Zbt,Zbt]
 simp only [List.length_cons,List.length_append,List.length_nil]
 omega
theorem Z5a (ht : TreeOk n t) (hg : goT t p = .ok u) (hu : u.st.kind = 1) (hs : Za9 u s = .ok k) (hk : k.kids = []) : TreeOk n (updT p (rmF s) t) := by
 have h0 := ht.node u (Zb6 hg)
 have hsub : (rmT s u.kids).Sublist u.kids := List.filter_sublist
 refine ⟨Zrb (Zr0 s u) ht.node hg fun v hv => ?_,Zrj ht hg hs hk,Zn6 ht hg (Zr0 s u) rfl,?_,ht.small⟩
 ·rw [Zd5] at hv
  rcases List.mem_cons.1 hv with rfl | hv
  ·refine ⟨h0.chk,h0.low,fun q => ⟨(h0.dir hu).1,?_⟩,h0.rise.sublist hsub,fun x hx => h0.nmk x (hsub.subset hx),fun q => absurd hu q⟩
   have h1 : (rmF s u).names = rmN s u.names := Zn7 s u.kids
   rw [h1]
   exact Nat.le_trans (Z2k s u.names) (h0.dir hu).2
  ·obtain ⟨x,hx,hv⟩ := mem_subL.1 (show v ∈ subL (rmT s u.kids) from hv)
   exact ht.node v (Zdj (Zb6 hg) (Ze6 (hsub.subset hx) hv))
 ·have h1 := Zl6 (Zr0 s u) ht.node hg
  have h2 := Zmt hg
  have h3 : hgtT (rmF s u) ≤ hgtT u := by
   rw [Zd8,Zd8 u]
   exact hgtL_le.2 fun x hx => Zi4 (hsub.subset (show x ∈ rmT s u.kids from hx))
  have := ht.high
  omega
end
end Cr
namespace Cr
open Go Go.Proofs
set_option maxRecDepth 100000
set_option maxHeartbeats 8000000
attribute [local irreducible] Calls

def Zp8 (t : Tn) (data : List UInt8) (p : List (List UInt8)) : Int × Tn := match goR t p with
 | .error e => (e,t)
 | .ok x => if x.2.st.kind = 1 then (17,t) else if 512 < data.length then (2,t) else (0,updT p (datF data) t)
def Zd6 (t : Tn) (p : List (List UInt8)) : Int × Tn := match Zc7 t p with
 | .error e => (e,t)
 | .ok x => match Za9 x.1 x.2 with
  | .error e => (e,t)
  | .ok k => if k.kids ≠ [] then (15,t) else (0,updT p.dropLast (rmF x.2) t)
section
variable {n : Nat} {t : Tn}
theorem Zx5 (ht : TreeOk n t) (data : List UInt8) (p : List (List UInt8)) : TreeOk n (Zp8 t data p).2 := by
 unfold Zp8
 cases hg : goR t p with
 | error e => exact ht
 | ok x =>
  obtain ⟨_,u,hu,_,rfl⟩ := Zvp ht hg
  simp only
  split
  ·exact ht
  ·rename_i hk
   split
   ·exact ht
   ·exact Z35 ht hu hk (by omega)
theorem Zg5 (ht : TreeOk n t) (p : List (List UInt8)) : TreeOk n (Zd6 t p).2 := by
 unfold Zd6
 cases hl : Zc7 t p with
 | error e => exact ht
 | ok x =>
  obtain ⟨u,s⟩ := x
  obtain ⟨_,hg,hu,_,_⟩ := Zfu hl
  simp only
  cases hs : Za9 u s with
  | error e => exact ht
  | ok k =>
   simp only
   split
   ·exact ht
   ·rename_i hk
    exact Z5a ht hg hu hs (Decidable.not_not.1 hk)
end
section
variable {c f tp n : Nat} {b : Int} {T : Int → Option Nd} {t : Tn} {X : List RowD}
theorem Z5o (ht : TreeOk n t) (data : List UInt8) (a : Option Addr) (q : Nat) (pa : Option Addr) (p : List (List UInt8)) (pc : Nat) (W : World) (F : Nat → Prop) (hT : TreeRo W F f tp n b T) (hG : Lg W F) (ha : Ro W F (bytes a data)) (hp : Ro W F (row pa (strV p))) (hpl : p.length ≤ 1048576) (hS : St W F [chR c f b T (Nt t) X] W) :
  Calls Tryz.prog 49 #[.pointer (some ⟨c,0,none⟩),.slice a data.length q,.slice pa p.length pc] W (Ret fun v w => ∃ X',(∀ x ∈ X,x ∈ X') ∧ v = .int .i64 (Zp8 t data p).1 ∧ St W F [chR c f b T (Nt (Zp8 t data p).2) X'] w) := by
 unfold Zp8
 refine Zab Tryz.func49 rfl Tryz.ntmps49 rfl ?_
 repeat (first|refine Yd0 ?_|refine Yee ?_|refine Yd1 ?_|refine Yab ?_)
 obtain ⟨_,hc,_,hw,hbk⟩ := hS.call [true]
 refine Zaa _ rfl rfl rfl rfl rfl (Z1p ht pa p pc _ _ (hT.mono hw) (hG.mono hw) (hw _ hp) hpl hc) ?_
 rintro v w ⟨X',hX',hS,hv⟩
 replace hS := hbk hS
 clear hbk hw hc
 cases hg : goR t p with
 | error e =>
  rw [hg] at hv
  obtain ⟨rfl,he⟩ := hv
  simp only
  repeat (first|refine Yd0 ?_|(refine X_id ?_;first|refine Yaf ?_|refine Yag ?_|refine Ya1 ?_|refine Ybl ?_|refine Yao (fun _ hS _ => ?_)|refine Yar (fun _ _ hS _ => ?_))|refine Yen ?_|refine Yel ?_)
  exact ⟨X',hX',rfl,hS.took⟩
 | ok x =>
  obtain ⟨_,u,hu,hum,rfl⟩ := Zvp ht hg
  rw [hg] at hv
  obtain ⟨a2,q2,rfl,hq2,hrow⟩ := hv
  simp only at hq2 hrow ⊢
  by_cases hk : u.nd.st.kind = 1
  ·rw [if_pos hk]
   repeat (first|refine Yd0 ?_|(refine X_id ?_;first|refine Yaf ?_|refine Yag ?_|refine Yan ?_|refine Ybz ?_|refine Ya1 ?_|refine Ybi ?_|refine Ybd ?_|refine Yap ?_|refine Yao (fun _ hS _ => ?_)|refine Yar (fun _ _ hS _ => ?_))|refine Yek ?_|refine Yel ?_)
   exact ⟨X',hX',rfl,hS.took⟩
  ·rw [if_neg hk]
   by_cases h5 : 512 < data.length
   ·rw [if_pos h5]
    repeat (first|refine Yd0 ?_|(refine X_id ?_;first|refine Yaf ?_|refine Yag ?_|refine Yan ?_|refine Ybz ?_|refine Ya1 ?_|refine Yav ?_|refine Ybh ?_|refine Ybd ?_|refine Ybx ?_|refine Yap ?_|refine Yao (fun _ hS _ => ?_)|refine Yar (fun _ _ hS _ => ?_))|refine Yek ?_|refine Yel ?_)
    exact ⟨X',hX',rfl,hS.took⟩
   ·rw [if_neg h5]
    have hNt : (fun k => if k = u.no then some (⟨u.nd.st,data⟩ : Nd) else Nt t k) = Nt (updT p (datF data) t) := by
     funext y
     rw [Z2a ht hu (Zzu data u) rfl,Zv9 hk]; rfl
    repeat (first|refine Yd0 ?_|(refine X_id ?_;first|refine Yaf ?_|refine Yag ?_|refine Yan ?_|refine Ybz ?_|refine Ya1 ?_|refine Yav ?_|refine Ybh ?_|refine Ybd ?_|refine Ybu ?_|refine Ybk ?_|refine Yap ?_|refine Ybe ?_|refine Yao (fun _ hS _ => ?_)|refine Yar (fun _ _ hS _ => ?_))|refine Yex ?_|refine Yd8 ?_)
    obtain ⟨_,hc,_,hw,hbk⟩ := hS.call [false,true]
    refine Zaa _ rfl rfl rfl rfl rfl (set_ u.no ⟨u.nd.st,data⟩ a q _ _ (.inl (hw _ ha)) (by simp only; omega) hc) ?_
    rintro _ w ⟨rfl,X4,hX4,hS⟩
    replace hS := hbk hS
    clear hbk hw hc
    rw [hNt] at hS
    repeat (first|refine Yd0 ?_|refine Yag ?_|refine Yed ?_|refine Yd2 ?_)
    exact ⟨X4,fun x hx => hX4 x (hX' x hx),rfl,hS.took⟩
theorem Z37 (ht : TreeOk n t) (pa : Option Addr) (p : List (List UInt8)) (pc : Nat) (W : World) (F : Nat → Prop) (hT : TreeRo W F f tp n b T) (hG : Lg W F) (hp : Ro W F (row pa (strV p))) (hpc : p.length ≤ pc) (hpl : p.length ≤ 1048576) (hS : St W F [chR c f b T (Nt t) X] W) :
  Calls Tryz.prog 55 #[.pointer (some ⟨c,0,none⟩),.slice pa p.length pc] W (Ret fun v w => ∃ X',(∀ x ∈ X,x ∈ X') ∧ v = .int .i64 (Zd6 t p).1 ∧ St W F [chR c f b T (Nt (Zd6 t p).2) X'] w) := by
 unfold Zd6
 refine Zab Tryz.func55 rfl Tryz.ntmps55 rfl ?_
 repeat (first|refine Yd0 ?_|refine Yee ?_|refine Yd1 ?_|refine Yab ?_)
 obtain ⟨_,hc,_,hw,hbk⟩ := hS.call [true]
 refine Zaa _ rfl rfl rfl rfl rfl (Z3j ht pa p pc _ _ (hT.mono hw) (hG.mono hw) (hw _ hp) hpc hpl hc) ?_
 rintro v w ⟨X1,hX1,hS,hv⟩
 replace hS := hbk hS
 clear hbk hw hc
 cases hl : Zc7 t p with
 | error e =>
  rw [hl] at hv
  obtain ⟨he0,no',nd',a',q',b',m',k',s',rfl⟩ := hv
  simp only
  repeat (first|refine Yd0 ?_|(refine X_id ?_;first|refine Yaf ?_|refine Yag ?_|refine Ya1 ?_|refine Ybl ?_|refine Yao (fun _ hS _ => ?_)|refine Yar (fun _ _ hS _ => ?_))|refine Yeh ?_|refine Yei ?_)
  exact ⟨X1,hX1,rfl,hS.took⟩
 | ok x =>
  obtain ⟨u,s⟩ := x
  rw [hl] at hv
  obtain ⟨a2,q2,nb,nc,rfl,hq2,hrow,hnrow⟩ := hv
  obtain ⟨_,hg,hk,hpd,hs⟩ := Zfu hl
  have hu := Zb6 hg
  have hnok := (ht.rd hu hk).1
  simp only at hq2 hrow hnrow ⊢
  repeat (first|refine Yd0 ?_|(refine X_id ?_;first|refine Yaf ?_|refine Yag ?_|refine Ya1 ?_|refine Ybd ?_|refine Ybe ?_|refine Yao (fun _ hS _ => ?_)|refine Yar (fun _ _ hS _ => ?_))|refine Yeb ?_|refine Yab ?_)
  obtain ⟨_,hc,_,hw,hbk⟩ := hS.call [false,true]
  have hin := ht.into hu s
  refine Zaa _ rfl rfl rfl rfl rfl (Z3n u.no u.nd a2 q2 s _ _ (hT.mono hw) (hG.mono hw) hrow hq2 (ht.len hu) (by rw [hin]; cases hg : Za9 u s with | ok k => simp | error e => rcases Zj2 hg with rfl | rfl <;> simp) hc) ?_
  rintro v w ⟨X2,hX2,hS,hv⟩
  replace hS := hbk hS
  clear hbk hw hc
  rw [hin] at hv
  cases hgs : Za9 u s with
  | error e =>
   rw [hgs] at hv
   obtain ⟨rfl,he⟩ := hv
   simp only
   repeat (first|refine Yd0 ?_|(refine X_id ?_;first|refine Yaf ?_|refine Yag ?_|refine Ya1 ?_|refine Ybl ?_|refine Yao (fun _ hS _ => ?_)|refine Yar (fun _ _ hS _ => ?_))|refine Yeh ?_|refine Yei ?_)
   exact ⟨X2,fun x hx => hX2 x (hX1 x hx),rfl,hS.took⟩
  | ok k =>
   rw [hgs] at hv
   obtain ⟨a3,q3,rfl,hq3,hrow3⟩ := hv
   obtain ⟨_,hkk,hkn⟩ := Zhi hgs
   have hkm : k ∈ subT t := Zdj hu (Zqd hkk)
   simp only at hq3 hrow3 ⊢
   repeat (first|refine Yd0 ?_|(refine X_id ?_;first|refine Yaf ?_|refine Yag ?_|refine Ya1 ?_|refine Ybd ?_|refine Ybe ?_|refine Yao (fun _ hS _ => ?_)|refine Yar (fun _ _ hS _ => ?_))|refine Yeb ?_|refine Yab ?_)
   refine Zaa _ rfl rfl rfl rfl rfl (Zvd k.no k.nd a3 q3 _ (hrow3.rd (hS.rd (r := chR c f b T (Nt t) X2) (by simp)).ch) hq3 (ht.len hkm) (hG.at_ hS)) ?_
   have hfin : ∀ (hk0 : k.kids = []),(fun x => if x = k.no then none else if x = u.no then some (⟨u.nd.st,wrD (rmN s u.names)⟩ : Nd) else Nt t x) = Nt (updT p.dropLast (rmF s) t) := fun hk0 => by
    funext x
    rw [Z5u ht hg hgs hk0,Z2z hk]; rfl
   rintro _ w (⟨hkd,nb3,nc3,rfl,hS'⟩ | ⟨hkd,rfl,hS'⟩)
   case inl =>
    replace hS := hS.plus hS'
    clear hS'
    have hkd' : k.st.kind = 1 := hkd
    rw [(ht.rd hkm hkd').2] at hS ⊢
    by_cases h0 : k.kids = []
    ·have hnm0 : k.names.length = 0 := by unfold Tn.names; rw [h0]; rfl
     rw [hnm0,if_neg (by simp [h0])]
     repeat (first|refine Yeg ?_|(refine X_id ?_;first|refine Yaf ?_|refine Yag ?_|refine Ya1 ?_|refine Ya5 ?_|refine Yav ?_|refine Ybi ?_|refine Ybu ?_|refine Ybe ?_)|refine Yeb ?_|refine Yab ?_)
     obtain ⟨_,hc,_,hw,hbk⟩ := hS.call [false,false,true]
     refine Zaa _ rfl rfl rfl rfl rfl (Zzs u.no u.nd a2 q2 nb u.names nc s _ _ (hG.mono hw) (hnrow.sub hX2) hnok hc) ?_
     rintro _ w ⟨rfl,X3,hX3,hS⟩
     replace hS := hbk hS
     clear hbk hw hc
     repeat (first|refine Yd0 ?_|refine Yaf ?_|refine Yan ?_|refine Yap ?_|refine Yd1 ?_|refine Yab ?_)
     obtain ⟨_,hc,_,hw,hbk⟩ := hS.call [true]
     refine Zaa _ rfl rfl rfl rfl rfl (Z3r k.no _ _ hc) ?_
     rintro _ w ⟨rfl,hS⟩
     replace hS := hbk hS
     clear hbk hw hc
     rw [hfin h0] at hS
     repeat (first|refine Yd0 ?_|refine Yag ?_|refine Yed ?_|refine Yd2 ?_)
     exact ⟨X3,fun x hx => hX3 x (hX2 x (hX1 x hx)),rfl,hS.took⟩
    ·have hnm0 : 0 < k.names.length := by unfold Tn.names; rw [List.length_map]; exact List.length_pos_iff.2 h0
     rw [if_pos h0]
     repeat (first|refine Yeg ?_|(refine X_id ?_;first|refine Yaf ?_|refine Yag ?_|refine Ya1 ?_|refine Ya5 ?_|refine Yav ?_|refine Ybi ?_|refine Ybx ?_)|refine Yeh ?_|refine Yei ?_)
     exact ⟨X2,fun x hx => hX2 x (hX1 x hx),rfl,hS.took⟩
   case inr =>
    replace hS := hS.plus hS'
    clear hS'
    have h0 : k.kids = [] := ((ht.node k hkm).leaf hkd).1
    rw [if_neg (by simp [h0])]
    repeat (first|refine Yej ?_|(refine X_id ?_;first|refine Yaf ?_|refine Yag ?_|refine Ya1 ?_|refine Ya4 ?_|refine Ybh ?_|refine Ybe ?_)|refine Yeb ?_|refine Yab ?_)
    obtain ⟨_,hc,_,hw,hbk⟩ := hS.call [false,true]
    refine Zaa _ rfl rfl rfl rfl rfl (Zzs u.no u.nd a2 q2 nb u.names nc s _ _ (hG.mono hw) (hnrow.sub hX2) hnok hc) ?_
    rintro _ w ⟨rfl,X3,hX3,hS⟩
    replace hS := hbk hS
    clear hbk hw hc
    repeat (first|refine Yd0 ?_|refine Yaf ?_|refine Yan ?_|refine Yap ?_|refine Yd1 ?_|refine Yab ?_)
    obtain ⟨_,hc,_,hw,hbk⟩ := hS.call [true]
    refine Zaa _ rfl rfl rfl rfl rfl (Z3r k.no _ _ hc) ?_
    rintro _ w ⟨rfl,hS⟩
    replace hS := hbk hS
    clear hbk hw hc
    rw [hfin h0] at hS
    repeat (first|refine Yd0 ?_|refine Yag ?_|refine Yed ?_|refine Yd2 ?_)
    exact ⟨X3,fun x hx => hX3 x (hX2 x (hX1 x hx)),rfl,hS.took⟩
end
end Cr
namespace Cr
open Go Go.Proofs
set_option maxRecDepth 100000
set_option maxHeartbeats 8000000
attribute [local irreducible] Calls

def dbN : List UInt8 := [100,98]
def Zci (t : Tn) (p : List (List UInt8)) : Int := match getR t p with
 | .error _ => -1
 | .ok nd => nd.st.kind
def Zbu (t : Tn) (name key : List UInt8) : Except Int Mv :=
 if nameOk key then match getR t [dbN,name,key] with
  | .error _ => .error 7
  | .ok nd => if nd.st.kind = 0 then match decM nd.data with
   | some v => .ok v
   | none => .error 3
   else .error 3
 else .error 10
abbrev zMv : List Value := [.int .i64 0,.int .i64 0,.slice none 0 0,.slice none 0 0]
def Z19 (X : List RowD) (r : Except Int Mv) (v : Value) : Prop := match r with
 | .error e => e ≠ 0 ∧ v = .tuple #[.agg (List.toArray zMv),.int .i64 e]
 | .ok x => ∃ cs,v = .tuple #[.agg (List.toArray cs),.int .i64 0] ∧ Mrd (RX X) x cs
theorem Zys {n : Nat} {t : Tn} (ht : TreeOk n t) {p : List (List UInt8)} {x : Nd} (h : getR t p = .ok x) : x.data.length ≤ 512 := by
 unfold getR at h
 cases hg : goR t p with
 | error e => rw [hg] at h; cases h
 | ok y =>
  rw [hg] at h
  simp only [Except.ok.injEq] at h
  obtain ⟨_,u,_,hu,rfl⟩ := Zvp ht hg
  subst h
  have := ht.len hu
  show (if u.nd.st.kind = 1 then [] else u.nd.data).length ≤ 512
  split
  ·simp
  ·exact this
section
variable {c f tp n : Nat} {b : Int} {T : Int → Option Nd} {t : Tn} {X : List RowD}
theorem Zum (ht : TreeOk n t) (pa : Option Addr) (p : List (List UInt8)) (pc : Nat) (W : World) (F : Nat → Prop) (hT : TreeRo W F f tp n b T) (hG : Lg W F) (hp : Ro W F (row pa (strV p))) (hpl : p.length ≤ 1048576) (hS : St W F [chR c f b T (Nt t) X] W) :
  Calls Tryz.prog 48 #[.pointer (some ⟨c,0,none⟩),.slice pa p.length pc] W (Ret fun v w => v = .int .i64 (Zci t p) ∧ ∃ X',(∀ x ∈ X,x ∈ X') ∧ St W F [chR c f b T (Nt t) X'] w) := by
 unfold Zci
 refine Zab Tryz.func48 rfl Tryz.ntmps48 rfl ?_
 repeat (first|refine Yd0 ?_|refine Yee ?_|refine Yd1 ?_|refine Yab ?_)
 obtain ⟨_,hc,_,hw,hbk⟩ := hS.call [true]
 refine Zaa _ rfl rfl rfl rfl rfl (get_ ht pa p pc _ _ (hT.mono hw) (hG.mono hw) (hw _ hp) hpl hc) ?_
 rintro v w ⟨X',hX',hS,hv⟩
 replace hS := hbk hS
 clear hbk hw hc
 cases hg : getR t p with
 | error e =>
  rw [hg] at hv
  obtain ⟨rfl,he⟩ := hv
  repeat (first|refine Yd0 ?_|(refine X_id ?_;first|refine Yaf ?_|refine Yag ?_|refine Ya1 ?_|refine Ybl ?_|refine Yao (fun _ hS _ => ?_)|refine Yar (fun _ _ hS _ => ?_))|refine Yeh ?_|refine Yei ?_)
  exact ⟨rfl,X',hX',hS.took⟩
 | ok x =>
  rw [hg] at hv
  obtain ⟨a',q',rfl,hq',hrow⟩ := hv
  repeat (first|refine Yd0 ?_|(refine X_id ?_;first|refine Yaf ?_|refine Yag ?_|refine Yan ?_|refine Ya1 ?_|refine Ybd ?_|refine Yap ?_|refine Yao (fun _ hS _ => ?_)|refine Yar (fun _ _ hS _ => ?_))|refine Yep ?_|refine Yd2 ?_)
  exact ⟨rfl,X',hX',hS.took⟩
theorem Z2p (ht : TreeOk n t) (tb : Nat) (name key : List UInt8) (W : World) (F : Nat → Prop) (hT : TreeRo W F f tp n b T) (hG : Lg W F) (htb : Ro W F (pts tb (.cells (List.toArray [.pointer (some ⟨c,0,none⟩),.string (str name)]) 107 (0,0)))) (hS : St W F [chR c f b T (Nt t) X] W) :
  Calls Tryz.prog 14 #[.pointer (some ⟨tb,0,none⟩),.string (str key)] W (Ret fun v w => ∃ X',(∀ x ∈ X,x ∈ X') ∧ St W F [chR c f b T (Nt t) X'] w ∧ Z19 X' (Zbu t name key) v) := by
 have hN := fun W => Zve key W
 unfold Zbu
 have hc := htb
 by_cases hk : nameOk key
 case neg =>
  rw [if_neg hk]
  simp only [decide_eq_false hk] at hN
  refine Zab Tryz.func14 rfl Tryz.ntmps14 rfl ?_
  repeat (first|refine Yd0 ?_|(refine X_id ?_;first|(refine Zae 42 rfl rfl rfl rfl rfl hS (hN _) ?_;rintro _ _ rfl hS)|refine Yaf ?_|refine Yag ?_|refine Ybo ?_|refine Ybk ?_|refine Ybr ?_|refine Yao (fun _ hS _ => ?_)|refine Yar (fun _ _ hS _ => ?_))|refine Yek ?_|refine Yab ?_|refine Yaq ?_|refine Ya7 ?_|refine Yby ?_)
  exact ⟨X,fun _ h => h,hS.took,by decide,rfl⟩
 rw [if_pos hk]
 simp only [decide_eq_true hk] at hN
 clear hk
 refine Zab Tryz.func14 rfl Tryz.ntmps14 rfl ?_
 repeat (first|refine Yd0 ?_|(refine X_id ?_;first|(refine Zae 42 rfl rfl rfl rfl rfl hS (hN _) ?_;rintro _ _ rfl hS)|refine Yaf ?_|refine Yag ?_|refine Ybb ?_|refine Ybr ?_|refine Yar (fun _ _ hS _ => ?_))|refine Yex ?_|refine Yd8 ?_)
 rename_i b4 _ _ _ _
 refine Zps (α := Nat × Nd × Option Addr × Nat × Int) (fun z => [(4,.pointer (some ⟨b4,0,none⟩)),(6,.pointer (some ⟨z.1,0,none⟩)),(7,.int .i64 z.2.2.2.2)])
  (fun z w => ∃ X',(∀ x ∈ X,x ∈ X') ∧ St W F [chR c f b T (Nt t) X',pts z.1 (.cells (List.toArray [.int .i64 z.2.1.st.kind,.int .i64 z.2.1.st.mode,.int .i64 z.2.1.st.owner,.int .i64 z.2.1.st.group,.slice z.2.2.1 z.2.1.data.length z.2.2.2.1]) 123 (0,0)),pts b4 (.cells (List.toArray zMv) 38 (0,0))] w ∧
   match getR t [dbN,name,key] with
   | .error e => z.2.2.2.2 = e ∧ e ≠ 0
   | .ok x => z.2.2.2.2 = 0 ∧ z.2.1 = x ∧ x.data.length ≤ z.2.2.2.1 ∧ RX X' z.2.2.1 (bv x.data)) ?_ ?_
 ·skip
  refine Zao (.s 0 (.s 1 (.s 2 (.s 3 (.s 4 (.s 5 (.s 6 (.s 7 (.s 8 (.h 9 (.h 10 (.s 11 (.s 12 (.s 13 (.h 14 (.h 15 (.s 16 .nil) .no) .no)))) (.h 14 (.h 10 (.s 11 (.s 12 (.s 13 (.h 15 (.s 16 .nil) .no)))) .no) .no)) (.h 14 (.h 9 (.h 10 (.s 11 (.s 12 (.s 13 (.h 15 (.s 16 .nil) .no)))) .no) .no) .no))))))))))) mixed (by kernel_rfl) rfl ?_
  have hS := hS.drew
  repeat' (first|refine Ze1 ?_ ?_|refine Yar (fun _ _ hS _ => ?_)|refine Ybf (fun _ _ hS _ => ?_)|(refine Zad ?_;first|refine Ya0 ?_|refine Ybq ?_|refine Ybj ?_|refine Yas ?_|refine Yc2 ?_)|(refine Zac ?_;first|refine Yaz ?_))
  ·obtain ⟨_,hcc,hr1,hw,hbk⟩ := hS.call [false,false,true]
   refine Zaa _ rfl rfl rfl rfl rfl (get_ ht _ [dbN,name,key] _ _ _ (hT.mono hw) (hG.mono hw) (hr1 _ (List.mem_cons_self ..)).own_row (by simp) hcc) ?_
   rintro v w ⟨X',hX',hS,hv⟩
   replace hS := hbk hS
   clear hbk hw hcc hr1
   cases hg : getR t [dbN,name,key] with
   | error e =>
    rw [hg] at hv
    obtain ⟨rfl,he⟩ := hv
    repeat (first|refine Yao (fun _ hS _ => ?_)|refine Yar (fun _ _ hS _ => ?_)|(refine Zad ?_;first|refine Yay ?_|refine Ya0 ?_|refine Ybn ?_|refine Ycx ?_|refine Yas ?_)|(refine Zac ?_;first|refine Yaz ?_))
    exact Zbi ⟨_,⟨⟨0,0,0,0⟩,[]⟩,none,0,e⟩ ⟨rfl,rfl,rfl,trivial⟩ ⟨X',hX',hS.took,⟨rfl,he⟩⟩
   | ok x =>
    rw [hg] at hv
    obtain ⟨a',q',rfl,hq',hrow⟩ := hv
    repeat (first|refine Yao (fun _ hS _ => ?_)|refine Yar (fun _ _ hS _ => ?_)|(refine Zad ?_;first|refine Yay ?_|refine Ya0 ?_|refine Ybn ?_|refine Ycx ?_|refine Yas ?_)|(refine Zac ?_;first|refine Yaz ?_))
    exact Zbi ⟨_,x,a',q',0⟩ ⟨rfl,rfl,rfl,trivial⟩ ⟨X',hX',hS.took,⟨rfl,rfl,hq',hrow⟩⟩
  ·obtain ⟨_,hcc,hr1,hw,hbk⟩ := hS.call [false,false,false,true]
   refine Zaa _ rfl rfl rfl rfl rfl (get_ ht _ [dbN,name,key] _ _ _ (hT.mono hw) (hG.mono hw) (hr1 _ (List.mem_cons_of_mem _ (List.mem_cons_self ..))).own_row (by simp) hcc) ?_
   rintro v w ⟨X',hX',hS,hv⟩
   replace hS := hbk hS
   clear hbk hw hcc hr1
   cases hg : getR t [dbN,name,key] with
   | error e =>
    rw [hg] at hv
    obtain ⟨rfl,he⟩ := hv
    repeat (first|refine Yao (fun _ hS _ => ?_)|(refine Zad ?_;first|refine Yay ?_|refine Ya0 ?_|refine Ybn ?_|refine Ycx ?_|refine Yas ?_)|(refine Zac ?_;first|refine Yaz ?_))
    exact Zbi ⟨_,⟨⟨0,0,0,0⟩,[]⟩,none,0,e⟩ ⟨rfl,rfl,rfl,trivial⟩ ⟨X',hX',hS.took,⟨rfl,he⟩⟩
   | ok x =>
    rw [hg] at hv
    obtain ⟨a',q',rfl,hq',hrow⟩ := hv
    repeat (first|refine Yao (fun _ hS _ => ?_)|(refine Zad ?_;first|refine Yay ?_|refine Ya0 ?_|refine Ybn ?_|refine Ycx ?_|refine Yas ?_)|(refine Zac ?_;first|refine Yaz ?_))
    exact Zbi ⟨_,x,a',q',0⟩ ⟨rfl,rfl,rfl,trivial⟩ ⟨X',hX',hS.took,⟨rfl,rfl,hq',hrow⟩⟩
  ·obtain ⟨_,hcc,hr1,hw,hbk⟩ := hS.call [false,false,false,true]
   refine Zaa _ rfl rfl rfl rfl rfl (get_ ht _ [dbN,name,key] _ _ _ (hT.mono hw) (hG.mono hw) (hr1 _ (List.mem_cons_self ..)).own_row (by simp) hcc) ?_
   rintro v w ⟨X',hX',hS,hv⟩
   replace hS := hbk hS
   clear hbk hw hcc hr1
   cases hg : getR t [dbN,name,key] with
   | error e =>
    rw [hg] at hv
    obtain ⟨rfl,he⟩ := hv
    repeat (first|refine Yao (fun _ hS _ => ?_)|(refine Zad ?_;first|refine Yay ?_|refine Ya0 ?_|refine Ybn ?_|refine Ycx ?_|refine Yas ?_)|(refine Zac ?_;first|refine Yaz ?_))
    exact Zbi ⟨_,⟨⟨0,0,0,0⟩,[]⟩,none,0,e⟩ ⟨rfl,rfl,rfl,trivial⟩ ⟨X',hX',hS.took,⟨rfl,he⟩⟩
   | ok x =>
    rw [hg] at hv
    obtain ⟨a',q',rfl,hq',hrow⟩ := hv
    repeat (first|refine Yao (fun _ hS _ => ?_)|(refine Zad ?_;first|refine Yay ?_|refine Ya0 ?_|refine Ybn ?_|refine Ycx ?_|refine Yas ?_)|(refine Zac ?_;first|refine Yaz ?_))
    exact Zbi ⟨_,x,a',q',0⟩ ⟨rfl,rfl,rfl,trivial⟩ ⟨X',hX',hS.took,⟨rfl,rfl,hq',hrow⟩⟩
 ·rintro ⟨b6,nd,na,nq,e⟩ w ⟨X',hX',hS,hr⟩
  simp only at hS hr
  cases hg : getR t [dbN,name,key] with
  | error e' =>
   rw [hg] at hr
   obtain ⟨rfl,he⟩ := hr
   simp only
   repeat (first|refine Yd0 ?_|(refine X_id ?_;first|refine Yaf ?_|refine Yag ?_|refine Ybl ?_|refine Ybk ?_|refine Yao (fun _ hS _ => ?_))|refine Yen ?_|refine Yab ?_|refine Yaq ?_|refine Ya7 ?_|refine Yby ?_)
   exact ⟨X',hX',hS.took,by decide,rfl⟩
  | ok x =>
   rw [hg] at hr
   obtain ⟨rfl,rfl,hq,hrow⟩ := hr
   have hlen := Zys ht hg
   simp only
   by_cases hk : nd.st.kind = 0
   ·rw [if_pos hk]
    have hD := fun W h1 h2 => Zso na nd.data nq hq (by omega) W h1 h2
    repeat (first|refine Yd0 ?_|(refine X_id ?_;first|refine Yaf ?_|refine Yag ?_|refine Yan ?_|refine Ybd ?_|refine Yap ?_)|refine Yex ?_|refine Yd8 ?_)
    refine Zaa _ rfl rfl rfl rfl rfl (hD _ (hG.at_ hS) (hrow.rd (hS.rd (r := chR c f b T (Nt t) X') (by simp)).ch).ro) ?_
    rintro v w hV
    cases hd : decM nd.data with
    | none =>
     rw [hd] at hV
     obtain ⟨e,rfl,he,hS'⟩ := hV
     replace hS := hS.plus hS'
     clear hS'
     repeat (first|refine Yd0 ?_|refine Ye8 ?_|refine Yao (fun _ hS _ => ?_)|refine Yar (fun _ _ hS _ => ?_)|refine Yeh ?_|refine Yab ?_|refine Yaq ?_|refine Yby ?_)
     exact ⟨X',hX',hS.took,by decide,rfl⟩
    | some x =>
     rw [hd] at hV
     obtain ⟨cs,Y,rfl,hM,hS'⟩ := hV
     replace hS := hS.plus hS'
     clear hS'
     obtain ⟨a1,c1,a2,c2,rows2,rfl,_⟩ := hM.lit
     repeat (first|refine Yd0 ?_|(refine X_id ?_;first|refine Yaf ?_|refine Yag ?_|refine Ya1 ?_|refine Ybd ?_|refine Ybe ?_|refine Yao (fun _ hS _ => ?_)|refine Yar (fun _ _ hS _ => ?_))|refine Yep ?_|refine Yab ?_|refine Yby ?_)
     have hS : St W F [bag Y,chR c f b T (Nt t) X'] _ := hS.took
     exact ⟨_,fun y hy => List.mem_append_right _ (hX' y hy),hS.chAdd,_,rfl,hM.mono fun _ _ h => h.left⟩
   ·rw [if_neg hk]
    repeat (first|refine Yd0 ?_|(refine X_id ?_;first|refine Yaf ?_|refine Yag ?_|refine Yan ?_|refine Ybl ?_|refine Ybd ?_|refine Ybk ?_|refine Yap ?_|refine Yao (fun _ hS _ => ?_))|refine Yek ?_|refine Yab ?_|refine Yaq ?_|refine Ya7 ?_|refine Yby ?_)
    exact ⟨X',hX',hS.took,by decide,rfl⟩
end
end Cr
namespace Cr
open Go Go.Proofs
set_option maxRecDepth 100000
set_option maxHeartbeats 8000000
attribute [local irreducible] Calls

def PathsRd (Y : List RowD) (l : List (List (List UInt8))) (vs : List Value) : Prop :=
 vs.length = l.length ∧ ∀ (i : Nat) (p : List (List UInt8)),l[i]? = some p → ∃ a c,vs[i]? = some (.slice a p.length c) ∧ p.length ≤ c ∧ RX Y a (strV p)
theorem PathsRd.nil {Y : List RowD} : PathsRd Y [] [] := ⟨rfl,fun i p h => by simp at h⟩
theorem PathsRd.snoc {Y : List RowD} {l : List (List (List UInt8))} {vs : List Value} (h : PathsRd Y l vs) {p : List (List UInt8)} {a : Option Addr} {c : Nat} (hc : p.length ≤ c) (hr : RX Y a (strV p)) : PathsRd Y (l ++ [p]) (vs ++ [.slice a p.length c]) := by
 refine ⟨by simp [h.1],fun i q hq => ?_⟩
 by_cases hi : i < l.length
 ·rw [List.getElem?_append_left hi] at hq
  obtain ⟨a',c',h1,h2⟩ := h.2 i q hq
  exact ⟨a',c',by rw [List.getElem?_append_left (by rw [h.1]; exact hi)]; exact h1,h2⟩
 ·rw [List.getElem?_append_right (by omega)] at hq
  cases hk : i - l.length with
  | zero =>
   rw [hk] at hq
   obtain rfl : p = q := by simpa using hq
   exact ⟨a,c,by rw [List.getElem?_append_right (by rw [h.1]; omega),h.1,hk]; rfl,hc,hr⟩
  | succ k => rw [hk] at hq; simp at hq
theorem PathsRd.sub {Y Z : List RowD} {l : List (List (List UInt8))} {vs : List Value} (h : PathsRd Y l vs) (hs : ∀ x ∈ Y,x ∈ Z) : PathsRd Z l vs :=
 ⟨h.1,fun i p hp => (h.2 i p hp).imp fun _ ⟨c,h1,h2,h3⟩ => ⟨c,h1,h2,h3.sub hs⟩⟩
def wayL (name : List UInt8) : List (List (List UInt8)) := [[dbN],[dbN,name]]
def Zdc (t : Tn) : List (List (List UInt8)) → Option (List (List (List UInt8)))
 | [] => some []
 | p :: l => if Zci t p = 1 then Zdc t l else if Zci t p = -1 then (Zdc t l).map (p :: ·) else none
section
variable {c f tp n : Nat} {b : Int} {T : Int → Option Nd} {t : Tn} {X : List RowD}
theorem Z43 (ht : TreeOk n t) (tb : Nat) (name : List UInt8) (W : World) (F : Nat → Prop) (hT : TreeRo W F f tp n b T) (hG : Lg W F) (htb : Ro W F (pts tb (.cells (List.toArray [.pointer (some ⟨c,0,none⟩),.string (str name)]) 107 (0,0)))) (hS : St W F [chR c f b T (Nt t) X] W) :
  Calls Tryz.prog 47 #[.pointer (some ⟨tb,0,none⟩)] W (Ret fun v w => ∃ X',(∀ x ∈ X,x ∈ X') ∧ match Zdc t (wayL name) with
   | none => v = .tuple #[.slice none 0 0,.int .i64 17] ∧ St W F [chR c f b T (Nt t) X'] w
   | some l => ∃ a q vs Y,v = .tuple #[.slice a l.length q,.int .i64 0] ∧ RX Y a vs ∧ PathsRd Y l vs ∧ St W F [bag Y,chR c f b T (Nt t) X'] w) := by
 have hc := htb
 refine Zab Tryz.func47 rfl Tryz.ntmps47 rfl ?_
 repeat (first|refine Yd0 ?_|(refine X_id ?_;first|refine Yaf ?_|refine Yag ?_|refine Yau ?_|refine Yan ?_|refine Yav ?_|refine Ybf (fun _ _ hS _ => ?_)|refine Yca ?_)|refine Yd3 ?_|refine Yab ?_)
 rename_i b7 _ _ _ b12 _ _ _ b13 _ _
 have hS := hS.toBag (a := some ⟨b13,0,none⟩) (cs := [.slice (some ⟨b7,0,none⟩) 1 1,.slice (some ⟨b12,0,none⟩) 2 2]) fun _ h => h.row
 have hS := hS.swap1.bagAdd (a := some ⟨b12,0,none⟩) (cs := strV [dbN,name]) fun _ h => h.row
 have hS := hS.swap1.bagAdd (a := some ⟨b7,0,none⟩) (cs := strV [dbN]) fun _ h => h.row
 generalize hY : ((some (⟨b7,0,none⟩ : Addr),strV [dbN]) :: [(some (⟨b12,0,none⟩ : Addr),strV [dbN,name]),(some (⟨b13,0,none⟩ : Addr),[Value.slice (some ⟨b7,0,none⟩) 1 1,Value.slice (some ⟨b12,0,none⟩) 2 2])] : List RowD) = Y at hS
 have hW : PathsRd Y (wayL name) [.slice (some ⟨b7,0,none⟩) 1 1,.slice (some ⟨b12,0,none⟩) 2 2] := by
  have h1 : PathsRd Y [[dbN]] [.slice (some ⟨b7,0,none⟩) 1 1] := PathsRd.nil.snoc (p := [dbN]) (Nat.le_refl _) (.mem (by rw [← hY]; simp))
  exact h1.snoc (p := [dbN,name]) (Nat.le_refl _) (.mem (by rw [← hY]; simp))
 have hR : (some (⟨b13,0,none⟩ : Addr),[Value.slice (some ⟨b7,0,none⟩) 1 1,Value.slice (some ⟨b12,0,none⟩) 2 2]) ∈ Y := by rw [← hY]; simp
 have hl2 : (wayL name).length = 2 := rfl
 clear hY
 generalize [Value.slice (some ⟨b7,0,none⟩) 1 1,Value.slice (some ⟨b12,0,none⟩) 2 2] = vs13 at hW hR
 refine Zak (α := Nat × Option Addr × Nat × Nat) (fun z => [(0,.pointer (some ⟨tb,0,none⟩)),(4,.slice z.2.1 z.2.2.1 z.2.2.2),(13,.slice (some ⟨b13,0,none⟩) 2 2),(14,.int .i64 (2 : Nat)),(15,.int .i64 (z.1 : Nat))])
  (fun z w => z.1 ≤ 2 ∧ ∃ acc vs X',(∀ x ∈ X,x ∈ X') ∧ PathsRd Y acc vs ∧ z.2.2.1 = acc.length ∧ z.2.2.1 ≤ z.2.2.2 ∧ acc.length ≤ z.1 ∧ Zdc t (wayL name) = (Zdc t ((wayL name).drop z.1)).map (acc ++ ·) ∧ St W F [own 40 1 z.2.1 z.2.2.2 vs,bag Y,chR c f b T (Nt t) X'] w)
  (fun z => 2 - z.1) (0,none,0,0) ⟨rfl,rfl,rfl,rfl,rfl,trivial⟩ ⟨by decide,[],[],X,fun _ h => h,.nil,rfl,Nat.le_refl _,Nat.le_refl _,by rw [List.drop_zero]; cases Zdc t (wayL name) <;> simp,hS.own_none _ _ _⟩ ?_
 clear hS
 rintro ⟨i,oa,on,oc⟩ w ⟨hi,acc,vs,X',hX',hP,hon,hoc,hai,hwf,hS⟩
 simp only at hi hon hoc hai hwf hS
 by_cases hlt : i < 2
 ·have hp0 : (wayL name)[i]? = some (wayL name)[i] := List.getElem?_eq_getElem (by omega)
  have hdr := List.drop_eq_getElem_cons (l := wayL name) (i := i) (by omega)
  have hpl : (wayL name)[i].length ≤ 1048576 := by
   have : ∀ p ∈ wayL name,p.length ≤ 1048576 := by simp [wayL]
   exact this _ (List.getElem_mem _)
  generalize (wayL name)[i] = p at hp0 hdr hpl
  obtain ⟨pa,pc,hx,hpc,hpr⟩ := hW.2 i p hp0
  rw [hdr] at hwf
  have hr := (hS.rd (r := bag Y) (by simp)).bag hR
  repeat (first|refine Yd0 ?_|(refine X_id ?_;first|refine Yaf ?_|refine Yag ?_|refine Yau ?_|refine Yan ?_|refine Ya2 ?_|refine Ybc ?_|refine Yb5 ?_|refine Yca ?_)|refine Yd4 ?_|refine Yab ?_)
  obtain ⟨_,hcc,hr1,hw,hbk⟩ := hS.call [false,false,true]
  refine Zaa _ rfl rfl rfl rfl rfl (Zum ht pa p pc _ _ (hT.mono hw) (hG.mono hw) (hpr.ro (hr1 _ (List.mem_cons_of_mem _ (List.mem_cons_self ..)))) hpl hcc) ?_
  rintro _ w ⟨rfl,X2,hX2,hS⟩
  replace hS := hbk hS
  clear hbk hw hcc hr1 hr
  rw [Zdc] at hwf
  obtain ⟨k,hk⟩ : ∃ k,k = Zci t p := ⟨_,rfl⟩
  rw [← hk] at hwf ⊢
  by_cases h1 : k = 1
  ·rw [if_pos h1] at hwf
   repeat (first|refine Yd0 ?_|refine Yaf ?_|refine Yag ?_|refine Ybi ?_|refine Yax ?_|refine Yd4 ?_|refine Yd8 ?_)
   refine Zaf (z := (i,oa,on,oc)) (i + 1,oa,on,oc) ⟨rfl,rfl,rfl,rfl,rfl,trivial⟩ ⟨by dsimp only; omega,acc,vs,X2,fun x hx => hX2 x (hX' x hx),hP,hon,hoc,by dsimp only; omega,hwf,hS.took⟩ (by dsimp only; omega)
  ·rw [if_neg h1] at hwf
   by_cases h2 : k = -1
   ·rw [if_pos h2] at hwf
    repeat (first|refine Yd0 ?_|(refine X_id ?_;first|refine Yaf ?_|refine Yag ?_|refine Ybi ?_|refine Ybh ?_|refine Ybf (fun _ _ hS _ => ?_))|refine Ye7 ?_|refine Yab ?_)
    have hnw := (hS.rd (List.mem_cons_self ..)).own_row
    refine Zap rfl rfl rfl rfl rfl hS (by rw [hP.1]; dsimp only; omega) hoc hnw rfl (by simp [Value.oneCell']) (by dsimp only; omega) (by simp only [maxLen]; omega) (fun b' q' w hS hq' _ => ?_)
    repeat (first|refine Yd0 ?_|refine Yef ?_|refine Yad ?_|refine Yd8 ?_)
    refine Zaf (z := (i,oa,on,oc)) (i + 1,b',on + 1,q') ⟨rfl,rfl,rfl,rfl,rfl,trivial⟩ ⟨by dsimp only; omega,acc ++ [p],vs ++ [.slice pa p.length pc],X2,fun x hx => hX2 x (hX' x hx),hP.snoc hpc hpr,by rw [List.length_append,← hon]; rfl,hq',by rw [List.length_append]; simp; omega,?_,hS.took⟩ (by dsimp only; omega)
    rw [hwf]
    cases Zdc t ((wayL name).drop (i + 1)) <;> simp
   ·rw [if_neg h2] at hwf
    rw [hwf]
    repeat (first|refine Yd0 ?_|refine Yag ?_|refine Ybh ?_|refine Yae ?_|refine Yad ?_|refine Yal ?_|refine Yah ?_|refine Yai ?_|refine Ye3 ?_)
    exact ⟨X2,fun x hx => hX2 x (hX' x hx),rfl,hS.took⟩
 ·obtain rfl : i = 2 := by omega
  rw [show (wayL name).drop 2 = [] from rfl,Zdc] at hwf
  rw [hwf]
  subst hon
  repeat (first|refine Yd0 ?_|refine Yey ?_|refine Yd9 ?_|refine Yab ?_|refine Ya9 ?_|refine Yba ?_|refine Ybv ?_)
  have hS := hS.bagAdd (a := oa) (cs := vs) fun _ h => h.row
  refine ⟨X',hX',oa,oc,vs,_,?_,.mem (List.mem_cons_self ..),by simpa using hP.sub fun x hx => List.mem_cons_of_mem _ hx,hS⟩
  simp
end
end Cr
namespace Cr
open Go Go.Proofs
set_option maxRecDepth 100000
set_option maxHeartbeats 8000000
attribute [local irreducible] Calls

def Za8 (n : Nat) (z : Int × Tn × List (List (List UInt8))) (nd : Nd) (p : List (List UInt8)) : Int × Tn × List (List (List UInt8)) :=
 if z.1 = 0 then if (Zbs n z.2.1 nd p).1 = 0 then (0,(Zbs n z.2.1 nd p).2,z.2.2 ++ [p]) else ((Zbs n z.2.1 nd p).1,(Zbs n z.2.1 nd p).2,z.2.2) else z
def Zl8 (t : Tn) : List (List (List UInt8)) → Tn
 | [] => t
 | p :: l => (Zd6 (Zl8 t l) p).2
theorem Zl7 {n : Nat} {t : Tn} (ht : TreeOk n t) : ∀ l,TreeOk n (Zl8 t l)
 | [] => ht
 | p :: l => Zg5 (Zl7 ht l) p
theorem Zkg {n : Nat} {z : Int × Tn × List (List (List UInt8))} (ht : TreeOk n z.2.1) (nd : Nd) (p : List (List UInt8)) : TreeOk n (Za8 n z nd p).2.1 := by
 unfold Za8
 split
 ·split
  ·exact Zrt ht nd p
  ·exact Zrt ht nd p
 ·exact ht
section
variable {c f tp n : Nat} {b : Int} {T : Int → Option Nd} {t : Tn} {X Y : List RowD}
theorem Z22 (ht : TreeOk n t) (tb be b3 bd : Nat) (name : List UInt8) (e : Int) (nd : Nd) (a : Option Addr) (q : Nat) (pa : Option Addr) (p : List (List UInt8)) (pc : Nat) (da : Option Addr) (dc : Nat) (done : List (List (List UInt8))) (vs : List Value) (W : World) (F : Nat → Prop) (hT : TreeRo W F f tp n b T) (hG : Lg W F)
  (htb : Ro W F (pts tb (.cells (List.toArray [.pointer (some ⟨c,0,none⟩),.string (str name)]) 107 (0,0)))) (hb3 : Ro W F (pts b3 (.cells (List.toArray [.pointer (some ⟨tb,0,none⟩)]) 30 (0,0)))) (hY : Ro W F (bag Y)) (hp : RX Y pa (strV p)) (hpc : p.length ≤ pc) (hpl : p.length ≤ 1048576) (ha : Ro W F (bytes a nd.data)) (hP : PathsRd Y done vs) (hdc : done.length ≤ dc) (hdl : done.length ≤ 1048576)
  (hS : St W F [chR c f b T (Nt t) X,own 40 1 da dc vs,pts bd (.cells (List.toArray [.slice da done.length dc]) 115 (0,0)),pts be (.cells (List.toArray [.int .i64 e]) 31 (0,0))] W) :
  Calls Tryz.prog 50 #[.agg (List.toArray [.int .i64 nd.st.kind,.int .i64 nd.st.mode,.int .i64 nd.st.owner,.int .i64 nd.st.group,.slice a nd.data.length q]),.slice pa p.length pc,.pointer (some ⟨be,0,none⟩),.pointer (some ⟨b3,0,none⟩),.pointer (some ⟨bd,0,none⟩)] W (Ret fun v w => v = .tuple #[] ∧ ∃ X' da' dc' vs',(∀ x ∈ X,x ∈ X') ∧ PathsRd Y (Za8 n (e,t,done) nd p).2.2 vs' ∧ (Za8 n (e,t,done) nd p).2.2.length ≤ dc' ∧
   St W F [chR c f b T (Nt (Za8 n (e,t,done) nd p).2.1) X',own 40 1 da' dc' vs',pts bd (.cells (List.toArray [.slice da' (Za8 n (e,t,done) nd p).2.2.length dc']) 115 (0,0)),pts be (.cells (List.toArray [.int .i64 (Za8 n (e,t,done) nd p).1]) 31 (0,0))] w) := by
 have hb3w := hb3
 unfold Za8
 simp only
 by_cases h0 : e = 0
 case neg =>
  rw [if_neg h0]
  refine Zab Tryz.func50 rfl Tryz.ntmps50 rfl ?_
  repeat (first|refine Yd0 ?_|refine Ybh ?_|refine Yap ?_|refine Ya6 (fun _ _ hS _ => ?_)|refine Yeb ?_|refine Yab ?_|refine Ybs ?_)
  exact ⟨rfl,X,da,dc,vs,fun _ h => h,hP,hdc,hS.took⟩
 subst h0
 rw [if_pos rfl]
 have hc := hb3
 refine Zab Tryz.func50 rfl Tryz.ntmps50 rfl ?_
 repeat (first|refine Yd0 ?_|refine Ybi ?_|refine Yap ?_|refine Ya6 (fun _ _ hS _ => ?_)|refine Yea ?_|refine Yab ?_)
 refine Zao (.s 0 (.s 1 (.s 2 (.s 3 (.s 4 (.s 5 (.h 6 (.h 7 .nil .no) .no))))))) mixed (by kernel_rfl) rfl ?_
 have hS := hS.drew
 have htbp := (htb.rd hS).pts
 repeat (first|(refine Zad ?_;first|refine Ya0 ?_|refine Ybq ?_|refine Ybj ?_|refine Yc5 ?_|refine Yb1 ?_|refine Yas ?_|refine Yc2 ?_))
 obtain ⟨_,hcc,_,hw,hbk⟩ := hS.call [false,true]
 refine Zaa _ rfl rfl rfl rfl rfl (Z39 ht nd a q pa p pc _ _ (hT.mono hw) (hG.mono hw) (hw _ ha) (hw _ (hp.ro hY)) hpc hpl hcc) ?_
 rintro _ w ⟨X1,hX1,rfl,hS⟩
 replace hS := hbk hS
 clear hbk hw hcc htbp
 obtain ⟨e,he⟩ : ∃ e,e = (Zbs n t nd p).1 := ⟨_,rfl⟩
 rw [← he]
 generalize (Zbs n t nd p).2 = t' at hS ⊢
 by_cases h0 : e = 0
 ·subst h0
  rw [if_pos rfl]
  repeat (first|refine Yd0 ?_|(refine X_id ?_;first|refine Yaf ?_|refine Ybi ?_|refine Yap ?_|refine Yao (fun _ hS _ => ?_)|refine Ybf (fun _ _ hS _ => ?_))|refine Yea ?_|refine Yab ?_|(refine Zad ?_;first|refine Yay ?_|refine Yas ?_)|(refine Zac ?_;first|refine Ycc ?_))
  have hnw := (hS.rd (List.mem_cons_self ..)).own_row
  refine Zap rfl rfl rfl rfl rfl hS (by rw [hP.1,Nat.mul_one]) hdc hnw rfl (by simp [Value.oneCell']) (by omega) (by simp only [maxLen]; omega) (fun b' q' w hS hq' _ => ?_)
  repeat (first|refine Yd0 ?_|refine Yao (fun _ hS _ => ?_)|refine Ybs ?_)
  refine ⟨rfl,X1,b',q',vs ++ [.slice pa p.length pc],hX1,hP.snoc hpc hp,by simpa using hq',?_⟩
  rw [show (done ++ [p]).length = done.length + 1 by simp]
  exact hS.took
 ·rw [if_neg h0]
  repeat (first|refine Yd0 ?_|refine Ybh ?_|refine Yap ?_|refine Yao (fun _ hS _ => ?_)|refine Yeb ?_|refine Yab ?_|refine Ybs ?_|(refine Zad ?_;first|refine Yay ?_|refine Yas ?_)|(refine Zac ?_;first|refine Ycc ?_))
  exact ⟨rfl,X1,da,dc,vs,hX1,hP,hdc,hS.took⟩
end
end Cr
