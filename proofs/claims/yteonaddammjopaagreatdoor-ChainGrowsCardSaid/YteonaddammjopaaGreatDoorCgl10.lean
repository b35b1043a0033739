/-
  Layer 7 (inode): what is wrong with changes.
  Layer 7 (inode): a map copied; a write noted.
  Layer 7 (inode): Apply.
-/
import Derived.Test.YteonaddammjopaaGreatDoorCgl9
import Derived.Shelf.SlMaps.Clone
namespace Cr
open Go Go.Proofs
set_option maxRecDepth 100000
set_option maxHeartbeats 8000000
attribute [local irreducible] Calls

structure ChgA where
 c : Chg
 a : Option Addr
 k : Nat
abbrev ChgA.cells (x : ChgA) : List Value := [.int .i64 x.c.no,.int .i64 x.c.nd.st.kind,.int .i64 x.c.nd.st.mode,.int .i64 x.c.nd.st.owner,.int .i64 x.c.nd.st.group,.slice x.a x.c.nd.data.length x.k,.bool x.c.drop]
structure Chgs (W : World) (F : Nat → Prop) (a : Option Addr) (l : List ChgA) : Prop where
 row : Ro W F (row a (l.flatMap ChgA.cells))
 all : ∀ x ∈ l,Ro W F (bytes x.a x.c.nd.data)
theorem Chgs.mono {W w : World} {F F' : Nat → Prop} {a : Option Addr} {l : List ChgA} (h : Chgs W F a l) (hw : ∀ r,Ro W F r → Ro w F' r) : Chgs w F' a l := ⟨hw _ h.row,fun x hx => hw _ (h.all x hx)⟩
theorem Zje {l : List ChgA} {i : Nat} {x : ChgA} (h : l[i]? = some x) : ((l.flatMap ChgA.cells).drop (i * 7)).take 7 = x.cells := Zdy (f := ChgA.cells) (fun _ _ => rfl) h
theorem check1_ (x : ChgA) (b : Nat) (cs : List Value) (no : Int) (T : TypeId) (hno : cs[0]? = some (.int .i64 no)) (W : World) (hb : Rd W (pts b (.cells cs.toArray T))) :
  Calls Tryz.prog 212 #[.agg (ChgA.cells x).toArray,.pointer (some ⟨b,0,none⟩)] W (Ret fun v w => v = .bool (decide (x.c.no = no)) ∧ St W noF [] w) := by
 have hbo := hb.ro
 have hS := St.start W
 refine Zas Tryz.func212 rfl Tryz.ntmps212 rfl ?_
 repeat (first|(refine G_id ?_;first|refine Zah ?_|refine Zab rfl rfl ?_)|(refine X_id ?_;first|refine X_yl (Zac rfl rfl) rfl rfl ?_|refine X_yl (Zaf rfl rfl rfl) rfl rfl ?_|refine X_yl (Zao rfl rfl hS.cell) rfl rfl ?_|refine Zeg rfl rfl rfl rfl hS (fun _ _ hS _ => ?_))|(refine C_id ?_;first|refine Zak ?_|refine Zaa ?_)|(refine E_id ?_;first|refine Zae ?_))
 refine X_yl (Zao rfl rfl ((cell_of_row _ b 0 cs.toArray T (0,0) (hbo.rd hS).pts).trans (by simpa using hno))) rfl rfl ?_
 repeat (first|(refine G_id ?_;first|refine Zah ?_|refine Zab rfl rfl ?_)|(refine X_id ?_;first|refine X_yl (Zac rfl rfl) rfl rfl ?_|refine X_yl (Ztf rfl rfl rfl) rfl rfl ?_)|(refine C_id ?_;first|refine Za2 ?_)|(refine E_id ?_;first|refine Zae ?_|refine Zax rfl (Zap rfl) (Ret.mk ?_)))
 exact ⟨rfl,hS.drops⟩
theorem indexFunc_ (a : Option Addr) (i c b : Nat) (l : List ChgA) (cs : List Value) (no : Int) (T : TypeId) (hno : cs[0]? = some (.int .i64 no)) (W : World) (hr0 : Rd W (row a (l.flatMap ChgA.cells))) (hb : Rd W (pts b (.cells cs.toArray T))) (hi : i ≤ l.length) (hl : l.length ≤ 1048576) :
  Calls Tryz.prog 236 #[.slice a i c,.func (.func 212) #[] #[.pointer (some ⟨b,0,none⟩)]] W (Ret fun v w => (∃ z : Int,v = .int .i64 z ∧ (0 ≤ z ↔ no ∈ (l.take i).map (·.c.no)) ∧ -1 ≤ z) ∧ St W noF [] w) := by
 have hbo := hb.ro
 have hr1 := hr0.ro
 have hS := St.start W
 refine Zas Tryz.func236 rfl Tryz.ntmps236 rfl ?_
 repeat (first|(refine G_id ?_;first|refine Zah ?_|refine Zab rfl rfl ?_)|(refine X_id ?_;first|refine X_yl (Zad rfl rfl) rfl rfl ?_|refine X_yl (Zac rfl rfl) rfl rfl ?_|refine X_yl (Zbt rfl rfl) rfl rfl ?_)|(refine C_id ?_;first|refine Zak ?_|refine Zaa ?_|refine Zaq ?_)|(refine E_id ?_;first|refine Zae ?_))
 refine Zb7 (α := Nat) (fun k => [(0,.slice a i c),(1,.func (.func 212) #[] #[.pointer (some ⟨b,0,none⟩)]),(7,.int .i64 (i : Nat)),(8,.int .i64 (k : Nat))])
  (fun k w => k ≤ i ∧ (no ∉ (l.take k).map (·.c.no)) ∧ St W noF [] w) (fun k => i - k) 0 ⟨rfl,rfl,rfl,rfl,trivial⟩ ⟨Nat.zero_le _,by simp,hS⟩ ?_
 clear hS
 rintro k w ⟨hk,hne,hS⟩
 by_cases hlt : k < i
 ·have hx0 : l[k]? = some l[k] := List.getElem?_eq_getElem (by omega)
  generalize l[k] = x at hx0
  have hr := hr1
  have hxs : ((l.flatMap ChgA.cells).drop (k * 7)).take 7 = [.int .i64 x.c.no,.int .i64 x.c.nd.st.kind,.int .i64 x.c.nd.st.mode,.int .i64 x.c.nd.st.owner,.int .i64 x.c.nd.st.group,.slice x.a x.c.nd.data.length x.k,.bool x.c.drop] := Zje hx0
  obtain ⟨xb,xo,rfl⟩ := (hr.rd hS).base (by intro e; rw [e] at hxs; simp at hxs)
  have htk : (l.take (k + 1)).map (·.c.no) = (l.take k).map (·.c.no) ++ [x.c.no] := by rw [List.take_add_one,hx0]; simp
  by_cases hq : x.c.no = no
  ·have hc1 := fun w h => check1_ x b cs no T hno w h
   rw [decide_eq_true hq] at hc1
   repeat (first|(refine G_id ?_;first|refine Zah ?_|refine Zab rfl rfl ?_)|(refine X_id ?_;first|refine X_yl (Zad rfl rfl) rfl rfl ?_|refine X_yl (Zac rfl rfl) rfl rfl ?_|refine X_yl (Za3 rfl rfl rfl (by omega)) rfl rfl ?_|refine X_yl (Zau rfl rfl rfl (by omega) (by omega) (by first|assumption|exact ⟨_,_,rfl⟩)) rfl rfl ?_|refine X_yl (Zbc rfl rfl ((hr.rd hS).cellsX (by omega) hxs rfl)) rfl rfl ?_)|(refine C_id ?_;first|refine Zak ?_|refine Zaa ?_|refine Zaq ?_|refine Zaw ?_|refine Zam rfl ?_)|(refine E_id ?_;first|refine Zae ?_))
   refine Zj9 (first := []) (captured := [.pointer (some ⟨b,0,none⟩)]) rfl rfl rfl rfl rfl (hc1 _ (hbo.rd hS)) ?_
   rintro _ w' ⟨rfl,hS'⟩
   replace hS := hS.plus hS'
   clear hS'
   repeat (first|(refine G_id ?_;first|refine Zah ?_|refine Zab rfl rfl ?_)|(refine X_id ?_;first|refine X_yl (Zad rfl rfl) rfl rfl ?_|refine X_yl (Zac rfl rfl) rfl rfl ?_)|(refine C_id ?_;first|refine Zak ?_|refine Zaa ?_|refine Za2 ?_|refine Zam rfl ?_)|(refine E_id ?_;first|refine Zae ?_|refine Zat ?_|refine Zbh ?_|refine Zax rfl (Zap rfl) (Ret.mk ?_)))
   refine ⟨⟨(k : Nat),rfl,⟨fun _ => ?_,fun _ => by omega⟩,by omega⟩,hS⟩
   have : no ∈ (l.take (k + 1)).map (·.c.no) := by rw [htk,hq]; simp
   exact (List.Sublist.map _ (List.take_sublist_take_left (by omega))).subset this
  ·have hc1 := fun w h => check1_ x b cs no T hno w h
   rw [decide_eq_false hq] at hc1
   repeat (first|(refine G_id ?_;first|refine Zah ?_|refine Zab rfl rfl ?_)|(refine X_id ?_;first|refine X_yl (Zad rfl rfl) rfl rfl ?_|refine X_yl (Zac rfl rfl) rfl rfl ?_|refine X_yl (Za3 rfl rfl rfl (by omega)) rfl rfl ?_|refine X_yl (Zau rfl rfl rfl (by omega) (by omega) (by first|assumption|exact ⟨_,_,rfl⟩)) rfl rfl ?_|refine X_yl (Zbc rfl rfl ((hr.rd hS).cellsX (by omega) hxs rfl)) rfl rfl ?_)|(refine C_id ?_;first|refine Zak ?_|refine Zaa ?_|refine Zaq ?_|refine Zaw ?_|refine Zam rfl ?_)|(refine E_id ?_;first|refine Zae ?_))
   refine Zj9 (first := []) (captured := [.pointer (some ⟨b,0,none⟩)]) rfl rfl rfl rfl rfl (hc1 _ (hbo.rd hS)) ?_
   rintro _ w' ⟨rfl,hS'⟩
   replace hS := hS.plus hS'
   clear hS'
   repeat (first|(refine G_id ?_;first|refine Zah ?_|refine Zab rfl rfl ?_)|(refine X_id ?_;first|refine X_yl (Zad rfl rfl) rfl rfl ?_|refine X_yl (Zbk rfl rfl rfl (w64 (by omega) (by omega))) rfl rfl ?_)|(refine C_id ?_;first|refine Zaa ?_|refine Zaw ?_|refine Zaj rfl ?_)|(refine E_id ?_;first|refine Zae ?_|refine Zbf ?_))
   refine Zbu (k + 1) ⟨rfl,rfl,rfl,rfl,trivial⟩ ⟨by omega,?_,hS⟩ (by omega)
   rw [htk]
   simp only [List.mem_append,List.mem_singleton,not_or]
   exact ⟨hne,fun e => hq e.symm⟩
 ·obtain rfl : k = i := by omega
  repeat (first|(refine G_id ?_;first|refine Zah ?_|refine Zab rfl rfl ?_)|(refine X_id ?_;first|refine X_yl (Zac rfl rfl) rfl rfl ?_|refine X_yl (Za7 rfl rfl rfl (by omega)) rfl rfl ?_)|(refine C_id ?_;first|refine Zak ?_|refine Zaa ?_|refine Za2 ?_|refine Zb0 ?_|refine Zaj rfl ?_)|(refine E_id ?_;first|refine Zae ?_|refine Zav ?_|refine Zaz ?_|refine Zax rfl (Zap rfl) (Ret.mk ?_)))
  exact ⟨⟨-1,rfl,⟨fun h => by omega,fun h => absurd h hne⟩,by omega⟩,hS⟩
theorem Ziv (a : Option Addr) (i c b : Nat) (l : List ChgA) (cs : List Value) (no : Int) (T : TypeId) (hno : cs[0]? = some (.int .i64 no)) (W : World) (hr0 : Rd W (row a (l.flatMap ChgA.cells))) (hb : Rd W (pts b (.cells cs.toArray T))) (hi : i ≤ l.length) (hl : l.length ≤ 1048576) :
  Calls Tryz.prog 211 #[.slice a i c,.func (.func 212) #[] #[.pointer (some ⟨b,0,none⟩)]] W (Ret fun v w => v = .bool (decide (no ∈ (l.take i).map (·.c.no))) ∧ St W noF [] w) := by
 have hS := St.start W
 refine Zas Tryz.func211 rfl Tryz.ntmps211 rfl ?_
 repeat (first|(refine G_id ?_;first|refine Zah ?_|refine Zab rfl rfl ?_)|(refine X_id ?_;first|refine X_yl (Zad rfl rfl) rfl rfl ?_|refine X_yl (Zac rfl rfl) rfl rfl ?_)|(refine C_id ?_;first|refine Zak ?_|refine Zaa ?_)|(refine E_id ?_;first|refine Zae ?_))
 refine Zan _ rfl rfl rfl rfl rfl (indexFunc_ a i c b l cs no T hno _ hr0 hb hi hl) ?_
 rintro _ w ⟨⟨z,rfl,hz,hz1⟩,hS'⟩
 replace hS := hS.plus hS'
 clear hS'
 repeat (first|(refine G_id ?_;first|refine Zah ?_|refine Zab rfl rfl ?_)|(refine X_id ?_;first|refine X_yl (Zac rfl rfl) rfl rfl ?_|refine X_yl (Zte rfl rfl rfl) rfl rfl ?_)|(refine C_id ?_;first|refine Za2 ?_)|(refine E_id ?_;first|refine Zae ?_|refine Zax rfl (Zap rfl) (Ret.mk ?_)))
 refine ⟨?_,hS⟩
 simp [hz]
theorem check_c (tp lp n r : Nat) (a : Option Addr) (c : Nat) (l : List ChgA) (W : World) (hT : Rd W (Zi1 tp lp n r)) (hC : Chgs W noF a l) (hl : l.length ≤ 1048576) (hc : l.length ≤ c) (_ : n ≤ 1048576) :
  Calls Tryz.prog 175 #[.pointer (some ⟨tp,0,none⟩),.slice a l.length c] W (Ret fun v w => v = .int .i64 (Zf2 (l.map ChgA.c) n) ∧ St W noF [] w) := by
 have hTo := hT.ro
 have hS := St.start W
 obtain ⟨cl,hcl⟩ : ∃ cl,cl = l.map ChgA.c := ⟨_,rfl⟩
 have hget : ∀ {i : Nat} {x : ChgA},l[i]? = some x → cl[i]? = some x.c := fun {i x} h => by rw [hcl]; simp [h]
 rw [← hcl]
 refine Zas Tryz.func175 rfl Tryz.ntmps175 rfl ?_
 repeat (first|(refine G_id ?_;first|refine Zah ?_|refine Zab rfl rfl ?_)|(refine X_id ?_;first|refine X_yl (Zad rfl rfl) rfl rfl ?_|refine X_yl (Zac rfl rfl) rfl rfl ?_|refine X_yl (Zbt rfl rfl) rfl rfl ?_)|(refine C_id ?_;first|refine Zak ?_|refine Zaa ?_|refine Zaq ?_)|(refine E_id ?_;first|refine Zae ?_))
 refine Zg8 (α := Unit) (fun _ => [(0,.pointer (some ⟨tp,0,none⟩)),(1,.slice a l.length c)]) (fun _ w => (∀ x ∈ cl,0 ≤ x.no ∧ x.no < n) ∧ St W noF [] w) ?_ ?_
 ·refine Zb7 (α := Nat) (fun i => [(0,.pointer (some ⟨tp,0,none⟩)),(1,.slice a l.length c),(12,.slice a l.length c),(13,.int .i64 (l.length : Nat)),(14,.int .i64 (i : Nat))])
   (fun i w => i ≤ l.length ∧ (∀ x ∈ cl.take i,0 ≤ x.no ∧ x.no < n) ∧ St W noF [] w) (fun i => l.length - i) 0 ⟨rfl,rfl,rfl,rfl,rfl,trivial⟩ ⟨Nat.zero_le _,by simp,hS⟩ ?_
  clear hS
  rintro i w ⟨hi,hall,hS⟩
  by_cases hlt : i < l.length
  ·have hx0 : l[i]? = some l[i] := List.getElem?_eq_getElem (by omega)
   generalize l[i] = x at hx0
   have hr := hC.row
   have hxs : ((l.flatMap ChgA.cells).drop (i * 7)).take 7 = [.int .i64 x.c.no,.int .i64 x.c.nd.st.kind,.int .i64 x.c.nd.st.mode,.int .i64 x.c.nd.st.owner,.int .i64 x.c.nd.st.group,.slice x.a x.c.nd.data.length x.k,.bool x.c.drop] := Zje hx0
   obtain ⟨xb,xo,hxa⟩ := (hr.rd hS).base (by intro e; rw [e] at hxs; simp at hxs)
   rw [hxa] at hr ⊢
   have hgx := hget hx0
   have hbad : (¬ (0 ≤ x.c.no ∧ x.c.no < n)) → Zf2 cl n = 1 := fun h => by
    unfold Zf2
    rw [if_pos]
    refine List.any_eq_true.2 ⟨x.c,List.mem_of_getElem? hgx,?_⟩
    simp; omega
   have htk : cl.take (i + 1) = cl.take i ++ [x.c] := by rw [List.take_add_one,hgx]; rfl
   by_cases h0 : x.c.no < 0
   ·rw [hbad (by omega)]
    repeat (first|(refine G_id ?_;first|refine Zah ?_|refine Zab rfl rfl ?_)|(refine X_id ?_;first|refine X_yl (Za3 rfl rfl rfl (by omega)) rfl rfl ?_|refine X_yl (Zau rfl rfl rfl (by omega) (by omega) (by first|assumption|exact ⟨_,_,rfl⟩)) rfl rfl ?_|refine X_yl (Zbc rfl rfl ((hr.rd hS).cellsX (by omega) hxs rfl)) rfl rfl ?_|refine Za1 rfl rfl rfl rfl hS (fun _ hS _ => ?_)|refine Zbe rfl rfl rfl hS (fun _ _ hS _ => ?_))|(refine C_id ?_;first|refine Zak ?_|refine Zaa ?_|refine Zaq ?_|refine Zaw ?_|refine Zam rfl ?_)|(refine E_id ?_;first|refine Zae ?_))
    refine Zci (.s 0 (.s 1 (.s 2 (.s 3 (.s 4 (.s 5 (.s 6 (.s 7 (.s 8 (.s 9 (.s 10 (.s 11 .nil)))))))))))) mixed (by kernel_rfl) rfl ?_
    have hS := hS.drew
    have hc := hTo
    repeat (first|(refine G_id ?_;first|refine Zah ?_|refine Zab rfl rfl ?_)|(refine X_id ?_;first|refine X_yl (Zac rfl rfl) rfl rfl ?_)|(refine C_id ?_;first|refine Zak ?_|refine Zaa ?_|refine Za2 ?_|refine Zam rfl ?_)|(refine E_id ?_;first|refine Zae ?_|refine Zat ?_|refine Zbh ?_|refine Zax rfl (Zap rfl) (Ret.mk ?_))|(refine Zbj ?_;first|refine Zbw ?_|refine Zag rfl rfl (fun _ => Zad rfl rfl) rfl rfl ?_|refine Zag rfl rfl (fun _ => Zaf rfl rfl rfl) rfl rfl ?_|refine Zag rfl rfl (fun _ => Zbr rfl rfl rfl) rfl rfl ?_|refine Zag rfl rfl (fun _ => Za3 rfl rfl rfl (by omega)) rfl rfl ?_|refine Zbi (fun w' => w'.cell? _ = some _) rfl rfl hS.cell (fun _ hc => Zao rfl rfl hc) rfl rfl ?_|refine GO_no rfl rfl rfl rfl rfl rfl rfl ?_))
    exact ⟨rfl,hS.drops⟩
   ·by_cases h1 : (n : Int) ≤ x.c.no
    ·rw [hbad (by omega)]
     repeat (first|(refine G_id ?_;first|refine Zah ?_|refine Zab rfl rfl ?_)|(refine X_id ?_;first|refine X_yl (Za3 rfl rfl rfl (by omega)) rfl rfl ?_|refine X_yl (Zau rfl rfl rfl (by omega) (by omega) (by first|assumption|exact ⟨_,_,rfl⟩)) rfl rfl ?_|refine X_yl (Zbc rfl rfl ((hr.rd hS).cellsX (by omega) hxs rfl)) rfl rfl ?_|refine Za1 rfl rfl rfl rfl hS (fun _ hS _ => ?_)|refine Zbe rfl rfl rfl hS (fun _ _ hS _ => ?_))|(refine C_id ?_;first|refine Zak ?_|refine Zaa ?_|refine Zaq ?_|refine Zaw ?_|refine Zam rfl ?_)|(refine E_id ?_;first|refine Zae ?_))
     refine Zci (.s 0 (.s 1 (.s 2 (.s 3 (.s 4 (.s 5 (.s 6 (.s 7 (.s 8 (.s 9 (.s 10 (.s 11 .nil)))))))))))) mixed (by kernel_rfl) rfl ?_
     have hS := hS.drew
     have hc := hTo
     repeat (first|(refine G_id ?_;first|refine Zah ?_|refine Zab rfl rfl ?_)|(refine X_id ?_;first|refine X_yl (Zac rfl rfl) rfl rfl ?_)|(refine C_id ?_;first|refine Zak ?_|refine Zaa ?_|refine Za2 ?_|refine Zam rfl ?_)|(refine E_id ?_;first|refine Zae ?_|refine Zat ?_|refine Zbh ?_|refine Zax rfl (Zap rfl) (Ret.mk ?_))|(refine Zbj ?_;first|refine Zbw ?_|refine Zag rfl rfl (fun _ => Zad rfl rfl) rfl rfl ?_|refine Zag rfl rfl (fun _ => Zaf rfl rfl rfl) rfl rfl ?_|refine Zag rfl rfl (fun _ => Zbb rfl rfl rfl) rfl rfl ?_|refine Zag rfl rfl (fun _ => Za7 rfl rfl rfl (by omega)) rfl rfl ?_|refine Zbi (fun w' => w'.cell? _ = some _) rfl rfl hS.cell (fun _ hc => Zao rfl rfl hc) rfl rfl ?_|refine Ze0 rfl rfl rfl rfl (fun _ => Zad rfl rfl) rfl rfl ?_|refine Ze0 rfl rfl rfl rfl (fun _ => Zai rfl rfl) rfl rfl ?_|refine Ze0 rfl rfl rfl rfl (fun _ => Zaf rfl rfl rfl) rfl rfl ?_|refine Ze0 rfl rfl rfl rfl (fun _ => Zda rfl rfl rfl (by omega)) rfl rfl ?_|refine Zeh (fun w' => w'.cell? _ = some _) rfl rfl rfl rfl hS.cell (fun _ hc => Zao rfl rfl hc) rfl rfl ?_|refine Zeh (fun w' => w'.cell? _ = some _) rfl rfl rfl rfl (Zal (hc.rd hS).pts) (fun _ hc => Zao rfl rfl hc) rfl rfl ?_))
     exact ⟨rfl,hS.drops⟩
    ·repeat (first|(refine G_id ?_;first|refine Zah ?_|refine Zab rfl rfl ?_)|(refine X_id ?_;first|refine X_yl (Za3 rfl rfl rfl (by omega)) rfl rfl ?_|refine X_yl (Zau rfl rfl rfl (by omega) (by omega) (by first|assumption|exact ⟨_,_,rfl⟩)) rfl rfl ?_|refine X_yl (Zbc rfl rfl ((hr.rd hS).cellsX (by omega) hxs rfl)) rfl rfl ?_|refine Za1 rfl rfl rfl rfl hS (fun _ hS _ => ?_)|refine Zbe rfl rfl rfl hS (fun _ _ hS _ => ?_))|(refine C_id ?_;first|refine Zak ?_|refine Zaa ?_|refine Zaq ?_|refine Zaw ?_|refine Zam rfl ?_)|(refine E_id ?_;first|refine Zae ?_))
     refine Zci (.s 0 (.s 1 (.s 2 (.s 3 (.s 4 (.s 5 (.s 6 (.s 7 (.s 8 (.s 9 (.s 10 (.s 11 .nil)))))))))))) mixed (by kernel_rfl) rfl ?_
     have hS := hS.drew
     have hc := hTo
     repeat (first|(refine G_id ?_;first|refine Zah ?_|refine Zab rfl rfl ?_)|(refine X_id ?_;first|refine X_yl (Zad rfl rfl) rfl rfl ?_|refine X_yl (Zbk rfl rfl rfl (w64 (by omega) (by omega))) rfl rfl ?_)|(refine C_id ?_;first|refine Zaa ?_|refine Zaw ?_|refine Zaj rfl ?_)|(refine E_id ?_;first|refine Zae ?_|refine Zbf ?_)|(refine Zbj ?_;first|refine Zbw ?_|refine Zag rfl rfl (fun _ => Zad rfl rfl) rfl rfl ?_|refine Zag rfl rfl (fun _ => Zaf rfl rfl rfl) rfl rfl ?_|refine Zag rfl rfl (fun _ => Zbb rfl rfl rfl) rfl rfl ?_|refine Zag rfl rfl (fun _ => Za7 rfl rfl rfl (by omega)) rfl rfl ?_|refine Zbi (fun w' => w'.cell? _ = some _) rfl rfl hS.cell (fun _ hc => Zao rfl rfl hc) rfl rfl ?_|refine Ze0 rfl rfl rfl rfl (fun _ => Zad rfl rfl) rfl rfl ?_|refine Ze0 rfl rfl rfl rfl (fun _ => Zai rfl rfl) rfl rfl ?_|refine Ze0 rfl rfl rfl rfl (fun _ => Zaf rfl rfl rfl) rfl rfl ?_|refine Ze0 rfl rfl rfl rfl (fun _ => Zdv rfl rfl rfl (by omega)) rfl rfl ?_|refine Zeh (fun w' => w'.cell? _ = some _) rfl rfl rfl rfl hS.cell (fun _ hc => Zao rfl rfl hc) rfl rfl ?_|refine Zeh (fun w' => w'.cell? _ = some _) rfl rfl rfl rfl (Zal (hc.rd hS).pts) (fun _ hc => Zao rfl rfl hc) rfl rfl ?_))
     refine Zbu (i + 1) ⟨rfl,rfl,rfl,rfl,rfl,trivial⟩ ⟨by omega,?_,hS.drops⟩ (by omega)
     rw [htk]
     intro y hy
     rcases List.mem_append.1 hy with hy | hy
     ·exact hall y hy
     ·rw [List.mem_singleton] at hy; rw [hy]; omega
  ·obtain rfl : i = l.length := by omega
   rw [List.take_of_length_le (by rw [hcl]; simp)] at hall
   repeat (first|(refine G_id ?_;first|refine Zah ?_|refine Zab rfl rfl ?_)|(refine X_id ?_;first|refine X_yl (Za7 rfl rfl rfl (by omega)) rfl rfl ?_)|(refine C_id ?_;first|refine Zak ?_|refine Zaa ?_|refine Zb0 ?_|refine Zaj rfl ?_)|(refine E_id ?_;first|refine Zae ?_|refine Zav ?_|refine Zaz ?_))
   exact Ziz () ⟨rfl,rfl,trivial⟩ ⟨hall,hS⟩
 clear hS
 rintro _ w ⟨hall,hS⟩
 have hany : ¬ (cl.any (fun c => decide (c.no < 0) || decide ((n : Int) ≤ c.no)) = true) := fun h => by
  obtain ⟨x,hx,hb⟩ := List.any_eq_true.1 h
  have := hall x hx
  simp at hb
  omega
 repeat (first|(refine G_id ?_;first|refine Zah ?_|refine Zab rfl rfl ?_)|(refine X_id ?_;first|refine X_yl (Zad rfl rfl) rfl rfl ?_|refine X_yl (Zbt rfl rfl) rfl rfl ?_)|(refine C_id ?_;first|refine Zak ?_|refine Zaa ?_|refine Zaq ?_)|(refine E_id ?_;first|refine Zae ?_))
 have hcll : cl.length = l.length := by rw [hcl]; simp
 obtain ⟨tl,htl⟩ : ∃ tl : List (Int × List UInt8),tl = cl.map fun c => (c.no,[]) := ⟨_,rfl⟩
 have htll : tl.length = l.length := by rw [htl]; simp [hcll]
 have htwC : Zmu cl = Zcy tl l.length := by unfold Zmu; rw [← htl,hcll]
 have hmn : ∀ i,(tl.take i).map (·.1) = (l.take i).map (·.c.no) := fun i => by rw [htl,hcl]; simp [List.map_take,Function.comp_def]
 refine Zg8 (α := Unit) (fun _ => [(0,.pointer (some ⟨tp,0,none⟩)),(1,.slice a l.length c)]) (fun _ w => Zmu cl = false ∧ St W noF [] w) ?_ ?_
 ·refine Zb7 (α := Nat) (fun i => [(0,.pointer (some ⟨tp,0,none⟩)),(1,.slice a l.length c),(31,.slice a l.length c),(32,.int .i64 (l.length : Nat)),(33,.int .i64 (i : Nat))])
   (fun i w => i ≤ l.length ∧ Zcy tl i = false ∧ St W noF [] w) (fun i => l.length - i) 0 ⟨rfl,rfl,rfl,rfl,rfl,trivial⟩ ⟨Nat.zero_le _,rfl,hS⟩ ?_
  clear hS
  rintro i w ⟨hi,htw,hS⟩
  by_cases hlt : i < l.length
  ·have hx0 : l[i]? = some l[i] := List.getElem?_eq_getElem (by omega)
   generalize l[i] = x at hx0
   have hr := hC.row
   have hxs : ((l.flatMap ChgA.cells).drop (i * 7)).take 7 = [.int .i64 x.c.no,.int .i64 x.c.nd.st.kind,.int .i64 x.c.nd.st.mode,.int .i64 x.c.nd.st.owner,.int .i64 x.c.nd.st.group,.slice x.a x.c.nd.data.length x.k,.bool x.c.drop] := Zje hx0
   have hgi : (tl.getD i (0,[])).1 = x.c.no := by rw [List.getD_eq_getElem?_getD,htl,List.getElem?_map,hget hx0]; rfl
   have hts : Zcy tl (i + 1) = (Zcy tl i || decide (x.c.no ∈ (l.take i).map (·.c.no))) := by rw [Zcy,hgi,hmn]
   obtain ⟨xb,xo,hxa⟩ := (hr.rd hS).base (by intro e; rw [e] at hxs; simp at hxs)
   rw [hxa] at hr ⊢
   by_cases hq : x.c.no ∈ (l.take i).map (·.c.no)
   ·have hcc := fun w b cs T h1 h2 h3 => Ziv (some ⟨xb,xo,none⟩) i c b l cs x.c.no T h1 w h2 h3 (by omega) hl
    rw [decide_eq_true hq] at hcc hts
    have hone : Zf2 cl n = 8 := by
     unfold Zf2
     rw [if_neg hany,if_pos]
     rw [htwC]
     cases hb : Zcy tl l.length
     ·exfalso
      have h1 := (Ze4 tl l.length (by omega)).1 hb
      have h2 := (Ze4 tl (i + 1) (by omega)).2 (h1.sublist ((List.take_sublist_take_left (by omega)).map _))
      rw [hts] at h2
      simp at h2
     ·rfl
    rw [hone]
    repeat (first|(refine G_id ?_;first|refine Zah ?_|refine Zab rfl rfl ?_)|(refine X_id ?_;first|refine X_yl (Zad rfl rfl) rfl rfl ?_|refine X_yl (Zac rfl rfl) rfl rfl ?_|refine X_yl (Za3 rfl rfl rfl (by omega)) rfl rfl ?_|refine X_yl (Zau rfl rfl rfl (by omega) (by omega) (by first|assumption|exact ⟨_,_,rfl⟩)) rfl rfl ?_|refine X_yl (Zbc rfl rfl ((hr.rd hS).cellsX (by omega) hxs rfl)) rfl rfl ?_|refine Za1 rfl rfl rfl rfl hS (fun _ hS _ => ?_)|refine Zbe rfl rfl rfl hS (fun _ _ hS _ => ?_))|(refine C_id ?_;first|refine Zak ?_|refine Zaa ?_|refine Zaq ?_|refine Zaw ?_|refine Zam rfl ?_)|(refine E_id ?_;first|refine Zae ?_))
    refine X_yl (Zcw (l := 0) (h := i) rfl rfl rfl rfl (.inr ⟨_,_,rfl,by omega,by omega,by omega⟩) (.inl ⟨rfl,rfl⟩)) rfl rfl ?_
    rw [sub_zero]
    repeat (first|(refine G_id ?_;first|refine Zab rfl rfl ?_)|(refine X_id ?_;first|refine X_yl (Zdz rfl rfl rfl) rfl rfl ?_))
    rename_i b8 _ _ _ _ _
    refine Zbm _ rfl rfl rfl rfl rfl hS (hcc _ b8 [.int .i64 x.c.no,.int .i64 x.c.nd.st.kind,.int .i64 x.c.nd.st.mode,.int .i64 x.c.nd.st.owner,.int .i64 x.c.nd.st.group,.slice x.a x.c.nd.data.length x.k,.bool x.c.drop] _ rfl (hr.rd hS) (hS.rd (List.mem_cons_self ..))) ?_
    rintro _ w rfl hS
    repeat (first|(refine G_id ?_;first|refine Zah ?_|refine Zab rfl rfl ?_)|(refine X_id ?_;first|refine X_yl (Zac rfl rfl) rfl rfl ?_)|(refine C_id ?_;first|refine Zak ?_|refine Zaa ?_|refine Za2 ?_|refine Zam rfl ?_)|(refine E_id ?_;first|refine Zae ?_|refine Zat ?_|refine Zbh ?_|refine Zax rfl (Zap rfl) (Ret.mk ?_)))
    exact ⟨rfl,hS.drops⟩
   ·have hcc := fun w b cs T h1 h2 h3 => Ziv (some ⟨xb,xo,none⟩) i c b l cs x.c.no T h1 w h2 h3 (by omega) hl
    rw [decide_eq_false hq] at hcc hts
    repeat (first|(refine G_id ?_;first|refine Zah ?_|refine Zab rfl rfl ?_)|(refine X_id ?_;first|refine X_yl (Zad rfl rfl) rfl rfl ?_|refine X_yl (Zac rfl rfl) rfl rfl ?_|refine X_yl (Za3 rfl rfl rfl (by omega)) rfl rfl ?_|refine X_yl (Zau rfl rfl rfl (by omega) (by omega) (by first|assumption|exact ⟨_,_,rfl⟩)) rfl rfl ?_|refine X_yl (Zbc rfl rfl ((hr.rd hS).cellsX (by omega) hxs rfl)) rfl rfl ?_|refine Za1 rfl rfl rfl rfl hS (fun _ hS _ => ?_)|refine Zbe rfl rfl rfl hS (fun _ _ hS _ => ?_))|(refine C_id ?_;first|refine Zak ?_|refine Zaa ?_|refine Zaq ?_|refine Zaw ?_|refine Zam rfl ?_)|(refine E_id ?_;first|refine Zae ?_))
    refine X_yl (Zcw (l := 0) (h := i) rfl rfl rfl rfl (.inr ⟨_,_,rfl,by omega,by omega,by omega⟩) (.inl ⟨rfl,rfl⟩)) rfl rfl ?_
    rw [sub_zero]
    repeat (first|(refine G_id ?_;first|refine Zab rfl rfl ?_)|(refine X_id ?_;first|refine X_yl (Zdz rfl rfl rfl) rfl rfl ?_))
    rename_i b8 _ _ _ _ _
    refine Zbm _ rfl rfl rfl rfl rfl hS (hcc _ b8 [.int .i64 x.c.no,.int .i64 x.c.nd.st.kind,.int .i64 x.c.nd.st.mode,.int .i64 x.c.nd.st.owner,.int .i64 x.c.nd.st.group,.slice x.a x.c.nd.data.length x.k,.bool x.c.drop] _ rfl (hr.rd hS) (hS.rd (List.mem_cons_self ..))) ?_
    rintro _ w rfl hS
    repeat (first|(refine G_id ?_;first|refine Zah ?_|refine Zab rfl rfl ?_)|(refine X_id ?_;first|refine X_yl (Zad rfl rfl) rfl rfl ?_|refine X_yl (Zbk rfl rfl rfl (w64 (by omega) (by omega))) rfl rfl ?_)|(refine C_id ?_;first|refine Zaa ?_|refine Zaw ?_|refine Zaj rfl ?_)|(refine E_id ?_;first|refine Zae ?_|refine Zbf ?_))
    exact Zbu (i + 1) ⟨rfl,rfl,rfl,rfl,rfl,trivial⟩ ⟨by omega,by rw [hts,htw]; rfl,hS.drops⟩ (by omega)
  ·obtain rfl : i = l.length := by omega
   repeat (first|(refine G_id ?_;first|refine Zah ?_|refine Zab rfl rfl ?_)|(refine X_id ?_;first|refine X_yl (Za7 rfl rfl rfl (by omega)) rfl rfl ?_)|(refine C_id ?_;first|refine Zak ?_|refine Zaa ?_|refine Zb0 ?_|refine Zaj rfl ?_)|(refine E_id ?_;first|refine Zae ?_|refine Zav ?_|refine Zaz ?_))
   exact Ziz () ⟨rfl,rfl,trivial⟩ ⟨by rw [htwC]; exact htw,hS⟩
 clear hS
 rintro _ w ⟨htw,hS⟩
 have hcc : Zf2 cl n = badC cl := by unfold Zf2; rw [if_neg hany,if_neg (by simp [htw])]
 rw [hcc]
 repeat (first|(refine G_id ?_;first|refine Zah ?_|refine Zab rfl rfl ?_)|(refine X_id ?_;first|refine X_yl (Zad rfl rfl) rfl rfl ?_|refine X_yl (Zbt rfl rfl) rfl rfl ?_)|(refine C_id ?_;first|refine Zak ?_|refine Zaa ?_|refine Zaq ?_)|(refine E_id ?_;first|refine Zae ?_))
 refine Zb7 (α := Nat) (fun i => [(0,.pointer (some ⟨tp,0,none⟩)),(1,.slice a l.length c),(44,.slice a l.length c),(45,.int .i64 (l.length : Nat)),(46,.int .i64 (i : Nat))])
  (fun i w => i ≤ l.length ∧ badC cl = badC (cl.drop i) ∧ St W noF [] w) (fun i => l.length - i) 0 ⟨rfl,rfl,rfl,rfl,rfl,trivial⟩ ⟨Nat.zero_le _,rfl,hS⟩ ?_
 clear hS
 rintro i w ⟨hi,hbe,hS⟩
 by_cases hlt : i < l.length
 ·have hx0 : l[i]? = some l[i] := List.getElem?_eq_getElem (by omega)
  generalize l[i] = x at hx0
  have hr := hC.row
  have hxs : ((l.flatMap ChgA.cells).drop (i * 7)).take 7 = [.int .i64 x.c.no,.int .i64 x.c.nd.st.kind,.int .i64 x.c.nd.st.mode,.int .i64 x.c.nd.st.owner,.int .i64 x.c.nd.st.group,.slice x.a x.c.nd.data.length x.k,.bool x.c.drop] := Zje hx0
  have hdr : cl.drop i = x.c :: cl.drop (i + 1) := (List.drop_eq_getElem?_toList_append (l := cl) (i := i)).trans (by rw [hget hx0]; rfl)
  obtain ⟨xb,xo,hxa⟩ := (hr.rd hS).base (by intro e; rw [e] at hxs; simp at hxs)
  rw [hxa] at hr ⊢
  cases hdp : x.c.drop
  ·have hb2 : badC cl = if ¬ x.c.nd.st.check = 0 then x.c.nd.st.check else if 512 < x.c.nd.data.length then 2 else badC (cl.drop (i + 1)) := by rw [hbe,hdr,badC,if_neg (by simp [hdp])]
   rw [hdp] at hxs
   have hck := mcheck_ x.c.nd.st
   by_cases hst : x.c.nd.st.check = 0
   ·rw [if_neg (by simp [hst])] at hb2
    rw [hst] at hck
    by_cases h5 : 512 < x.c.nd.data.length
    ·rw [hb2,if_pos h5]
     repeat (first|(refine G_id ?_;first|refine Zah ?_|refine Zab rfl rfl ?_)|(refine X_id ?_;first|(refine Zbm 136 rfl rfl rfl rfl rfl hS (hck _) ?_;rintro _ _ rfl hS)|refine X_yl (Zad rfl rfl) rfl rfl ?_|refine X_yl (Zac rfl rfl) rfl rfl ?_|refine X_yl (Zaf rfl rfl rfl) rfl rfl ?_|refine X_yl (Zbv rfl rfl rfl) rfl rfl ?_|refine X_yl (Zbt rfl rfl) rfl rfl ?_|refine X_yl (Zb1 rfl rfl rfl (by omega)) rfl rfl ?_|refine X_yl (Za3 rfl rfl rfl (by omega)) rfl rfl ?_|refine X_yl (Zhj rfl rfl rfl (by omega)) rfl rfl ?_|refine X_yl (Zau rfl rfl rfl (by omega) (by omega) (by first|assumption|exact ⟨_,_,rfl⟩)) rfl rfl ?_|refine X_yl (Zao rfl rfl hS.cell) rfl rfl ?_|refine X_yl (Zbc rfl rfl hS.cellsN) rfl rfl ?_|refine X_yl (Zbc rfl rfl ((hr.rd hS).cellsX (by omega) hxs rfl)) rfl rfl ?_|refine Za1 rfl rfl rfl rfl hS (fun _ hS _ => ?_)|refine Zbe rfl rfl rfl hS (fun _ _ hS _ => ?_))|(refine C_id ?_;first|refine Zak ?_|refine Zaa ?_|refine Zaq ?_|refine Za2 ?_|refine Zaw ?_|refine Zam rfl ?_|refine Zaj rfl ?_)|(refine E_id ?_;first|refine Zae ?_|refine Zat ?_|refine Zbh ?_|refine Zax rfl (Zap rfl) (Ret.mk ?_)))
     exact ⟨rfl,hS.drops⟩
    ·rw [if_neg h5] at hb2
     repeat (first|(refine G_id ?_;first|refine Zah ?_|refine Zab rfl rfl ?_)|(refine X_id ?_;first|(refine Zbm 136 rfl rfl rfl rfl rfl hS (hck _) ?_;rintro _ _ rfl hS)|refine X_yl (Zad rfl rfl) rfl rfl ?_|refine X_yl (Zac rfl rfl) rfl rfl ?_|refine X_yl (Zaf rfl rfl rfl) rfl rfl ?_|refine X_yl (Zbv rfl rfl rfl) rfl rfl ?_|refine X_yl (Zbt rfl rfl) rfl rfl ?_|refine X_yl (Zb1 rfl rfl rfl (by omega)) rfl rfl ?_|refine X_yl (Za3 rfl rfl rfl (by omega)) rfl rfl ?_|refine X_yl (Zdl rfl rfl rfl (by omega)) rfl rfl ?_|refine X_yl (Zau rfl rfl rfl (by omega) (by omega) (by first|assumption|exact ⟨_,_,rfl⟩)) rfl rfl ?_|refine X_yl (Zbk rfl rfl rfl (w64 (by omega) (by omega))) rfl rfl ?_|refine X_yl (Zao rfl rfl hS.cell) rfl rfl ?_|refine X_yl (Zbc rfl rfl hS.cellsN) rfl rfl ?_|refine X_yl (Zbc rfl rfl ((hr.rd hS).cellsX (by omega) hxs rfl)) rfl rfl ?_|refine Za1 rfl rfl rfl rfl hS (fun _ hS _ => ?_)|refine Zbe rfl rfl rfl hS (fun _ _ hS _ => ?_))|(refine C_id ?_;first|refine Zak ?_|refine Zaa ?_|refine Zaq ?_|refine Zaw ?_|refine Zam rfl ?_|refine Zaj rfl ?_)|(refine E_id ?_;first|refine Zae ?_|refine Zbf ?_))
     exact Zbu (i + 1) ⟨rfl,rfl,rfl,rfl,rfl,trivial⟩ ⟨by omega,hb2,hS.drops⟩ (by omega)
   ·rw [if_pos hst] at hb2
    rw [hb2]
    repeat (first|(refine G_id ?_;first|refine Zah ?_|refine Zab rfl rfl ?_)|(refine X_id ?_;first|(refine Zbm 136 rfl rfl rfl rfl rfl hS (hck _) ?_;rintro _ _ rfl hS)|refine X_yl (Zad rfl rfl) rfl rfl ?_|refine X_yl (Zac rfl rfl) rfl rfl ?_|refine X_yl (Zaf rfl rfl rfl) rfl rfl ?_|refine X_yl (Zbv rfl rfl rfl) rfl rfl ?_|refine X_yl (Zc0 rfl rfl rfl (by omega)) rfl rfl ?_|refine X_yl (Za3 rfl rfl rfl (by omega)) rfl rfl ?_|refine X_yl (Zau rfl rfl rfl (by omega) (by omega) (by first|assumption|exact ⟨_,_,rfl⟩)) rfl rfl ?_|refine X_yl (Zao rfl rfl hS.cell) rfl rfl ?_|refine X_yl (Zbc rfl rfl hS.cellsN) rfl rfl ?_|refine X_yl (Zbc rfl rfl ((hr.rd hS).cellsX (by omega) hxs rfl)) rfl rfl ?_|refine Za1 rfl rfl rfl rfl hS (fun _ hS _ => ?_)|refine Zbe rfl rfl rfl hS (fun _ _ hS _ => ?_))|(refine C_id ?_;first|refine Zak ?_|refine Zaa ?_|refine Zaq ?_|refine Za2 ?_|refine Zaw ?_|refine Zam rfl ?_|refine Zaj rfl ?_)|(refine E_id ?_;first|refine Zae ?_|refine Zat ?_|refine Zbh ?_|refine Zax rfl (Zap rfl) (Ret.mk ?_)))
    exact ⟨rfl,hS.drops⟩
  ·have hb2 : badC cl = badC (cl.drop (i + 1)) := by rw [hbe,hdr,badC,if_pos hdp]
   rw [hdp] at hxs
   repeat (first|(refine G_id ?_;first|refine Zah ?_|refine Zab rfl rfl ?_)|(refine X_id ?_;first|refine X_yl (Zad rfl rfl) rfl rfl ?_|refine X_yl (Zaf rfl rfl rfl) rfl rfl ?_|refine X_yl (Za3 rfl rfl rfl (by omega)) rfl rfl ?_|refine X_yl (Zau rfl rfl rfl (by omega) (by omega) (by first|assumption|exact ⟨_,_,rfl⟩)) rfl rfl ?_|refine X_yl (Zbk rfl rfl rfl (w64 (by omega) (by omega))) rfl rfl ?_|refine X_yl (Zao rfl rfl hS.cell) rfl rfl ?_|refine X_yl (Zbc rfl rfl ((hr.rd hS).cellsX (by omega) hxs rfl)) rfl rfl ?_|refine Za1 rfl rfl rfl rfl hS (fun _ hS _ => ?_)|refine Zbe rfl rfl rfl hS (fun _ _ hS _ => ?_))|(refine C_id ?_;first|refine Zak ?_|refine Zaa ?_|refine Zaq ?_|refine Zaw ?_|refine Zb0 ?_|refine Zam rfl ?_)|(refine E_id ?_;first|refine Zae ?_|refine Zav ?_|refine Zaz ?_))
   exact Zbu (i + 1) ⟨rfl,rfl,rfl,rfl,rfl,trivial⟩ ⟨by omega,hb2,hS.drops⟩ (by omega)
 ·obtain rfl : i = l.length := by omega
  have hb2 : badC cl = 0 := by rw [hbe,List.drop_eq_nil_of_le (by omega)]; rfl
  rw [hb2]
  repeat (first|(refine G_id ?_;first|refine Zah ?_|refine Zab rfl rfl ?_)|(refine X_id ?_;first|refine X_yl (Zac rfl rfl) rfl rfl ?_|refine X_yl (Za7 rfl rfl rfl (by omega)) rfl rfl ?_)|(refine C_id ?_;first|refine Zak ?_|refine Zaa ?_|refine Za2 ?_|refine Zb0 ?_|refine Zaj rfl ?_)|(refine E_id ?_;first|refine Zae ?_|refine Zav ?_|refine Zaz ?_|refine Zax rfl (Zap rfl) (Ret.mk ?_)))
  exact ⟨rfl,hS⟩
end Cr
namespace Cr
open Go Go.Proofs
set_option maxRecDepth 100000
set_option maxHeartbeats 8000000
attribute [local irreducible] Calls

theorem Zqj {P : Program} {o : Oper} {σ : Env} {w : World} {x : Operand} {t xT k e : TypeId} {v : Value} (ho : o.op = .typeAssert x xT t false) (hx : ev σ x = some (.iface t v)) [h : Und P t (.map k e)] : Yl P o σ w v := ⟨fun N ds f ha => by
 have := run_typeAssert_map_sl (P := P) w t xT k e v h.und
 simp [execOp,ho,ha.eval hx,this]⟩
instance : EClone Tryz.prog 213 := ⟨fun {t r es clock w} hb => by
 rw [run_callFunc_extern Tryz.func213 (by kernel_rfl) (by kernel_rfl) (by kernel_rfl) (e := Extern.MapsClone.clone) (by kernel_rfl),run_maps_clone_sl w t hb]
 rfl⟩
theorem mclone_ (r : Nat) (L : List (Int × Value)) (W : World) (h : Rd W (mapq (Value.int .i64) r L)) :
  Calls Tryz.prog 176 #[.map (some r)] W (Ret fun v w => ∃ r2,v = .map (some r2) ∧ St W noF [mapq (Value.int .i64) r2 L] w) := by
 obtain ⟨es,clock,hes,hst,hmp⟩ := h.openMap
 have hb := hmp.pts
 have hS := St.start W
 refine Zas Tryz.func176 rfl Tryz.ntmps176 rfl ?_
 repeat (first|(refine G_id ?_;first|refine Zah ?_|refine Zab rfl rfl ?_)|(refine X_id ?_;first|refine X_yl (Zad rfl rfl) rfl rfl ?_|refine X_yl (Zac rfl rfl) rfl rfl ?_)|(refine C_id ?_;first|refine Zak ?_|refine Zaa ?_)|(refine E_id ?_;first|refine Zae ?_))
 refine X_yl (Zqi rfl rfl rfl) rfl rfl ?_
 repeat (first|(refine G_id ?_;first|refine Zah ?_|refine Zab rfl rfl ?_)|(refine X_id ?_;first|refine X_yl (Zad rfl rfl) rfl rfl ?_)|(refine C_id ?_;first|refine Zak ?_|refine Zaa ?_|refine Zaw ?_|refine Zaj rfl ?_)|(refine E_id ?_;first|refine Zae ?_))
 refine X_yl (Zqe rfl rfl (fun w => by simp [Instr.makeInterface,run_underlying Tryz.underlying238])) rfl rfl ?_
 repeat (first|(refine G_id ?_;first|refine Zab rfl rfl ?_))
 refine Zql rfl rfl rfl (EClone.run hb) rfl rfl ?_
 have hS := (hS.alloc (.map es clock)).head fun h hh => (⟨es,clock,hes,hst,hh⟩ : mapq (Value.int .i64) W.heap.size L h)
 repeat (first|(refine G_id ?_;first|refine Zab rfl rfl ?_))
 refine X_yl (Zqj rfl rfl) rfl rfl ?_
 repeat (first|(refine G_id ?_;first|refine Zah ?_|refine Zab rfl rfl ?_)|(refine X_id ?_;first|refine X_yl (Zac rfl rfl) rfl rfl ?_)|(refine C_id ?_;first|refine Za2 ?_)|(refine E_id ?_;first|refine Zae ?_|refine Zax rfl (Zap rfl) (Ret.mk ?_)))
 exact ⟨_,rfl,hS⟩
abbrev putW (no : Int) (q : Nat) (s : List UInt8) : Wr := ⟨no,⟨some ⟨q,0,none⟩,64,Zec s⟩⟩
theorem put_ (t10 : Nat) (aw : Option Addr) (cw : Nat) (ws : List Wr) (no : Int) (ba : Option Addr) (bc : Nat) (s : List UInt8) (W : World) (F : Nat → Prop) (hb : Ro W F (bytes ba s)) (hcw : ws.length ≤ cw) (hl : ws.length ≤ 1048576)
  (hS : St W F [pts t10 (.cells #[.slice aw ws.length cw] 291),own 237 2 aw cw (ws.flatMap Wr.cells)] W) :
  Calls Tryz.prog 178 #[.int .i64 no,.slice ba s.length bc,.pointer (some ⟨t10,0,none⟩)] W (Ret fun v w => v = .tuple #[] ∧ ∃ aw' cw' q,ws.length + 1 ≤ cw' ∧
   St W F [pts t10 (.cells #[.slice aw' (ws.length + 1) cw'] 291),own 237 2 aw' cw' ((ws ++ [putW no q s]).flatMap Wr.cells),bytes (some ⟨q,0,none⟩) (Zec s)] w) := by
 refine Zas Tryz.func178 rfl Tryz.ntmps178 rfl ?_
 repeat (first|fail)
 refine Zci (.s 0 (.s 1 (.s 2 (.h 3 (.s 4 (.h 5 (.h 6 (.h 7 .nil .no) .no) .no)) .no)))) mixed (by kernel_rfl) rfl ?_
 have hS := hS.drew
 repeat (first|(refine Zbj ?_;first|refine Zag rfl rfl (fun _ => Zad rfl rfl) rfl rfl ?_|refine Zbi (fun w' => w'.cell? _ = some _) rfl rfl hS.cell (fun _ hc => Zao rfl rfl hc) rfl rfl ?_|refine Za8 rfl rfl ?_))
 refine Zan _ rfl rfl rfl rfl rfl (Zoi ba bc s _ (hb.rd hS)) ?_
 rintro _ w ⟨q,rfl,hS'⟩
 replace hS := hS.plus hS'
 clear hS'
 repeat (first|(refine X_id ?_;first|refine Za6 rfl rfl rfl rfl rfl rfl rfl rfl hS (fun _ _ hS _ => ?_))|(refine Zbj ?_;first|refine Zag rfl rfl (fun _ => Zco rfl rfl rfl) rfl rfl ?_|refine Za8 rfl rfl ?_)|(refine Za5 ?_;first|refine And.intro (by repeat (first|exact trivial|refine And.intro (.inl (by decide +kernel)) ?_|refine And.intro (.inr (by first|assumption|exact hS.cell|exact Zal (by assumption)|exact hS.cellI (by omega)|exact hS.cellIP (by omega)|exact hS.cellsN|exact hS.cellB (by omega)|exact hS.cellBA (by omega)|exact (hb.rd hS).cellB' (by omega)|exact hS.cellO 0 (by omega)|exact hS.cellO 1 (by omega)|exact hS.cellIA (by omega)|exact Zal (hc.rd hS).pts|exact hb.rd hS|exact hS.cellO 4 (by omega)|exact hS.cellO 5 (by omega)|exact hS.cellO 6 (by omega)|exact hS.cellO 7 (by omega)|exact hS.cellO 8 (by omega)|exact hS.cellO 9 (by omega)|exact hS.cellO 10 (by omega)|exact hS.cellO 11 (by omega)|exact hS.cellO 12 (by omega)|exact hS.cellO 13 (by omega)|exact hS.cellO 2 (by omega)|exact hS.cellO 3 (by omega))) ?_)) ?_))
 refine Zc4 (n := ws.length) (m := 1) rfl rfl rfl rfl rfl hS (by rw [wr_len]) hcw ((hS.rd (List.mem_cons_self ..)).own_row) (by simp) (by simp [Value.oneCell']) (by omega) (by simp only [maxLen]; omega) (fun a' c' w hS hc' _ => ?_)
 repeat (first|(refine X_id ?_;first|refine Za1 rfl rfl rfl rfl hS (fun _ hS _ => ?_))|(refine E_id ?_;first|refine Zer rfl (Ret.mk ?_))|(refine Zbj ?_;first|refine Zbw ?_|refine Za8 rfl rfl ?_)|(refine Za5 ?_;first|refine And.intro (by repeat (first|exact trivial|refine And.intro (.inl (by decide +kernel)) ?_|refine And.intro (.inr (by first|assumption|exact hS.cell|exact Zal (by assumption)|exact hS.cellI (by omega)|exact hS.cellIP (by omega)|exact hS.cellsN|exact hS.cellB (by omega)|exact hS.cellBA (by omega)|exact (hb.rd hS).cellB' (by omega)|exact hS.cellO 0 (by omega)|exact hS.cellO 1 (by omega)|exact hS.cellIA (by omega)|exact Zal (hc.rd hS).pts|exact hb.rd hS|exact hS.cellO 4 (by omega)|exact hS.cellO 5 (by omega)|exact hS.cellO 6 (by omega)|exact hS.cellO 7 (by omega)|exact hS.cellO 8 (by omega)|exact hS.cellO 9 (by omega)|exact hS.cellO 10 (by omega)|exact hS.cellO 11 (by omega)|exact hS.cellO 12 (by omega)|exact hS.cellO 13 (by omega)|exact hS.cellO 2 (by omega)|exact hS.cellO 3 (by omega))) ?_)) ?_))
 refine ⟨rfl,a',c',q,hc',?_⟩
 rw [List.flatMap_append]
 have h := hS.took (out := [pts t10 (.cells #[.slice a' (ws.length + 1) c'] 291),own 237 2 a' c' (ws.flatMap Wr.cells ++ [.int .i64 no,.slice (some ⟨q,0,none⟩) 64 64]),bytes (some ⟨q,0,none⟩) (Zec s)])
 have e : (List.flatMap Wr.cells [putW no q s]) = [.int .i64 no,.slice (some ⟨q,0,none⟩) 64 64] := by simp [Wr.cells,Zc5]
 rw [e]
 exact h
end Cr
namespace Cr
open Go Go.Proofs
set_option maxRecDepth 100000
set_option maxHeartbeats 16000000
attribute [local irreducible] Calls

def Zjd (A : AV) (l : List Chg) : AV := l.foldl (fun A c => delA c.no A) A
theorem delAV_snoc {A : AV} {l : List Chg} {i : Nat} {c : Chg} (h : l[i]? = some c) : Zjd A (l.take (i + 1)) = delA c.no (Zjd A (l.take i)) := by
 unfold Zjd
 rw [List.take_add_one,h]
 simp
theorem Zni : ∀ (l : List Chg) (A : AV),AV.ents (Zjd A l) = Zfl A.ents l
 | [],_ => rfl
 | c :: l,A => by
  have ih := Zni l (delA c.no A)
  have e : Zjd A (c :: l) = Zjd (delA c.no A) l := rfl
  have e2 : Zfl A.ents (c :: l) = Zfl (delA c.no A.ents) l := rfl
  rw [e,e2,ih]
  congr 1
  exact (Zs4 SV.s).symm
theorem Zp6 : ∀ (l : List Chg) (A : AV),(Zjd A l).Sublist A
 | [],_ => List.Sublist.refl _
 | c :: l,A => (Zp6 l (delA c.no A)).trans Zom
theorem Zr9 (n : Nat) : ∀ (l : List Chg) (z : ApS) (c : Chg),z.run n (l ++ [c]) = (z.run n l).bind fun z => z.step n c
 | [],z,c => by simp [ApS.run]
 | x :: l,z,c => by
  simp only [List.cons_append,ApS.run]
  cases z.step n x with
  | none => rfl
  | some z2 => exact Zr9 n l z2 c
theorem Zsa (n : Nat) : ∀ (l m : List Chg) (z : ApS),z.run n l = none → z.run n (l ++ m) = none
 | [],_,_,h => by cases h
 | x :: l,m,z,h => by
  simp only [List.cons_append,ApS.run] at h ⊢
  cases hs : z.step n x with
  | none => rfl
  | some z2 =>
   rw [hs] at h
   exact Zsa n l m z2 h
structure ApZ where
 i : Nat
 A : AV
 fa : Option Addr
 fc : Nat
 fl : List Int
 aw : Option Addr
 cw : Nat
 ws : List Wr
 X : List RowD
structure ApI (A0 : AV) (n nb : Nat) (cl : List Chg) (z : ApZ) : Prop where
 hi : z.i ≤ cl.length
 run : (ApS.start A0.ents nb cl).run n (cl.take z.i) = some ⟨z.A.ents,z.fl,z.ws.map Wr.data⟩
 fX : (z.fa,ints .i64 z.fl) ∈ z.X
 fcap : z.fl.length ≤ z.fc
 wcap : z.ws.length ≤ z.cw
 wX : ∀ v ∈ z.ws,(v.x.a,bv v.x.s) ∈ z.X
 aX : ∀ x ∈ z.A,x ∈ A0 ∨ ((x.2.da,bv x.2.s.nd.data) ∈ z.X ∧ (x.2.ba,ints .i64 x.2.s.blocks) ∈ z.X)
 wl : z.ws.length ≤ 9 * z.i
 flow : ∀ b ∈ z.fl,0 ≤ b ∧ b < nb
theorem Yl_minI {P : Program} {o : Oper} {σ : Env} {w : World} {x y : Operand} {ts : Array TypeId} {a b : Int} (ho : o.op = .call { callee := .builtin .min,args := #[x,y],argTypes := ts }) (hx : ev σ x = some (.int .i64 a)) (hy : ev σ y = some (.int .i64 b)) : Yl P o σ w (.int .i64 (min a b)) := ⟨fun N ds f ha => by
 simp [execOp,ho,resolve,invoke,builtin,ha.eval hx,ha.eval hy,Builtin.min_,Builtin.min2]
 split <;> omega⟩
theorem put_n (t10 : Nat) (aw : Option Addr) (cw : Nat) (ws : List Wr) (no : Int) (ba : Option Addr) (bn bc : Nat) (s : List UInt8) (W : World) (F : Nat → Prop) (hb : Ro W F (bytes ba s)) (hn : s.length = bn) (hcw : ws.length ≤ cw) (hl : ws.length ≤ 1048576)
  (hS : St W F [pts t10 (.cells #[.slice aw ws.length cw] 291),own 237 2 aw cw (ws.flatMap Wr.cells)] W) :
  Calls Tryz.prog 178 #[.int .i64 no,.slice ba bn bc,.pointer (some ⟨t10,0,none⟩)] W (Ret fun v w => v = .tuple #[] ∧ ∃ aw' cw' q,ws.length + 1 ≤ cw' ∧
   St W F [pts t10 (.cells #[.slice aw' (ws.length + 1) cw'] 291),own 237 2 aw' cw' ((ws ++ [putW no q s]).flatMap Wr.cells),bytes (some ⟨q,0,none⟩) (Zec s)] w) := by
 subst hn
 exact put_ t10 aw cw ws no ba bc s W F hb hcw hl hS
theorem Zon (d : List UInt8) (i h : Nat) (hh : h = min (64 * (i + 1)) d.length) : Zec ((d.drop (64 * i)).take (h - 64 * i)) = Zhq d i := by
 unfold Zhq
 congr 1
 subst hh
 by_cases h1 : 64 * (i + 1) ≤ d.length
 ·rw [Nat.min_eq_left h1,show 64 * (i + 1) - 64 * i = 64 by omega]
 ·rw [Nat.min_eq_right (by omega),List.take_of_length_le (by rw [List.length_drop]; exact Nat.le_refl _),List.take_of_length_le (by rw [List.length_drop]; omega)]
theorem Zro {n : Nat} {bs : List Int} {d : List UInt8} {i : Nat} {b : Int} (h : bs[i]? = some b) : (Zdt n bs d).take (i + 1) = (Zdt n bs d).take i ++ [(1 + (n : Int) + b,Zhq d i)] := by
 have hi := (List.getElem?_eq_some_iff.1 h).1
 rw [List.take_add_one]
 congr 1
 unfold Zdt
 rw [List.getElem?_map,List.getElem?_range hi]
 simp [List.getD_eq_getElem?_getD,h]
theorem row_take {a : Option Addr} {cs : List Value} (k : Nat) : ∀ h,row a cs h → ∃ h',row a (cs.take k) h' ∧ ∀ b o,h' b = some o → h b = some o := fun h hh => by
 have := Zn4 (a := a) (cs := cs) (cs' := cs.take k) (l := 0) (e := 1) (c := 1) (fun j v hv => by
  rw [List.getElem?_take] at hv
  split at hv
  ·simpa using hv
  ·cases hv) (by omega) h hh
 rwa [sub_zero] at this
theorem row_drop {a : Option Addr} {cs : List Value} {k c : Nat} (hc : cs.length ≤ c) (hk : k ≤ cs.length) : ∀ h,row a cs h → ∃ h',row (sub a k 1 c) (cs.drop k) h' ∧ ∀ b o,h' b = some o → h b = some o :=
 Zn4 (fun j v hv => by rw [List.getElem?_drop] at hv; rw [Nat.mul_one]; exact hv) (fun e => List.drop_eq_nil_of_le (by omega))
theorem Zsh {β : Type} {k : Int} {v : β} {y : Int × β} : ∀ {A : List (Int × β)},y ∈ setA k v A → y = (k,v) ∨ y ∈ A
 | [],h => by simp [setA] at h; exact .inl h
 | x :: A,h => by
  unfold setA at h
  split at h
  ·rcases List.mem_cons.1 h with h | h
   ·exact .inl h
   ·exact .inr (List.mem_cons_of_mem _ h)
  ·rcases List.mem_cons.1 h with h | h
   ·exact .inr (h ▸ List.mem_cons_self ..)
   ·exact (Zsh h).imp id (List.mem_cons_of_mem _)
theorem Zog {s : List UInt8} (h : s.length = 64) : Zec s = s := by rw [Zsv (by omega),h]; simp
structure BlI (n : Nat) (bs : List Int) (d : List UInt8) (ws : List Wr) (X : List RowD) (i cw' : Nat) (ws' : List Wr) (X' : List RowD) : Prop where
 data : ws'.map Wr.data = ws.map Wr.data ++ (Zdt n bs d).take i
 cap : ws'.length ≤ cw'
 wX : ∀ v ∈ ws',(v.x.a,bv v.x.s) ∈ X'
 sub : ∀ r ∈ X,r ∈ X'
theorem BlI.len {n : Nat} {bs : List Int} {d : List UInt8} {ws : List Wr} {X : List RowD} {i cw' : Nat} {ws' : List Wr} {X' : List RowD} (h : BlI n bs d ws X i cw' ws' X') (hi : i ≤ bs.length) : ws'.length = ws.length + i := by
 have := congrArg List.length h.data
 simp only [List.length_map,List.length_append,List.length_take,Zdt,List.length_range] at this
 omega
section
variable {rd fs : List Int} {tp lp p j m n nb : Nat} {T : Tb}
theorem qlog_up {dat : List (List UInt8)} : ∀ h,qlog lp p j m dat h → qlog lp p j (m + 1) dat h := fun h ⟨D,done,hq,hs⟩ => ⟨D,done,⟨hq.q,hq.line,hq.d0,by have := hq.dm; omega,hq.jl,hq.at_⟩,hs⟩
theorem Zrd : ∀ h,itab rd fs tp lp p j m n nb T h → itab rd fs tp lp p j (m + 1) n nb T h := fun _ ⟨r,A,dat,hok,hs⟩ =>
 ⟨r,A,dat,hok,Sep.mono_tail (fun _ h => Sep.mono_tail (fun _ h => Sep.mono_tail (fun _ h => Sep.mono_head qlog_up h) h) h) hs⟩
theorem apply_ (a : Option Addr) (c : Nat) (l : List ChgA) (W : World) (F : Nat → Prop) (hG : Gl W F rd fs) (hC : Chgs W F a l) (hl : l.length ≤ 1000) (hlc : l.length ≤ c) (hm : (m : Int) < last) (hS : St W F [itab rd fs tp lp p j m n nb T] W) :
  Calls Tryz.prog 124 #[.pointer (some ⟨tp,0,none⟩),.slice a l.length c] W (Ret fun v w => v = .int .i64 (Zhr T nb (j / 2) (l.map ChgA.c)).1 ∧ St W F [itab rd fs tp lp p j (m + 1) n nb (Zhr T nb (j / 2) (l.map ChgA.c)).2] w) := by
 obtain ⟨r,A,dat,hok,hS⟩ := hS.openItab
 have hE := hok.enc
 have htl := hok.tlen
 have hn4 := hok.n4
 obtain ⟨cl,hcl⟩ : ∃ cl,cl = l.map ChgA.c := ⟨_,rfl⟩
 have hcll : cl.length = l.length := by rw [hcl]; simp
 have hget : ∀ {i : Nat} {x : ChgA},l[i]? = some x → cl[i]? = some x.c := fun {i x} h => by rw [hcl]; simp [h]
 rw [← hcl]
 obtain ⟨F2,hS2,hro,hw,hbk⟩ := hS.call []
 clear hS
 have hS := hS2
 clear hS2
 have hTo := hro (Zi1 tp lp n r) (by simp)
 have hmo := hro (mapq (Value.int .i64) r A.vals) (by simp)
 have hbo := hro (bag A.rows) (by simp)
 have hqo := hro (qlog lp p j m dat) (by simp)
 have hC2 := hC.mono hw
 have hG2 := hG.mono hw
 have hql := (qlen (hqo.rd hS)).1
 have hdl := hE.len
 have hc := hTo
 have hC0 : ∀ w rs,St W F2 rs w → Chgs w noF a l := fun w rs h => ⟨(hC2.row.rd h).ro,fun x hx => ((hC2.all x hx).rd h).ro⟩
 have hck := fun w rs (h : St W F2 rs w) => check_c tp lp n r a c l w (hTo.rd h) (hC0 w rs h) (by omega) hlc (by omega)
 rw [← hcl] at hck
 by_cases h0 : Zf2 cl n = 0
 ·have hR := right_of h0
  have hap : Zhr T nb (j / 2) cl = putT T nb (j / 2) cl := by unfold Zhr; rw [htl,if_neg (by simp [h0])]
  rw [hap]
  rw [h0] at hck
  have hlaw := apply_law hE hR
  rw [hok.tab] at hlaw
  refine Zas Tryz.func124 rfl Tryz.ntmps124 rfl ?_
  repeat (first|(refine G_id ?_;first|refine Zah ?_|refine Zab rfl rfl ?_)|(refine X_id ?_;first|refine X_yl (Zad rfl rfl) rfl rfl ?_|refine X_yl (Zac rfl rfl) rfl rfl ?_|refine X_yl (Zbg rfl rfl rfl) rfl rfl ?_)|(refine C_id ?_;first|refine Zak ?_|refine Zaa ?_|refine Zaw ?_|refine Zaj rfl ?_)|(refine E_id ?_;first|refine Zae ?_))
  refine Zbm _ rfl rfl rfl rfl rfl hS (hck _ _ hS) ?_
  rintro _ w rfl hS
  repeat (first|(refine G_id ?_;first|refine Zah ?_|refine Zab rfl rfl ?_)|(refine X_id ?_;first|refine X_yl (Zad rfl rfl) rfl rfl ?_|refine X_yl (Zac rfl rfl) rfl rfl ?_|refine X_yl (Zai rfl rfl) rfl rfl ?_|refine X_yl (Zaf rfl rfl rfl) rfl rfl ?_|refine X_yl (Zb1 rfl rfl rfl (by omega)) rfl rfl ?_|refine X_yl (Zao rfl rfl (Zal (hc.rd hS).pts)) rfl rfl ?_)|(refine C_id ?_;first|refine Zak ?_|refine Zaa ?_|refine Zaw ?_|refine Zaj rfl ?_)|(refine E_id ?_;first|refine Zae ?_))
  refine Zan _ rfl rfl rfl rfl rfl (mclone_ r A.vals _ (hmo.rd hS)) ?_
  rintro _ w ⟨r2,rfl,hS'⟩
  replace hS := hS.plus hS'
  clear hS'
  repeat (first|(refine G_id ?_;first|refine Zah ?_|refine Zab rfl rfl ?_)|(refine X_id ?_;first|refine X_yl (Zad rfl rfl) rfl rfl ?_|refine X_yl (Zac rfl rfl) rfl rfl ?_|refine X_yl (Zbt rfl rfl) rfl rfl ?_)|(refine C_id ?_;first|refine Zak ?_|refine Zaa ?_|refine Zaq ?_)|(refine E_id ?_;first|refine Zae ?_))
  refine Zg8 (α := Unit) (fun _ => [(0,.pointer (some ⟨tp,0,none⟩)),(1,.slice a l.length c),(6,.map (some r2))]) (fun _ w => St W F2 [mapq (Value.int .i64) r2 (AV.vals (Zjd A cl))] w) ?_ ?_
  ·refine Zb7 (α := Nat) (fun i => [(0,.pointer (some ⟨tp,0,none⟩)),(1,.slice a l.length c),(6,.map (some r2)),(32,.slice a l.length c),(33,.int .i64 (l.length : Nat)),(34,.int .i64 (i : Nat))])
    (fun i w => i ≤ l.length ∧ St W F2 [mapq (Value.int .i64) r2 (AV.vals (Zjd A (cl.take i)))] w) (fun i => l.length - i) 0 ⟨rfl,rfl,rfl,rfl,rfl,rfl,trivial⟩ ⟨Nat.zero_le _,hS⟩ ?_
   clear hS
   rintro i w ⟨hi,hS⟩
   by_cases hlt : i < l.length
   ·have hx0 : l[i]? = some l[i] := List.getElem?_eq_getElem (by omega)
    generalize l[i] = x at hx0
    have hr := hC2.row
    have hxs : ((l.flatMap ChgA.cells).drop (i * 7)).take 7 = [.int .i64 x.c.no,.int .i64 x.c.nd.st.kind,.int .i64 x.c.nd.st.mode,.int .i64 x.c.nd.st.owner,.int .i64 x.c.nd.st.group,.slice x.a x.c.nd.data.length x.k,.bool x.c.drop] := Zje hx0
    obtain ⟨xb,xo,hxa⟩ := (hr.rd hS).base (by intro e; rw [e] at hxs; simp at hxs)
    rw [hxa] at hr ⊢
    repeat (first|(refine G_id ?_;first|refine Zah ?_|refine Zab rfl rfl ?_)|(refine X_id ?_;first|refine X_yl (Zad rfl rfl) rfl rfl ?_|refine X_yl (Zaf rfl rfl rfl) rfl rfl ?_|refine X_yl (Za3 rfl rfl rfl (by omega)) rfl rfl ?_|refine X_yl (Zau rfl rfl rfl (by omega) (by omega) (by first|assumption|exact ⟨_,_,rfl⟩)) rfl rfl ?_|refine X_yl (Zao rfl rfl hS.cell) rfl rfl ?_|refine X_yl (Zbc rfl rfl ((hr.rd hS).cellsX (by omega) hxs rfl)) rfl rfl ?_|refine Za1 rfl rfl rfl rfl hS (fun _ hS _ => ?_)|refine Zbe rfl rfl rfl hS (fun _ _ hS _ => ?_))|(refine C_id ?_;first|refine Zak ?_|refine Zaa ?_|refine Zaq ?_|refine Zaw ?_|refine Zam rfl ?_)|(refine E_id ?_;first|refine Zae ?_))
    have hS := hS.pick [1,0]
    refine Zqn (mk := Value.int .i64) (k := x.c.no) rfl rfl rfl rfl hS (fun w hS => ?_)
    repeat (first|(refine G_id ?_;first|refine Zah ?_|refine Zab rfl rfl ?_)|(refine X_id ?_;first|refine X_yl (Zad rfl rfl) rfl rfl ?_|refine X_yl (Zbk rfl rfl rfl (w64 (by omega) (by omega))) rfl rfl ?_)|(refine C_id ?_;first|refine Zaa ?_)|(refine E_id ?_;first|refine Zae ?_|refine Zbf ?_))
    refine Zbu (i + 1) ⟨rfl,rfl,rfl,rfl,rfl,rfl,trivial⟩ ⟨by omega,?_⟩ (by omega)
    rw [delAV_snoc (hget hx0),← delM_A]
    exact hS.pick [0]
   ·obtain rfl : i = l.length := by omega
    rw [List.take_of_length_le (by omega)] at hS
    repeat (first|(refine G_id ?_;first|refine Zah ?_|refine Zab rfl rfl ?_)|(refine X_id ?_;first|refine X_yl (Za7 rfl rfl rfl (by omega)) rfl rfl ?_)|(refine C_id ?_;first|refine Zak ?_|refine Zaa ?_|refine Zb0 ?_|refine Zaj rfl ?_)|(refine E_id ?_;first|refine Zae ?_|refine Zav ?_|refine Zaz ?_))
    exact Ziz () ⟨rfl,rfl,rfl,trivial⟩ hS
  clear hS
  rintro _ w hS
  have hsub := Zp6 cl A
  have hents := Zni cl A
  repeat (first|(refine G_id ?_;first|refine Zab rfl rfl ?_)|(refine X_id ?_;first|refine X_yl (Zad rfl rfl) rfl rfl ?_)|(refine C_id ?_;first|refine Zak ?_|refine Zaa ?_))
  refine Zan _ rfl rfl rfl rfl rfl (free_ tp lp n r r2 p j m nb (Zjd A cl) dat _ (hTo.rd hS) (hqo.rd hS) hE.len (hS.rd (List.mem_cons_self ..)) (fun x hx => (hbo.rd hS).bag (AV.row_b (hsub.mem hx))) (fun x hx => by
   have h1 := (hE.ok _ (AV.mem_ents (hsub.mem hx))).cnt
   have h2 := Zq6 (hE.ok _ (AV.mem_ents (hsub.mem hx))).len
   simp only at h1 h2
   omega) ((by rw [← Zpp]; exact hE.nodup : (Zb9 A).Nodup).sublist (hsub.map _))) ?_
  rintro _ w ⟨fa,fc,rfl,hfc,hS'⟩
  replace hS := (hS.plus hS').toBag Zhe
  clear hS'
  repeat (first|(refine G_id ?_;first|refine Zah ?_|refine Zab rfl rfl ?_)|(refine X_id ?_;first|refine X_yl (Zad rfl rfl) rfl rfl ?_|refine X_yl (Zac rfl rfl) rfl rfl ?_|refine X_yl (Zbt rfl rfl) rfl rfl ?_|refine X_yl (Zdz rfl rfl rfl) rfl rfl ?_|refine Zbe rfl rfl rfl hS (fun _ _ hS _ => ?_))|(refine C_id ?_;first|refine Zak ?_|refine Zaa ?_|refine Zaq ?_)|(refine E_id ?_;first|refine Zae ?_))
  rename_i t10 _ _
  have hS := hS.own_none 237 2 none
  have hS := hS.pick [1,0,0,0]
  obtain ⟨z0,hz0⟩ : ∃ z0 : ApZ,z0 = ⟨0,Zjd A cl,fa,fc,Zh4 (AV.ents (Zjd A cl)) nb,none,0,[],[(fa,ints .i64 (Zh4 (AV.ents (Zjd A cl)) nb))]⟩ := ⟨_,rfl⟩
  have hI0 : ApI A n nb cl z0 := by
   subst hz0
   refine ⟨Nat.zero_le _,?_,List.mem_singleton.2 rfl,hfc,Nat.le_refl _,fun v hv => (by cases hv),fun x hx => .inl (hsub.mem hx),Nat.le_refl _,fun b hb => (freeL_mem.1 hb).1⟩
   simp only [List.take_zero,ApS.run,ApS.start,hents]
   rfl
  have hbound : ∀ z,ApI A n nb cl z → z.ws.length ≤ 9000 := fun z hz => by have h1 := hz.wl; have h2 := hz.hi; omega
  refine Zg8 (α := ApZ) (fun z => [(0,.pointer (some ⟨tp,0,none⟩)),(6,.map (some r2)),(10,.pointer (some ⟨t10,0,none⟩))]) (fun z w => (z.i = cl.length ∧ ApI A n nb cl z) ∧ St W F2 [pts t10 (.cells #[.slice z.aw z.ws.length z.cw] 291),own 237 2 z.aw z.cw (z.ws.flatMap Wr.cells),bag z.X,mapq (Value.int .i64) r2 (AV.vals z.A)] w) ?_ ?_
  ·refine Zb7 (α := ApZ) (fun z => [(0,.pointer (some ⟨tp,0,none⟩)),(6,.map (some r2)),(9,.slice z.fa z.fl.length z.fc),(10,.pointer (some ⟨t10,0,none⟩)),(11,.func (.func 178) #[] #[.pointer (some ⟨t10,0,none⟩)]),(46,.slice a l.length c),(47,.int .i64 (l.length : Nat)),(48,.int .i64 (z.i : Nat))])
    (fun z w => ApI A n nb cl z ∧ St W F2 [pts t10 (.cells #[.slice z.aw z.ws.length z.cw] 291),own 237 2 z.aw z.cw (z.ws.flatMap Wr.cells),bag z.X,mapq (Value.int .i64) r2 (AV.vals z.A)] w) (fun z => l.length - z.i) z0 (by subst hz0; exact ⟨rfl,rfl,rfl,rfl,rfl,rfl,rfl,rfl,trivial⟩) (by subst hz0; exact ⟨hI0,hS⟩) ?_
   clear hS hI0 hz0
   rintro ⟨i,Az,fa,fc,fl,aw,cw,ws,X⟩ w ⟨hI,hS⟩
   have hwl := hbound _ hI
   have hii := hI.hi
   have hfcap := hI.fcap
   have hwcap := hI.wcap
   simp only at hS hwl hii hfcap hwcap ⊢
   by_cases hlt : i < l.length
   ·have hx0 : l[i]? = some l[i] := List.getElem?_eq_getElem (by omega)
    generalize l[i] = x at hx0
    have hgx := hget hx0
    have hr := hC2.row
    have hxs : ((l.flatMap ChgA.cells).drop (i * 7)).take 7 = [.int .i64 x.c.no,.int .i64 x.c.nd.st.kind,.int .i64 x.c.nd.st.mode,.int .i64 x.c.nd.st.owner,.int .i64 x.c.nd.st.group,.slice x.a x.c.nd.data.length x.k,.bool x.c.drop] := Zje hx0
    have hlow := hR.low _ (List.mem_of_getElem? hgx)
    have hrun : (ApS.start A.ents nb cl).run n (cl.take (i + 1)) = ApS.step n ⟨AV.ents Az,fl,ws.map Wr.data⟩ x.c := by
     rw [List.take_add_one,hgx]
     show (ApS.start A.ents nb cl).run n (cl.take i ++ [x.c]) = _
     rw [Zr9,hI.run]
     rfl
    obtain ⟨xb,xo,hxa⟩ := (hr.rd hS).base (by intro e; rw [e] at hxs; simp at hxs)
    rw [hxa] at hr ⊢
    cases hdp : x.c.drop
    ·rw [hdp] at hxs
     have hokc := hR.ok _ (List.mem_of_getElem? hgx) hdp
     have hb8 := Zq6 hokc.2
     have hokl := hokc.2
     have hdata := hC2.all x (List.mem_of_getElem? hx0)
     by_cases hk : fl.length < nblk x.c.nd.data.length
     ·have hnone : ApS.step n ⟨AV.ents Az,fl,ws.map Wr.data⟩ x.c = none := by unfold ApS.step; rw [if_neg (by simp [hdp]),if_pos hk]
      have hall : (ApS.start A.ents nb cl).run n cl = none := by
       have := Zsa n (cl.take (i + 1)) (cl.drop (i + 1)) _ (hrun.trans hnone)
       rwa [List.take_append_drop] at this
      have hbad : (runT T nb cl).2.2 = true := by
       rcases hlaw with ⟨_,h⟩ | ⟨z,h1,_⟩
       ·exact h
       ·rw [hall] at h1; cases h1
      have hp : putT T nb (j / 2) cl = (6,T) := by unfold putT; rw [if_pos hbad]
      rw [hp]
      repeat (first|(refine G_id ?_;first|refine Zah ?_|refine Zab rfl rfl ?_)|(refine X_id ?_;first|(refine Zan 179 rfl rfl rfl rfl rfl (Zsq _ _ (by omega)) ?_;rintro _ _ ⟨rfl,rfl⟩)|refine X_yl (Zad rfl rfl) rfl rfl ?_|refine X_yl (Zac rfl rfl) rfl rfl ?_|refine X_yl (Zaf rfl rfl rfl) rfl rfl ?_|refine X_yl (Zbv rfl rfl rfl) rfl rfl ?_|refine X_yl (Zbt rfl rfl) rfl rfl ?_|refine X_yl (Za3 rfl rfl rfl (by omega)) rfl rfl ?_|refine X_yl (Zhj rfl rfl rfl (by omega)) rfl rfl ?_|refine X_yl (Zau rfl rfl rfl (by omega) (by omega) (by first|assumption|exact ⟨_,_,rfl⟩)) rfl rfl ?_|refine X_yl (Zao rfl rfl hS.cell) rfl rfl ?_|refine X_yl (Zbc rfl rfl ((hr.rd hS).cellsX (by omega) hxs rfl)) rfl rfl ?_|refine Za1 rfl rfl rfl rfl hS (fun _ hS _ => ?_)|refine Zbe rfl rfl rfl hS (fun _ _ hS _ => ?_))|(refine C_id ?_;first|refine Zak ?_|refine Zaa ?_|refine Zaq ?_|refine Za2 ?_|refine Zaw ?_|refine Zam rfl ?_|refine Zaj rfl ?_)|(refine E_id ?_;first|refine Zae ?_|refine Zat ?_|refine Zbh ?_|refine Zax rfl (Zap rfl) (Ret.mk ?_)))
      exact ⟨rfl,((hbk hS.drops).shutItab hok).head Zrd⟩
     ·obtain ⟨bs,hbs⟩ : ∃ bs,bs = fl.take (nblk x.c.nd.data.length) := ⟨_,rfl⟩
      have hbsl : bs.length = nblk x.c.nd.data.length := by rw [hbs,List.length_take]; omega
      have hbfl : bs.length ≤ fl.length := by omega
      have hbst : bs = fl.take bs.length := by rw [hbsl]; exact hbs
      have hstep : ApS.step n ⟨AV.ents Az,fl,ws.map Wr.data⟩ x.c = some ⟨setA x.c.no ⟨x.c.nd,bs⟩ (AV.ents Az),fl.drop bs.length,ws.map Wr.data ++ (Zdt n bs x.c.nd.data ++ [(1 + x.c.no,stoB ⟨x.c.nd,bs⟩)])⟩ := by
       unfold ApS.step
       rw [if_neg (by simp [hdp]),if_neg hk,← hbs,← hbsl]
      have hib : ∀ w,Calls Tryz.prog 179 #[.int .i64 (x.c.nd.data.length : Nat)] w (Ret fun v w' => v = .int .i64 (bs.length : Nat) ∧ w = w') := fun w => by rw [hbsl]; exact Zsq _ _ (by omega)
      repeat (first|(refine G_id ?_;first|refine Zah ?_|refine Zab rfl rfl ?_)|(refine X_id ?_;first|(refine Zan 179 rfl rfl rfl rfl rfl (hib _) ?_;rintro _ _ ⟨rfl,rfl⟩)|refine X_yl (Zad rfl rfl) rfl rfl ?_|refine X_yl (Zac rfl rfl) rfl rfl ?_|refine X_yl (Zaf rfl rfl rfl) rfl rfl ?_|refine X_yl (Zbv rfl rfl rfl) rfl rfl ?_|refine X_yl (Zbt rfl rfl) rfl rfl ?_|refine X_yl (Za3 rfl rfl rfl (by omega)) rfl rfl ?_|refine X_yl (Zdl rfl rfl rfl (by omega)) rfl rfl ?_|refine X_yl (Zau rfl rfl rfl (by omega) (by omega) (by first|assumption|exact ⟨_,_,rfl⟩)) rfl rfl ?_|refine X_yl (Zao rfl rfl hS.cell) rfl rfl ?_|refine X_yl (Zbc rfl rfl ((hr.rd hS).cellsX (by omega) hxs rfl)) rfl rfl ?_|refine Za1 rfl rfl rfl rfl hS (fun _ hS _ => ?_)|refine Zbe rfl rfl rfl hS (fun _ _ hS _ => ?_))|(refine C_id ?_;first|refine Zak ?_|refine Zaa ?_|refine Zaq ?_|refine Zaw ?_|refine Zam rfl ?_|refine Zaj rfl ?_)|(refine E_id ?_;first|refine Zae ?_))
      rename_i t13 _ _ _ _ _
      refine C_join (α := Nat × Option Addr × Nat) (fun y => [(0,.pointer (some ⟨tp,0,none⟩)),(6,.map (some r2)),(9,.slice fa fl.length fc),(10,.pointer (some ⟨t10,0,none⟩)),(11,.func (.func 178) #[] #[.pointer (some ⟨t10,0,none⟩)]),(13,.pointer (some ⟨t13,0,none⟩)),(14,.int .i64 (bs.length : Nat)),(15,.pointer (some ⟨y.1,0,none⟩)),(46,.slice (some ⟨xb,xo,none⟩) l.length c),(47,.int .i64 (l.length : Nat)),(48,.int .i64 (i : Nat))])
       (fun y w => x.c.nd.data.length ≤ y.2.2 ∧ St W F2 [pts y.1 (.cells (stoV ⟨x.c.nd,bs⟩ y.2.1 y.2.2 fa bs.length).toArray 305),own 5 1 y.2.1 y.2.2 (bv x.c.nd.data),pts t13 (.cells (List.toArray [.int .i64 x.c.no,.int .i64 x.c.nd.st.kind,.int .i64 x.c.nd.st.mode,.int .i64 x.c.nd.st.owner,.int .i64 x.c.nd.st.group,.slice x.a x.c.nd.data.length x.k,.bool false]) 244),
        pts t10 (.cells #[.slice aw ws.length cw] 291),own 237 2 aw cw (ws.flatMap Wr.cells),bag X,mapq (Value.int .i64) r2 (AV.vals Az)] w) ?_ ?_
      ·skip
       refine Zci (.s 0 (.s 1 (.s 2 (.s 3 (.s 4 (.s 5 (.s 8 (.s 9 (.s 10 (.s 11 (.h 6 (.s 7 (.s 12 (.h 13 (.h 14 .nil .no) .no))) (.h 13 (.h 6 (.s 7 (.s 12 (.h 14 .nil .no))) .no) .no)))))))))))) mixed (by kernel_rfl) rfl ?_
       have hS := hS.drew
       repeat (first|(refine Zbj ?_;first|refine Zag rfl rfl (fun _ => Zad rfl rfl) rfl rfl ?_|refine Zag rfl rfl (fun _ => Zaf rfl rfl rfl) rfl rfl ?_|refine Zag rfl rfl (fun _ => Zbv rfl rfl rfl) rfl rfl ?_|refine Zbi (fun w' => w'.cell? _ = some _) rfl rfl hS.cell (fun _ hc => Zao rfl rfl hc) rfl rfl ?_|refine Zbi (fun w' => Zdj w' _ _ _) rfl rfl hS.cellsN (fun _ hc => Zbc rfl rfl hc) rfl rfl ?_))
       refine Zag rfl rfl (fun _ => Zme (l := 0) (h := bs.length) (k := bs.length) rfl rfl rfl rfl rfl ⟨_,_,rfl,by omega,by omega,by omega⟩ ⟨_,_,rfl,by omega,by omega,by omega⟩ (.inl ⟨rfl,rfl⟩)) rfl rfl ?_
       rw [sub_zero,Nat.sub_zero]
       refine Zth ?_ ?_
       ·repeat (first|(refine Zbj ?_;first|refine Za8 rfl rfl ?_))
        refine Zan _ rfl rfl rfl rfl rfl (Zrp x.a x.c.nd.data.length x.k x.c.nd.data _ (hdata.rd hS) rfl (by omega)) ?_
        rintro _ w ⟨da,dc,rfl,_,hdc,hS'⟩
        replace hS := hS.plus hS'
        clear hS'
        repeat (first|(refine X_id ?_;first|refine Za1 rfl rfl rfl rfl hS (fun _ hS _ => ?_)|refine Zbe rfl rfl rfl hS (fun _ _ hS _ => ?_))|(refine Zbj ?_;first|refine Zbw ?_|refine Zag rfl rfl (fun _ => Zco rfl rfl rfl) rfl rfl ?_|refine Za8 rfl rfl ?_)|(refine Za5 ?_;first|refine And.intro (by repeat (first|exact trivial|refine And.intro (.inl (by decide +kernel)) ?_|refine And.intro (.inr (by first|assumption|exact hS.cell|exact Zal (by assumption)|exact hS.cellI (by omega)|exact hS.cellIP (by omega)|exact hS.cellsN|exact ((hr.rd hS).cellX (by omega) hx)|exact hS.cellB (by omega)|exact hS.cellBA (by omega)|exact (hb.rd hS).cellB' (by omega)|exact ((hr.rd hS).cellF (by first|omega|(dsimp only;omega)) hx)|exact hS.cellO 0 (by omega)|exact hS.cellO 1 (by omega)|exact hS.cellIA (by omega)|exact Zal (hc.rd hS).pts|exact hb.rd hS|exact hS.cellO 4 (by omega)|exact hS.cellO 5 (by omega)|exact hS.cellO 6 (by omega)|exact hS.cellO 7 (by omega)|exact hS.cellO 8 (by omega)|exact hS.cellO 9 (by omega)|exact hS.cellO 10 (by omega)|exact hS.cellO 11 (by omega)|exact hS.cellO 12 (by omega)|exact hS.cellO 13 (by omega)|exact hS.cellO 2 (by omega)|exact hS.cellO 3 (by omega))) ?_)) ?_))
        rename_i t15 _ _ _ _ _
        exact Ziz (t15,da,dc) ⟨rfl,rfl,rfl,rfl,rfl,rfl,rfl,rfl,rfl,rfl,rfl,trivial⟩ ⟨hdc,hS.took⟩
       ·repeat (first|(refine X_id ?_;first|refine Zbe rfl rfl rfl hS (fun _ _ hS _ => ?_))|(refine Zbj ?_;first|refine Za8 rfl rfl ?_)|(refine Za5 ?_;first|refine And.intro (by repeat (first|exact trivial|refine And.intro (.inl (by decide +kernel)) ?_|refine And.intro (.inr (by first|assumption|exact hS.cell|exact Zal (by assumption)|exact hS.cellI (by omega)|exact hS.cellIP (by omega)|exact hS.cellsN|exact ((hr.rd hS).cellX (by omega) hx)|exact hS.cellB (by omega)|exact hS.cellBA (by omega)|exact (hb.rd hS).cellB' (by omega)|exact ((hr.rd hS).cellF (by first|omega|(dsimp only;omega)) hx)|exact hS.cellO 0 (by omega)|exact hS.cellO 1 (by omega)|exact hS.cellIA (by omega)|exact Zal (hc.rd hS).pts|exact hb.rd hS|exact hS.cellO 4 (by omega)|exact hS.cellO 5 (by omega)|exact hS.cellO 6 (by omega)|exact hS.cellO 7 (by omega)|exact hS.cellO 8 (by omega)|exact hS.cellO 9 (by omega)|exact hS.cellO 10 (by omega)|exact hS.cellO 11 (by omega)|exact hS.cellO 12 (by omega)|exact hS.cellO 13 (by omega)|exact hS.cellO 2 (by omega)|exact hS.cellO 3 (by omega))) ?_)) ?_))
        refine Zan _ rfl rfl rfl rfl rfl (Zrp x.a x.c.nd.data.length x.k x.c.nd.data _ (hdata.rd hS) rfl (by omega)) ?_
        rintro _ w ⟨da,dc,rfl,_,hdc,hS'⟩
        replace hS := hS.plus hS'
        clear hS'
        repeat (first|(refine X_id ?_;first|refine Za1 rfl rfl rfl rfl hS (fun _ hS _ => ?_))|(refine Zbj ?_;first|refine Zbw ?_|refine Zag rfl rfl (fun _ => Zco rfl rfl rfl) rfl rfl ?_|refine Za8 rfl rfl ?_)|(refine Za5 ?_;first|refine And.intro (by repeat (first|exact trivial|refine And.intro (.inl (by decide +kernel)) ?_|refine And.intro (.inr (by first|assumption|exact hS.cell|exact Zal (by assumption)|exact hS.cellI (by omega)|exact hS.cellIP (by omega)|exact hS.cellsN|exact ((hr.rd hS).cellX (by omega) hx)|exact hS.cellB (by omega)|exact hS.cellBA (by omega)|exact (hb.rd hS).cellB' (by omega)|exact ((hr.rd hS).cellF (by first|omega|(dsimp only;omega)) hx)|exact hS.cellO 0 (by omega)|exact hS.cellO 1 (by omega)|exact hS.cellIA (by omega)|exact Zal (hc.rd hS).pts|exact hb.rd hS|exact hS.cellO 4 (by omega)|exact hS.cellO 5 (by omega)|exact hS.cellO 6 (by omega)|exact hS.cellO 7 (by omega)|exact hS.cellO 8 (by omega)|exact hS.cellO 9 (by omega)|exact hS.cellO 10 (by omega)|exact hS.cellO 11 (by omega)|exact hS.cellO 12 (by omega)|exact hS.cellO 13 (by omega)|exact hS.cellO 2 (by omega)|exact hS.cellO 3 (by omega))) ?_)) ?_))
        rename_i t15 _ _ _ _ _ _
        exact Ziz (t15,da,dc) ⟨rfl,rfl,rfl,rfl,rfl,rfl,rfl,rfl,rfl,rfl,rfl,trivial⟩ ⟨hdc,hS.took⟩
      ·clear hS
       rintro ⟨t15,da,dc⟩ w ⟨hdc,hS⟩
       simp only at hdc hS ⊢
       have hS := (hS.pick [1,4,0,0,0,0,0]).bagAdd Zhe
       have hS := hS.bagPart (List.mem_cons_of_mem _ hI.fX) (row_take bs.length)
       have hbi : (ints .i64 fl).take bs.length = ints .i64 bs := by rw [hbst]; simp [ints,List.map_take]
       simp only [hbi] at hS
       have hS := hS.bagPart (List.mem_cons_of_mem _ (List.mem_cons_of_mem _ hI.fX)) (row_drop (k := bs.length) (c := fc) (by simp only [ints_length]; exact hfcap) (by simp only [ints_length]; exact hbfl))
       have hfi : (ints .i64 fl).drop bs.length = ints .i64 (fl.drop bs.length) := by simp [ints,List.map_drop]
       simp only [hfi] at hS
       obtain ⟨X2,hX2⟩ : ∃ X2,X2 = (sub fa bs.length 1 fc,ints .i64 (fl.drop bs.length)) :: (fa,ints .i64 bs) :: (da,bv x.c.nd.data) :: X := ⟨_,rfl⟩
       rw [← hX2] at hS
       repeat (first|(refine G_id ?_;first|refine Zab rfl rfl ?_)|(refine X_id ?_;first|refine X_yl (Zad rfl rfl) rfl rfl ?_)|(refine C_id ?_;first|refine Zak ?_|refine Zaa ?_))
       refine X_yl (Zcw (l := bs.length) (h := fl.length) rfl rfl rfl rfl (.inl ⟨rfl,rfl⟩) (.inr ⟨_,_,rfl,by omega,by omega,by omega⟩)) rfl rfl ?_
       repeat (first|(refine G_id ?_;first|refine Zah ?_|refine Zab rfl rfl ?_)|(refine X_id ?_;first|refine X_yl (Zad rfl rfl) rfl rfl ?_|refine X_yl (Zac rfl rfl) rfl rfl ?_|refine X_yl (Zaf rfl rfl rfl) rfl rfl ?_|refine X_yl (Zbt rfl rfl) rfl rfl ?_|refine X_yl (Zao rfl rfl hS.cell) rfl rfl ?_)|(refine C_id ?_;first|refine Zak ?_|refine Zaa ?_|refine Zaq ?_)|(refine E_id ?_;first|refine Zae ?_))
       have hsubX : ∀ y ∈ X,y ∈ X2 := fun y hy => by rw [hX2]; exact List.mem_cons_of_mem _ (List.mem_cons_of_mem _ (List.mem_cons_of_mem _ hy))
       have hX2a : (sub fa bs.length 1 fc,ints .i64 (fl.drop bs.length)) ∈ X2 := by rw [hX2]; exact List.mem_cons_self ..
       have hX2b : (fa,ints .i64 bs) ∈ X2 := by rw [hX2]; exact List.mem_cons_of_mem _ (List.mem_cons_self ..)
       have hX2c : (da,bv x.c.nd.data) ∈ X2 := by rw [hX2]; exact List.mem_cons_of_mem _ (List.mem_cons_of_mem _ (List.mem_cons_self ..))
       refine Zg8 (α := Option Addr × Nat × List Wr × List RowD) (fun _ => [(0,.pointer (some ⟨tp,0,none⟩)),(6,.map (some r2)),(9,.slice (sub fa bs.length 1 fc) (fl.length - bs.length) (fc - bs.length)),(10,.pointer (some ⟨t10,0,none⟩)),(11,.func (.func 178) #[] #[.pointer (some ⟨t10,0,none⟩)]),(13,.pointer (some ⟨t13,0,none⟩)),(15,.pointer (some ⟨t15,0,none⟩)),(46,.slice (some ⟨xb,xo,none⟩) l.length c),(47,.int .i64 (l.length : Nat)),(48,.int .i64 (i : Nat))])
        (fun y w => BlI n bs x.c.nd.data ws X2 bs.length y.2.1 y.2.2.1 y.2.2.2 ∧ St W F2 [pts t10 (.cells #[.slice y.1 y.2.2.1.length y.2.1] 291),own 237 2 y.1 y.2.1 (y.2.2.1.flatMap Wr.cells),bag y.2.2.2,pts t15 (.cells (stoV ⟨x.c.nd,bs⟩ da dc fa bs.length).toArray 305),pts t13 (.cells (List.toArray [.int .i64 x.c.no,.int .i64 x.c.nd.st.kind,.int .i64 x.c.nd.st.mode,.int .i64 x.c.nd.st.owner,.int .i64 x.c.nd.st.group,.slice x.a x.c.nd.data.length x.k,.bool false]) 244),mapq (Value.int .i64) r2 (AV.vals Az)] w) ?_ ?_
       ·refine Zb7 (α := Nat × Option Addr × Nat × List Wr × List RowD) (fun y => [(0,.pointer (some ⟨tp,0,none⟩)),(6,.map (some r2)),(9,.slice (sub fa bs.length 1 fc) (fl.length - bs.length) (fc - bs.length)),(10,.pointer (some ⟨t10,0,none⟩)),(11,.func (.func 178) #[] #[.pointer (some ⟨t10,0,none⟩)]),(13,.pointer (some ⟨t13,0,none⟩)),(15,.pointer (some ⟨t15,0,none⟩)),(46,.slice (some ⟨xb,xo,none⟩) l.length c),(47,.int .i64 (l.length : Nat)),(48,.int .i64 (i : Nat)),(85,.slice fa bs.length bs.length),(86,.int .i64 (bs.length : Nat)),(87,.int .i64 (y.1 : Nat))])
         (fun y w => y.1 ≤ bs.length ∧ BlI n bs x.c.nd.data ws X2 y.1 y.2.2.1 y.2.2.2.1 y.2.2.2.2 ∧ St W F2 [pts t10 (.cells #[.slice y.2.1 y.2.2.2.1.length y.2.2.1] 291),own 237 2 y.2.1 y.2.2.1 (y.2.2.2.1.flatMap Wr.cells),bag y.2.2.2.2,pts t15 (.cells (stoV ⟨x.c.nd,bs⟩ da dc fa bs.length).toArray 305),pts t13 (.cells (List.toArray [.int .i64 x.c.no,.int .i64 x.c.nd.st.kind,.int .i64 x.c.nd.st.mode,.int .i64 x.c.nd.st.owner,.int .i64 x.c.nd.st.group,.slice x.a x.c.nd.data.length x.k,.bool false]) 244),mapq (Value.int .i64) r2 (AV.vals Az)] w)
         (fun y => bs.length - y.1) (0,aw,cw,ws,X2) ⟨rfl,rfl,rfl,rfl,rfl,rfl,rfl,rfl,rfl,rfl,rfl,rfl,rfl,trivial⟩ ⟨Nat.zero_le _,⟨by simp,hwcap,fun v hv => hsubX _ (hI.wX v hv),fun _ h => h⟩,hS.took⟩ ?_
        clear hS
        rintro ⟨i2,aw2,cw2,ws2,X3⟩ w ⟨hi2,hB,hS⟩
        simp only at hi2 hB hS ⊢
        have hwl2 := hB.len hi2
        have hcap2 := hB.cap
        by_cases hlt2 : i2 < bs.length
        ·have hb0 : bs[i2]? = some bs[i2] := List.getElem?_eq_getElem hlt2
         generalize bs[i2] = b at hb0
         have hblow := hI.flow b (by have := List.mem_of_getElem? hb0; rw [hbst] at this; exact List.mem_of_mem_take this)
         have hxI : (ints .i64 bs)[i2]? = some (.int .i64 b) := by simp [ints,hb0]
         have hbagR : ∀ w rs,St W F2 (pts t10 (.cells #[.slice aw2 ws2.length cw2] 291) :: own 237 2 aw2 cw2 (ws2.flatMap Wr.cells) :: bag X3 :: rs) w → Rd w (row fa (ints .i64 bs)) := fun w rs h => (h.rd (r := bag X3) (by simp)).bag (hB.sub _ hX2b)
         have hfaE : ∃ b off,fa = some ⟨b,off,none⟩ := (hbagR _ _ hS).base (by intro e; rw [e] at hxI; simp at hxI)
         repeat (first|(refine G_id ?_;first|refine Zah ?_|refine Zab rfl rfl ?_)|(refine X_id ?_;first|refine X_yl (Zad rfl rfl) rfl rfl ?_|refine X_yl (Za3 rfl rfl rfl (by omega)) rfl rfl ?_|refine X_yl (Zau rfl rfl rfl (by omega) (by omega) (by first|assumption|exact ⟨_,_,rfl⟩)) rfl rfl ?_)|(refine C_id ?_;first|refine Zak ?_|refine Zaa ?_|refine Zaq ?_|refine Zaw ?_|refine Zam rfl ?_)|(refine E_id ?_;first|refine Zae ?_))
         refine X_yl (Zao rfl rfl ((hbagR _ _ hS).cellX (by omega) hxI)) rfl rfl ?_
         repeat (first|(refine G_id ?_;first|refine Zah ?_|refine Zab rfl rfl ?_)|(refine X_id ?_;first|refine X_yl (Zac rfl rfl) rfl rfl ?_)|(refine E_id ?_;first|refine Zae ?_))
         refine Zci (.s 0 (.s 1 (.s 2 (.s 4 (.s 5 (.s 6 (.s 7 (.s 8 (.s 9 (.s 10 (.s 11 (.s 12 (.s 13 (.s 14 (.s 15 (.s 16 (.s 17 (.h 3 (.h 18 .nil .no) .no)))))))))))))))))) mixed (by kernel_rfl) rfl ?_
         have hS := hS.drew
         repeat (first|(refine Zbj ?_;first|refine Zag rfl rfl (fun _ => Zad rfl rfl) rfl rfl ?_|refine Zag rfl rfl (fun _ => Zaf rfl rfl rfl) rfl rfl ?_|refine Zag rfl rfl (fun _ => Zbt rfl rfl) rfl rfl ?_|refine Zag rfl rfl (fun _ => Zbk rfl rfl rfl (w64 (by omega) (by omega))) rfl rfl ?_|refine Zag rfl rfl (fun _ => Zfi rfl rfl rfl (w64 (by omega) (by omega))) rfl rfl ?_|refine Zbi (fun w' => w'.cell? _ = some _) rfl rfl hS.cell (fun _ hc => Zao rfl rfl hc) rfl rfl ?_))
         refine Zag rfl rfl (fun _ => Yl_minI rfl rfl rfl) rfl rfl ?_
         obtain ⟨hN,hhN⟩ : ∃ hN : Nat,hN = min (64 * (i2 + 1)) x.c.nd.data.length := ⟨_,rfl⟩
         have hmin : min (64 * ((i2 : Int) + 1)) (x.c.nd.data.length : Nat) = (hN : Nat) := by omega
         rw [hmin]
         have hnb : 64 * i2 ≤ hN := by
          have : 64 * i2 < x.c.nd.data.length := by rw [hbsl] at hlt2; unfold nblk at hlt2; omega
          omega
         refine Zag rfl rfl (fun _ => Zcw (l := 64 * i2) (h := hN) rfl rfl rfl rfl (.inr ⟨_,_,rfl,by omega,by omega,by omega⟩) (.inr ⟨_,_,rfl,by omega,by omega,by omega⟩)) rfl rfl ?_
         repeat (first|(refine X_id ?_;first|(refine Zan 180 rfl rfl rfl rfl rfl (tblock_ tp lp n r b _ (hTo.rd hS) (by omega) hblow.1 (by omega)) ?_;rintro _ _ ⟨rfl,rfl⟩))|(refine Zbj ?_;first|refine Za8 rfl rfl ?_)|(refine Za5 ?_;first|refine And.intro (by repeat (first|exact trivial|refine And.intro (.inl (by decide +kernel)) ?_|refine And.intro (.inr (by first|assumption|exact hS.cell|exact Zal (by assumption)|exact hS.cellI (by omega)|exact hS.cellIP (by omega)|exact hS.cellsN|exact ((hr.rd hS).cellX (by omega) hx)|exact hS.cellB (by omega)|exact hS.cellBA (by omega)|exact (hb.rd hS).cellB' (by omega)|exact ((hr.rd hS).cellF (by first|omega|(dsimp only;omega)) hx)|exact hS.cellO 0 (by omega)|exact hS.cellO 1 (by omega)|exact hS.cellIA (by omega)|exact Zal (hc.rd hS).pts|exact hb.rd hS|exact hS.cellO 4 (by omega)|exact hS.cellO 5 (by omega)|exact hS.cellO 6 (by omega)|exact hS.cellO 7 (by omega)|exact hS.cellO 8 (by omega)|exact hS.cellO 9 (by omega)|exact hS.cellO 10 (by omega)|exact hS.cellO 11 (by omega)|exact hS.cellO 12 (by omega)|exact hS.cellO 13 (by omega)|exact hS.cellO 2 (by omega)|exact hS.cellO 3 (by omega))) ?_)) ?_))
         obtain ⟨_,hc3,hr3,hw3,hbk3⟩ := hS.call [true,true,false,false,false,false]
         have hdb := ((hr3 (bag X3) (by simp)).bag (hB.sub _ hX2c)).subBytes (l := 64 * i2) (h := hN) (c := dc) (by omega) hnb
         refine Zj9 (first := []) (captured := [.pointer (some ⟨t10,0,none⟩)]) rfl rfl rfl rfl rfl (put_n t10 aw2 cw2 ws2 (1 + (n : Int) + b) (sub da (64 * i2) 1 dc) (hN - 64 * i2) (dc - 64 * i2) ((x.c.nd.data.drop (64 * i2)).take (hN - 64 * i2)) _ _ hdb (by rw [List.length_take,List.length_drop]; omega) hcap2 (by omega) hc3) ?_
         rintro _ w ⟨rfl,aw3,cw3,q,hcw3,hS⟩
         replace hS := hbk3 hS
         clear hc3 hr3 hw3 hbk3
         rw [Zon _ _ _ hhN] at hS
         repeat (first|(refine G_id ?_;first|refine Zah ?_|refine Zab rfl rfl ?_)|(refine X_id ?_;first|refine X_yl (Zad rfl rfl) rfl rfl ?_|refine X_yl (Zbk rfl rfl rfl (w64 (by omega) (by omega))) rfl rfl ?_)|(refine C_id ?_;first|refine Zaa ?_)|(refine E_id ?_;first|refine Zae ?_|refine Zbf ?_)|(refine Zbj ?_;first|refine Zbw ?_)|(refine Za5 ?_;first|refine And.intro (by repeat (first|exact trivial|refine And.intro (.inl (by decide +kernel)) ?_|refine And.intro (.inr (by first|assumption|exact hS.cell|exact Zal (by assumption)|exact hS.cellI (by omega)|exact hS.cellIP (by omega)|exact hS.cellsN|exact ((hr.rd hS).cellX (by omega) hx)|exact hS.cellB (by omega)|exact hS.cellBA (by omega)|exact (hb.rd hS).cellB' (by omega)|exact ((hr.rd hS).cellF (by first|omega|(dsimp only;omega)) hx)|exact hS.cellO 0 (by omega)|exact hS.cellO 1 (by omega)|exact hS.cellIA (by omega)|exact Zal (hc.rd hS).pts|exact hb.rd hS|exact hS.cellO 4 (by omega)|exact hS.cellO 5 (by omega)|exact hS.cellO 6 (by omega)|exact hS.cellO 7 (by omega)|exact hS.cellO 8 (by omega)|exact hS.cellO 9 (by omega)|exact hS.cellO 10 (by omega)|exact hS.cellO 11 (by omega)|exact hS.cellO 12 (by omega)|exact hS.cellO 13 (by omega)|exact hS.cellO 2 (by omega)|exact hS.cellO 3 (by omega))) ?_)) ?_))
         have hS := (hS.pick [2,2,0,0,0,0,0]).bagAdd (fun _ h => h)
         have hS := hS.pick [1,1,0,0,0,0]
         refine Zbu (α := Nat × Option Addr × Nat × List Wr × List RowD) (z := (i2,aw2,cw2,ws2,X3)) (i2 + 1,aw3,cw3,ws2 ++ [putW (1 + (n : Int) + b) q ((x.c.nd.data.drop (64 * i2)).take (hN - 64 * i2))],(some ⟨q,0,none⟩,bv (Zhq x.c.nd.data i2)) :: X3) ⟨rfl,rfl,rfl,rfl,rfl,rfl,rfl,rfl,rfl,rfl,rfl,rfl,rfl,trivial⟩ ⟨by simp only; omega,⟨?_,by simp only [List.length_append,List.length_cons,List.length_nil]; exact hcw3,fun v hv => ?_,fun y hy => List.mem_cons_of_mem _ (hB.sub y hy)⟩,?_⟩ (by simp only; omega)
         ·simp only
          rw [List.map_append,hB.data,Zro hb0,List.append_assoc]
          congr 2
          simp [Wr.data,Zon _ _ _ hhN]
         ·rcases List.mem_append.1 hv with hv | hv
          ·exact List.mem_cons_of_mem _ (hB.wX v hv)
          ·rw [List.mem_singleton] at hv
           rw [hv]
           simp only [Zon _ _ _ hhN]
           exact List.mem_cons_self ..
         ·simp only [List.length_append,List.length_cons,List.length_nil]
          exact hS
        ·obtain rfl : i2 = bs.length := by omega
         repeat (first|(refine G_id ?_;first|refine Zah ?_|refine Zab rfl rfl ?_)|(refine X_id ?_;first|refine X_yl (Za7 rfl rfl rfl (by omega)) rfl rfl ?_)|(refine C_id ?_;first|refine Zak ?_|refine Zaa ?_|refine Zb0 ?_|refine Zaj rfl ?_)|(refine E_id ?_;first|refine Zae ?_|refine Zav ?_|refine Zaz ?_))
         exact Ziz (aw2,cw2,ws2,X3) ⟨rfl,rfl,rfl,rfl,rfl,rfl,rfl,rfl,rfl,rfl,trivial⟩ ⟨hB,hS⟩
       ·clear hS
        rintro ⟨aw2,cw2,ws2,X3⟩ w ⟨hB,hS⟩
        simp only at hB hS ⊢
        have hwl2 := hB.len (Nat.le_refl _)
        have hcap2 := hB.cap
        repeat (first|(refine C_id ?_;first|refine Zak ?_))
        refine Zci (.s 0 (.s 1 (.s 2 (.s 3 (.s 4 (.h 5 (.h 6 .nil .no) .no)))))) mixed (by kernel_rfl) rfl ?_
        have hS := hS.drew
        repeat (first|(refine Zbj ?_;first|refine Zag rfl rfl (fun _ => Zad rfl rfl) rfl rfl ?_|refine Zag rfl rfl (fun _ => Zaf rfl rfl rfl) rfl rfl ?_|refine Zag rfl rfl (fun _ => Zbk rfl rfl rfl (w64 (by omega) (by omega))) rfl rfl ?_|refine Zbi (fun w' => w'.cell? _ = some _) rfl rfl hS.cell (fun _ hc => Zao rfl rfl hc) rfl rfl ?_|refine Zbi (fun w' => Zdj w' _ _ _) rfl rfl hS.cellsN (fun _ hc => Zbc rfl rfl hc) rfl rfl ?_|refine Za8 rfl rfl ?_))
        refine Zan _ rfl rfl rfl rfl rfl (sector_ ⟨x.c.nd,bs⟩ da dc fa bs.length _ ((hS.rd (r := bag X3) (by simp)).bag (hB.sub _ hX2b)) (by simp only; omega) (by simp only; omega)) ?_
        rintro _ w ⟨q1,rfl,hS'⟩
        replace hS := hS.plus hS'
        clear hS'
        repeat (first|(refine Zbj ?_;first|refine Za8 rfl rfl ?_)|(refine Za5 ?_;first|refine And.intro (by repeat (first|exact trivial|refine And.intro (.inl (by decide +kernel)) ?_|refine And.intro (.inr (by first|assumption|exact hS.cell|exact Zal (by assumption)|exact hS.cellI (by omega)|exact hS.cellIP (by omega)|exact hS.cellsN|exact ((hr.rd hS).cellX (by omega) hx)|exact hS.cellB (by omega)|exact hS.cellBA (by omega)|exact (hb.rd hS).cellB' (by omega)|exact ((hr.rd hS).cellF (by first|omega|(dsimp only;omega)) hx)|exact hS.cellO 0 (by omega)|exact hS.cellO 1 (by omega)|exact hS.cellIA (by omega)|exact Zal (hc.rd hS).pts|exact hb.rd hS|exact hS.cellO 4 (by omega)|exact hS.cellO 5 (by omega)|exact hS.cellO 6 (by omega)|exact hS.cellO 7 (by omega)|exact hS.cellO 8 (by omega)|exact hS.cellO 9 (by omega)|exact hS.cellO 10 (by omega)|exact hS.cellO 11 (by omega)|exact hS.cellO 12 (by omega)|exact hS.cellO 13 (by omega)|exact hS.cellO 2 (by omega)|exact hS.cellO 3 (by omega))) ?_)) ?_))
        obtain ⟨_,hc3,hr3,hw3,hbk3⟩ := hS.call [false,true,true,false,false,false,false]
        refine Zj9 (first := []) (captured := [.pointer (some ⟨t10,0,none⟩)]) rfl rfl rfl rfl rfl (put_n t10 aw2 cw2 ws2 (1 + x.c.no) (some ⟨q1,0,none⟩) 64 64 (stoB ⟨x.c.nd,bs⟩) _ _ (hr3 (bytes (some ⟨q1,0,none⟩) (stoB ⟨x.c.nd,bs⟩)) (by simp)) (Ze5 _) hcap2 (by omega) hc3) ?_
        rintro _ w ⟨rfl,aw3,cw3,q,hcw3,hS⟩
        replace hS := hbk3 hS
        clear hc3 hr3 hw3 hbk3
        rw [Zog (Ze5 _)] at hS
        have hS := hS.took (out := [mapq (Value.int .i64) r2 (AV.vals Az),bytes (some ⟨q,0,none⟩) (stoB ⟨x.c.nd,bs⟩),bag X3,pts t10 (.cells #[.slice aw3 (ws2.length + 1) cw3] 291),own 237 2 aw3 cw3 ((ws2 ++ [putW (1 + x.c.no) q (stoB ⟨x.c.nd,bs⟩)]).flatMap Wr.cells),pts t15 (.cells (stoV ⟨x.c.nd,bs⟩ da dc fa bs.length).toArray 305),pts t13 (.cells (List.toArray [.int .i64 x.c.no,.int .i64 x.c.nd.st.kind,.int .i64 x.c.nd.st.mode,.int .i64 x.c.nd.st.owner,.int .i64 x.c.nd.st.group,.slice x.a x.c.nd.data.length x.k,.bool false]) 244)])
        repeat (first|(refine G_id ?_;first|refine Zab rfl rfl ?_)|(refine X_id ?_;first|refine X_yl (Zad rfl rfl) rfl rfl ?_|refine X_yl (Zaf rfl rfl rfl) rfl rfl ?_|refine X_yl (Zao rfl rfl hS.cell) rfl rfl ?_|refine X_yl (Zbc rfl rfl hS.cellsN) rfl rfl ?_)|(refine C_id ?_;first|refine Zaa ?_)|(refine E_id ?_;first|refine Zae ?_)|(refine Zbj ?_;first|refine Zbw ?_)|(refine Za5 ?_;first|refine And.intro (by repeat (first|exact trivial|refine And.intro (.inl (by decide +kernel)) ?_|refine And.intro (.inr (by first|assumption|exact hS.cell|exact Zal (by assumption)|exact hS.cellI (by omega)|exact hS.cellIP (by omega)|exact hS.cellsN|exact ((hr.rd hS).cellX (by omega) hx)|exact hS.cellB (by omega)|exact hS.cellBA (by omega)|exact (hb.rd hS).cellB' (by omega)|exact ((hr.rd hS).cellF (by first|omega|(dsimp only;omega)) hx)|exact hS.cellO 0 (by omega)|exact hS.cellO 1 (by omega)|exact hS.cellIA (by omega)|exact Zal (hc.rd hS).pts|exact hb.rd hS|exact hS.cellO 4 (by omega)|exact hS.cellO 5 (by omega)|exact hS.cellO 6 (by omega)|exact hS.cellO 7 (by omega)|exact hS.cellO 8 (by omega)|exact hS.cellO 9 (by omega)|exact hS.cellO 10 (by omega)|exact hS.cellO 11 (by omega)|exact hS.cellO 12 (by omega)|exact hS.cellO 13 (by omega)|exact hS.cellO 2 (by omega)|exact hS.cellO 3 (by omega))) ?_)) ?_))
        refine Zj8 (mk := Value.int .i64) (k := x.c.no) (v := SV.val ⟨⟨x.c.nd,bs⟩,da,dc,fa,bs.length⟩) rfl rfl rfl rfl rfl hS (fun w hS => ?_)
        rw [setM_A] at hS
        repeat (first|(refine G_id ?_;first|refine Zah ?_|refine Zab rfl rfl ?_)|(refine X_id ?_;first|refine X_yl (Zad rfl rfl) rfl rfl ?_|refine X_yl (Zbk rfl rfl rfl (w64 (by omega) (by omega))) rfl rfl ?_)|(refine C_id ?_;first|refine Zaa ?_)|(refine E_id ?_;first|refine Zae ?_|refine Zbf ?_))
        have hS := (hS.pick [1,1,1,1,0]).bagAdd (fun _ h => h)
        have hS := hS.pick [1,1,0,0]
        have hbt : (Zdt n bs x.c.nd.data).take bs.length = Zdt n bs x.c.nd.data := List.take_of_length_le (by simp [Zdt])
        refine Zbu (α := ApZ) (z := ⟨i,Az,fa,fc,fl,aw,cw,ws,X⟩) (⟨i + 1,setA x.c.no ⟨⟨x.c.nd,bs⟩,da,dc,fa,bs.length⟩ Az,sub fa bs.length 1 fc,fc - bs.length,fl.drop bs.length,aw3,cw3,ws2 ++ [putW (1 + x.c.no) q (stoB ⟨x.c.nd,bs⟩)],(some ⟨q,0,none⟩,bv (stoB ⟨x.c.nd,bs⟩)) :: X3⟩ : ApZ) ⟨rfl,rfl,by simp only; rw [List.length_drop]; rfl,rfl,rfl,rfl,rfl,rfl,trivial⟩
         ⟨⟨by simp only; omega,?_,List.mem_cons_of_mem _ (hB.sub _ hX2a),by simp only [List.length_drop]; omega,by simp only [List.length_append,List.length_cons,List.length_nil]; exact hcw3,fun v hv => ?_,fun y hy => ?_,?_,fun b hb => hI.flow b (List.mem_of_mem_drop hb)⟩,?_⟩ (by simp only; omega)
        ·simp only
         rw [hrun,hstep,List.map_append,hB.data,hbt,List.append_assoc,show AV.ents (setA x.c.no (⟨⟨x.c.nd,bs⟩,da,dc,fa,bs.length⟩ : SV) Az) = setA x.c.no ⟨x.c.nd,bs⟩ (AV.ents Az) from (Zr8 SV.s).symm]
         have : Zec (stoB ⟨x.c.nd,bs⟩) = stoB ⟨x.c.nd,bs⟩ := Zog (Ze5 _)
         simp [Wr.data,this]
        ·rcases List.mem_append.1 hv with hv | hv
         ·exact List.mem_cons_of_mem _ (hB.wX v hv)
         ·rw [List.mem_singleton] at hv
          rw [hv]
          have : Zec (stoB ⟨x.c.nd,bs⟩) = stoB ⟨x.c.nd,bs⟩ := Zog (Ze5 _)
          simp only [this]
          exact List.mem_cons_self ..
        ·rcases Zsh hy with rfl | hy
         ·exact .inr ⟨List.mem_cons_of_mem _ (hB.sub _ hX2c),List.mem_cons_of_mem _ (hB.sub _ hX2b)⟩
         ·exact (hI.aX y hy).imp id fun h => ⟨List.mem_cons_of_mem _ (hB.sub _ (hsubX _ h.1)),List.mem_cons_of_mem _ (hB.sub _ (hsubX _ h.2))⟩
        ·have := hI.wl
         simp only [List.length_append,List.length_cons,List.length_nil] at this ⊢
         omega
        ·simp only [List.length_append,List.length_cons,List.length_nil]
         exact hS
    ·rw [hdp] at hxs
     repeat (first|(refine G_id ?_;first|refine Zah ?_|refine Zab rfl rfl ?_)|(refine X_id ?_;first|refine X_yl (Zad rfl rfl) rfl rfl ?_|refine X_yl (Zaf rfl rfl rfl) rfl rfl ?_|refine X_yl (Za3 rfl rfl rfl (by omega)) rfl rfl ?_|refine X_yl (Zau rfl rfl rfl (by omega) (by omega) (by first|assumption|exact ⟨_,_,rfl⟩)) rfl rfl ?_|refine X_yl (Zbk rfl rfl rfl (w64 (by omega) (by omega))) rfl rfl ?_|refine X_yl (Zao rfl rfl hS.cell) rfl rfl ?_|refine X_yl (Zbc rfl rfl ((hr.rd hS).cellsX (by omega) hxs rfl)) rfl rfl ?_|refine Za1 rfl rfl rfl rfl hS (fun _ hS _ => ?_)|refine Zbe rfl rfl rfl hS (fun _ _ hS _ => ?_))|(refine C_id ?_;first|refine Zak ?_|refine Zaa ?_|refine Zaq ?_|refine Zaw ?_|refine Zam rfl ?_)|(refine E_id ?_;first|refine Zae ?_))
     obtain ⟨_,hc3,hr3,hw3,hbk3⟩ := hS.call [false,true,true,false,false]
     refine Zj9 (first := []) (captured := [.pointer (some ⟨t10,0,none⟩)]) rfl rfl rfl rfl rfl (put_n t10 aw cw ws (1 + x.c.no) none 0 0 [] _ _ (Ro_nil _ _ _) rfl hwcap (by omega) hc3) ?_
     rintro _ w ⟨rfl,aw',cw',q,hcw',hS⟩
     replace hS := hbk3 hS
     clear hc3 hr3 hw3 hbk3
     repeat (first|(refine G_id ?_;first|refine Zah ?_|refine Zab rfl rfl ?_)|(refine X_id ?_;first|refine X_yl (Zad rfl rfl) rfl rfl ?_|refine X_yl (Zbk rfl rfl rfl (w64 (by omega) (by omega))) rfl rfl ?_)|(refine C_id ?_;first|refine Zaa ?_|refine Zb0 ?_)|(refine E_id ?_;first|refine Zae ?_|refine Zav ?_|refine Zaz ?_))
     have hS := (hS.pick [2,3,0,0,1]).bagAdd (fun _ h => h)
     have hS := hS.pick [1,1,0,0]
     refine Zbu (α := ApZ) (z := ⟨i,Az,fa,fc,fl,aw,cw,ws,X⟩) (⟨i + 1,Az,fa,fc,fl,aw',cw',ws ++ [putW (1 + x.c.no) q []],(some ⟨q,0,none⟩,bv (Zec [])) :: X⟩ : ApZ) ⟨rfl,rfl,rfl,rfl,rfl,rfl,rfl,rfl,trivial⟩ ⟨⟨by simp only; omega,?_,List.mem_cons_of_mem _ hI.fX,hfcap,by simp only [List.length_append,List.length_cons,List.length_nil]; exact hcw',fun v hv => ?_,fun y hy => (hI.aX y hy).imp id fun h => ⟨List.mem_cons_of_mem _ h.1,List.mem_cons_of_mem _ h.2⟩,?_,hI.flow⟩,?_⟩ (by simp only; omega)
     ·simp only
      rw [hrun]
      unfold ApS.step
      rw [if_pos hdp]
      have : Zec [] = zero64 := by simp [Zec,zero64]
      simp [Wr.data,this]
     ·rcases List.mem_append.1 hv with hv | hv
      ·exact List.mem_cons_of_mem _ (hI.wX v hv)
      ·rw [List.mem_singleton] at hv; rw [hv]; exact List.mem_cons_self ..
     ·have := hI.wl
      simp only [List.length_append,List.length_cons,List.length_nil] at this ⊢
      omega
     ·simp only [List.length_append,List.length_cons,List.length_nil]
      exact hS
   ·obtain rfl : i = l.length := by omega
    repeat (first|(refine G_id ?_;first|refine Zah ?_|refine Zab rfl rfl ?_)|(refine X_id ?_;first|refine X_yl (Za7 rfl rfl rfl (by omega)) rfl rfl ?_)|(refine C_id ?_;first|refine Zak ?_|refine Zaa ?_|refine Zb0 ?_|refine Zaj rfl ?_)|(refine E_id ?_;first|refine Zae ?_|refine Zav ?_|refine Zaz ?_))
    exact Ziz (⟨l.length,Az,fa,fc,fl,aw,cw,ws,X⟩ : ApZ) ⟨rfl,rfl,rfl,trivial⟩ ⟨⟨hcll.symm,hI⟩,hS⟩
  ·clear hS hI0 hz0
   rintro ⟨i,Az,fa,fc,fl,aw,cw,ws,X⟩ w ⟨⟨hi,hI⟩,hS⟩
   have hwl := hbound _ hI
   have hwcap := hI.wcap
   have hrun := hI.run
   simp only at hi hS hwl hwcap hrun ⊢
   rw [hi,List.take_length] at hrun
   rcases hlaw with ⟨h1,_⟩ | ⟨z',h1,h2,h3,h4,h5⟩
   ·rw [hrun] at h1; cases h1
   ·obtain rfl : z' = ⟨AV.ents Az,fl,ws.map Wr.data⟩ := by rw [hrun] at h1; exact (Option.some.inj h1).symm
    simp only at h2 h3 h4 h5
    have hnl : (ws.map Wr.data).length = ws.length := by simp
    rw [hnl] at h2
    repeat (first|(refine C_id ?_;first|refine Zak ?_))
    refine Zci (.s 0 (.s 1 (.s 2 (.s 3 (.s 4 (.h 5 (.s 6 .nil) .no)))))) mixed (by kernel_rfl) rfl ?_
    have hS := hS.drew
    repeat (first|(refine Zbj ?_;first|refine Zag rfl rfl (fun _ => Zad rfl rfl) rfl rfl ?_|refine Zag rfl rfl (fun _ => Zai rfl rfl) rfl rfl ?_|refine Zag rfl rfl (fun _ => Zaf rfl rfl rfl) rfl rfl ?_|refine Zbi (fun w' => w'.cell? _ = some _) rfl rfl hS.cell (fun _ hc => Zao rfl rfl hc) rfl rfl ?_|refine Za8 rfl rfl ?_|refine Zbi (fun w' => w'.cell? _ = some _) rfl rfl (Zal (hc.rd hS).pts) (fun _ hc => Zao rfl rfl hc) rfl rfl ?_))
    replace hS := hbk hS
    obtain ⟨_,hc4,hr4,hw4,hbk4⟩ := hS.call [false,false,false,false,false,false,false,true]
    refine Zan _ rfl rfl rfl rfl rfl (Zsd lp p j m dat aw cw ws rd fs _ _ (hG.mono hw4) ⟨(hr4 (own 237 2 aw cw (ws.flatMap Wr.cells)) (by simp)).own_row,fun v hv => (hr4 (bag X) (by simp)).bag (hI.wX v hv)⟩ (by omega) hm h4 (by rw [hE.len]; exact h5) hc4) ?_
    rintro _ w (⟨hfull,rfl,hS⟩ | ⟨hfit,rfl,hS⟩)
    ·replace hS := hbk4 hS
     clear hc4 hr4 hw4 hbk4
     have hp : putT T nb (j / 2) cl = (6,T) := by unfold putT; rw [h2,if_neg (by simp),if_pos hfull]
     rw [hp]
     repeat (first|(refine G_id ?_;first|refine Zah ?_|refine Zab rfl rfl ?_)|(refine X_id ?_;first|refine X_yl (Zad rfl rfl) rfl rfl ?_|refine X_yl (Zac rfl rfl) rfl rfl ?_|refine X_yl (Zc0 rfl rfl rfl (by omega)) rfl rfl ?_)|(refine C_id ?_;first|refine Zak ?_|refine Zaa ?_|refine Za2 ?_|refine Zam rfl ?_)|(refine E_id ?_;first|refine Zae ?_|refine Zat ?_|refine Zax rfl (Zap rfl) (Ret.mk ?_))|(refine Zbj ?_;first|refine Zbw ?_|refine Zag rfl rfl (fun _ => Zac rfl rfl) rfl rfl ?_)|(refine Za5 ?_;first|refine And.intro (by repeat (first|exact trivial|refine And.intro (.inl (by decide +kernel)) ?_|refine And.intro (.inr (by first|assumption|exact hS.cell|exact Zal (by assumption)|exact hS.cellI (by omega)|exact hS.cellIP (by omega)|exact hS.cellsN|exact ((hr.rd hS).cellX (by omega) hx)|exact hS.cellB (by omega)|exact hS.cellBA (by omega)|exact (hb.rd hS).cellB' (by omega)|exact ((hr.rd hS).cellF (by first|omega|(dsimp only;omega)) hx)|exact hS.cellO 0 (by omega)|exact hS.cellO 1 (by omega)|exact hS.cellIA (by omega)|exact Zal (hc.rd hS).pts|exact hb.rd hS|exact hS.cellO 4 (by omega)|exact hS.cellO 5 (by omega)|exact hS.cellO 6 (by omega)|exact hS.cellO 7 (by omega)|exact hS.cellO 8 (by omega)|exact hS.cellO 9 (by omega)|exact hS.cellO 10 (by omega)|exact hS.cellO 11 (by omega)|exact hS.cellO 12 (by omega)|exact hS.cellO 13 (by omega)|exact hS.cellO 2 (by omega)|exact hS.cellO 3 (by omega))) ?_)) ?_))
     have h := hS.took (out := [Zi1 tp lp n r,mapq (Value.int .i64) r A.vals,bag A.rows,qlog lp p j m dat])
     exact ⟨rfl,(h.shutItab hok).head Zrd⟩
    ·replace hS := hbk4 hS
     clear hc4 hr4 hw4 hbk4
     have hp : putT T nb (j / 2) cl = (0,tabOf (AV.ents Az) n) := by unfold putT; rw [h2,if_neg (by simp),if_neg (by simp only; omega)]
     rw [hp]
     repeat (first|(refine G_id ?_;first|refine Zah ?_|refine Zab rfl rfl ?_)|(refine X_id ?_;first|refine X_yl (Zad rfl rfl) rfl rfl ?_|refine X_yl (Zac rfl rfl) rfl rfl ?_|refine X_yl (Zai rfl rfl) rfl rfl ?_|refine X_yl (Zaf rfl rfl rfl) rfl rfl ?_|refine X_yl (Zb1 rfl rfl rfl (by omega)) rfl rfl ?_|refine Za1 rfl rfl rfl rfl hS (fun _ hS _ => ?_))|(refine C_id ?_;first|refine Zak ?_|refine Zaa ?_|refine Za2 ?_|refine Zaw ?_|refine Zaj rfl ?_)|(refine E_id ?_;first|refine Zae ?_|refine Zax rfl (Zap rfl) (Ret.mk ?_))|(refine Zbj ?_;first|refine Zbw ?_|refine Zag rfl rfl (fun _ => Zac rfl rfl) rfl rfl ?_)|(refine Za5 ?_;first|refine And.intro (by repeat (first|exact trivial|refine And.intro (.inl (by decide +kernel)) ?_|refine And.intro (.inr (by first|assumption|exact hS.cell|exact Zal (by assumption)|exact hS.cellI (by omega)|exact hS.cellIP (by omega)|exact hS.cellsN|exact ((hr.rd hS).cellX (by omega) hx)|exact hS.cellB (by omega)|exact hS.cellBA (by omega)|exact (hb.rd hS).cellB' (by omega)|exact ((hr.rd hS).cellF (by first|omega|(dsimp only;omega)) hx)|exact hS.cellO 0 (by omega)|exact hS.cellO 1 (by omega)|exact hS.cellIA (by omega)|exact Zal (hc.rd hS).pts|exact hb.rd hS|exact hS.cellO 4 (by omega)|exact hS.cellO 5 (by omega)|exact hS.cellO 6 (by omega)|exact hS.cellO 7 (by omega)|exact hS.cellO 8 (by omega)|exact hS.cellO 9 (by omega)|exact hS.cellO 10 (by omega)|exact hS.cellO 11 (by omega)|exact hS.cellO 12 (by omega)|exact hS.cellO 13 (by omega)|exact hS.cellO 2 (by omega)|exact hS.cellO 3 (by omega))) ?_)) ?_))
     have h := hS.took (out := [bag X,bag A.rows,Zi1 tp lp n r2,mapq (Value.int .i64) r2 (AV.vals Az),qlog lp p j (m + 1) (Zdi dat (ws.map Wr.data))])
     have h := h.bagJoin.bagSub (Y := AV.rows Az) (fun y hy => by
      obtain ⟨x,hx,hyx⟩ := List.mem_flatMap.1 hy
      rcases hI.aX x hx with hxA | ⟨e1,e2⟩
      ·exact List.mem_append_right _ (List.mem_flatMap.2 ⟨x,hxA,hyx⟩)
      ·simp only [List.mem_cons,List.not_mem_nil,or_false] at hyx
       rcases hyx with rfl | rfl
       ·exact List.mem_append_left _ e1
       ·exact List.mem_append_left _ e2)
     have h := h.pick [1,1,0,0]
     exact ⟨rfl,h.shutItab ⟨rfl,h3,hok.n1,hok.n4,hok.nb1⟩⟩
 ·have hap : Zhr T nb (j / 2) cl = (Zf2 cl n,T) := by unfold Zhr; rw [htl,if_pos h0]
  rw [hap]
  refine Zas Tryz.func124 rfl Tryz.ntmps124 rfl ?_
  repeat (first|(refine G_id ?_;first|refine Zah ?_|refine Zab rfl rfl ?_)|(refine X_id ?_;first|refine X_yl (Zad rfl rfl) rfl rfl ?_|refine X_yl (Zac rfl rfl) rfl rfl ?_|refine X_yl (Zbg rfl rfl rfl) rfl rfl ?_)|(refine C_id ?_;first|refine Zak ?_|refine Zaa ?_|refine Zaw ?_|refine Zaj rfl ?_)|(refine E_id ?_;first|refine Zae ?_))
  refine Zbm _ rfl rfl rfl rfl rfl hS (hck _ _ hS) ?_
  rintro _ w rfl hS
  repeat (first|(refine G_id ?_;first|refine Zah ?_|refine Zab rfl rfl ?_)|(refine X_id ?_;first|refine X_yl (Zad rfl rfl) rfl rfl ?_|refine X_yl (Zac rfl rfl) rfl rfl ?_|refine X_yl (Zc0 rfl rfl rfl (by omega)) rfl rfl ?_)|(refine C_id ?_;first|refine Zak ?_|refine Zaa ?_|refine Za2 ?_|refine Zam rfl ?_)|(refine E_id ?_;first|refine Zae ?_|refine Zat ?_|refine Zax rfl (Zap rfl) (Ret.mk ?_)))
  exact ⟨rfl,((hbk hS).shutItab hok).head Zrd⟩
end
end Cr
