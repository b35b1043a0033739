/-
  Layer 7 (inode): a map copied; a write noted.
  Layer 7 (inode): Apply.
  The laws' helper Same: are bytes the same?
  Layer 7 (inode): Open: a node of its sector's bytes; does a block stand in two Zhd?
  Layer 7 (inode): Format; what nil tells; Same.
  Layer 7 (inode): does a block stand in two Zhd? Open.
  Layer 7 (inode): Open of a log that holds a table.
  Layer 7 (inode): Used: the keys of a map,gone through by a range over a function,and sorted.
  Layer 8 (tree): a tree is opened on a table that is new.
  Layer 8 (tree): a tree is opened on a table that is new.
  The laws' helpers To of layers 6 and 7.
  The laws' helper known of layer 7: the chapter's examples.
  Layer 8 (tree): a change is begun; a fresh disk,log,table,tree.
  A tree of archives: the way to a revision's directory,made in a fresh tree or beside others.
  Package apply in plain words: an archive that is kept,once and again,beside another one.
-/
import Derived.Test.YtjpjbgkjfdhjjaaGreatDoorBsl11
import Derived.Shelf.SlMaps.Clone
import Derived.Test.YtjpjbgkjfdhjjaaGreatDoorBsl5
import Derived.Test.YtjpjbgkjfdhjjaaGreatDoorBsl10
import Derived.Test.YtjpjbgkjfdhjjaaGreatDoorBsl8
import Derived.Sort.Row
import Derived.Sort.Grow
namespace Cr
open Go Go.Proofs
set_option maxRecDepth 100000
set_option maxHeartbeats 64000000
attribute [local irreducible] Calls

theorem Zpw {P : Program} {o : Oper} {σ : Env} {w : World} {x : Operand} {t xT k e : TypeId} {v : Value} (ho : o.op = .typeAssert x xT t false) (hx : ev σ x = some (.iface t v)) [h : Und P t (.map k e)] : Yl P o σ w v := ⟨fun N ds f ha => by
 have := run_typeAssert_map_sl (P := P) w t xT k e v h.und
 simp [execOp,ho,ha.eval hx,this]⟩
instance : EClone Tryz.prog 172 := ⟨fun {t r es clock w} hb => by
 rw [run_callFunc_extern Tryz.func172 (by kernel_rfl) (by kernel_rfl) (by kernel_rfl) (e := Extern.MapsClone.clone) (by kernel_rfl),run_maps_clone_sl w t hb]
 rfl⟩
theorem Z29 (r : Nat) (L : List (Int × Value)) (W : World) (h : Rd W (mapq (Value.int .i64) r L)) :
  Calls Tryz.prog 126 #[.map (some r)] W (Ret fun v w => ∃ r2,v = .map (some r2) ∧ St W noF [mapq (Value.int .i64) r2 L] w) := by
 obtain ⟨es,clock,hes,hst,hmp⟩ := h.openMap
 have hb := hmp.pts
 have hS := St.start W
 refine Zab Tryz.func126 rfl Tryz.ntmps126 rfl ?_
 repeat (first|refine Yeb ?_|refine Yeq ?_|refine Yec ?_|refine Yab ?_)
 refine X_yl (Zpu rfl rfl rfl) rfl rfl ?_
 repeat (first|refine Yeb ?_|refine Yaf ?_|refine Yen ?_|refine Yab ?_)
 refine X_yl (Zpr rfl rfl (fun w => by simp [Instr.makeInterface,run_underlying Tryz.underlying159])) rfl rfl ?_
 repeat (first|refine Yaa ?_)
 refine Znx rfl rfl rfl (EClone.run hb) rfl rfl ?_
 have hS := (hS.alloc (.map es clock)).head fun h hh => (⟨es,clock,hes,hst,hh⟩ : mapq (Value.int .i64) W.heap.size L h)
 repeat (first|refine Yaa ?_)
 refine X_yl (Zpw rfl rfl) rfl rfl ?_
 repeat (first|refine Yeb ?_|refine Yag ?_|refine Yah ?_|refine Yed ?_)
 exact ⟨_,rfl,hS⟩
abbrev putW (no : Int) (q : Nat) (s : List UInt8) : Wr := ⟨no,⟨some ⟨q,0,none⟩,64,Zct s⟩⟩
theorem put_ (t10 : Nat) (aw : Option Addr) (cw : Nat) (ws : List Wr) (no : Int) (ba : Option Addr) (bc : Nat) (s : List UInt8) (W : World) (F : Nat → Prop) (hb : Ro W F (bytes ba s)) (hcw : ws.length ≤ cw) (hl : ws.length ≤ 1048576)
  (hS : St W F [pts t10 (.cells #[.slice aw ws.length cw] 227),own 158 2 aw cw (ws.flatMap Wr.cells)] W) :
  Calls Tryz.prog 128 #[.int .i64 no,.slice ba s.length bc,.pointer (some ⟨t10,0,none⟩)] W (Ret fun v w => v = .tuple #[] ∧ ∃ aw' cw' q,ws.length + 1 ≤ cw' ∧
   St W F [pts t10 (.cells #[.slice aw' (ws.length + 1) cw'] 227),own 158 2 aw' cw' ((ws ++ [putW no q s]).flatMap Wr.cells),bytes (some ⟨q,0,none⟩) (Zct s)] w) := by
 refine Zab Tryz.func128 rfl Tryz.ntmps128 rfl ?_
 repeat (first|fail)
 refine Zao (.s 0 (.s 1 (.s 2 (.h 3 (.s 4 (.h 5 (.h 6 (.h 7 .nil .no) .no) .no)) .no)))) mixed (by kernel_rfl) rfl ?_
 have hS := hS.drew
 repeat (first|(refine Zaf ?_;first|refine Ya6 ?_|refine Ybn ?_|refine Yax ?_))
 refine Zaa _ rfl rfl rfl rfl rfl (Znf ba bc s _ (hb.rd hS)) ?_
 rintro _ w ⟨q,rfl,hS'⟩
 replace hS := hS.plus hS';clear hS';repeat (first|refine Ybe (fun _ _ hS _ => ?_)|(refine Zaf ?_;first|refine Ycd ?_|refine Yax ?_)|(refine Zad ?_;first|refine Yay ?_))
 refine Zas (n := ws.length) (m := 1) rfl rfl rfl rfl rfl hS (by rw [Z4d]) hcw ((hS.rd (List.mem_cons_self ..)).own_row) (by simp) (by simp [Value.oneCell']) (by omega) (by simp only [maxLen]; omega) (fun a' c' w hS hc' _ => ?_)
 repeat (first|refine Yao (fun _ hS _ => ?_)|refine Ybu ?_|(refine Zaf ?_;first|refine Ya2 ?_|refine Yax ?_)|(refine Zad ?_;first|refine Yay ?_))
 refine ⟨rfl,a',c',q,hc',?_⟩
 rw [List.flatMap_append];have h := hS.took (out := [pts t10 (.cells #[.slice a' (ws.length + 1) c'] 227),own 158 2 a' c' (ws.flatMap Wr.cells ++ [.int .i64 no,.slice (some ⟨q,0,none⟩) 64 64]),bytes (some ⟨q,0,none⟩) (Zct s)])
 have e : (List.flatMap Wr.cells [putW no q s]) = [.int .i64 no,.slice (some ⟨q,0,none⟩) 64 64] := by simp [Wr.cells,Zbs]
 rw [e];exact h
def Zio (A : AV) (l : List Chg) : AV := l.foldl (fun A c => delA c.no A) A
theorem Zuo {A : AV} {l : List Chg} {i : Nat} {c : Chg} (h : l[i]? = some c) : Zio A (l.take (i + 1)) = delA c.no (Zio A (l.take i)) := by
 unfold Zio
 rw [List.take_add_one,h];simp
theorem Zl9 : ∀ (l : List Chg) (A : AV),AV.ents (Zio A l) = Zea A.ents l
 | [],_ => rfl
 | c :: l,A => by
  have ih := Zl9 l (delA c.no A)
  have e : Zio A (c :: l) = Zio (delA c.no A) l := rfl
  have e2 : Zea A.ents (c :: l) = Zea (delA c.no A.ents) l := rfl
  rw [e,e2,ih]
  congr 1
  exact (Zsy SV.s).symm
theorem Zpc : ∀ (l : List Chg) (A : AV),(Zio A l).Sublist A
 | [],_ => List.Sublist.refl _
 | c :: l,A => (Zpc l (delA c.no A)).trans Zni
theorem Zr2 (n : Nat) : ∀ (l : List Chg) (z : ApS) (c : Chg),z.run n (l ++ [c]) = (z.run n l).bind fun z => z.step n c
 | [],z,c => by simp [ApS.run]
 | x :: l,z,c => by
  simp only [List.cons_append,ApS.run]
  cases z.step n x with
  | none => rfl
  | some z2 => exact Zr2 n l z2 c
theorem Zr3 (n : Nat) : ∀ (l m : List Chg) (z : ApS),z.run n l = none → z.run n (l ++ m) = none
 | [],_,_,h => by cases h
 | x :: l,m,z,h => by
  simp only [List.cons_append,ApS.run] at h ⊢
  cases hs : z.step n x with
  | none => rfl
  | some z2 =>
   rw [hs] at h;exact Zr3 n l m z2 h
structure ApZ where
 i : Nat
 A : AV
 fa : Option Addr
 fc : Nat
 fl : List Int
 aw : Option Addr
 cw : Nat
 ws : List Wr
 X : List RowD
structure ApI (A0 : AV) (n nb : Nat) (cl : List Chg) (z : ApZ) : Prop where
 hi : z.i ≤ cl.length
 run : (ApS.start A0.ents nb cl).run n (cl.take z.i) = some ⟨z.A.ents,z.fl,z.ws.map Wr.data⟩
 fX : (z.fa,ints .i64 z.fl) ∈ z.X
 fcap : z.fl.length ≤ z.fc
 wcap : z.ws.length ≤ z.cw
 wX : ∀ v ∈ z.ws,(v.x.a,bv v.x.s) ∈ z.X
 aX : ∀ x ∈ z.A,x ∈ A0 ∨ ((x.2.da,bv x.2.s.nd.data) ∈ z.X ∧ (x.2.ba,ints .i64 x.2.s.blocks) ∈ z.X)
 wl : z.ws.length ≤ 9 * z.i
 flow : ∀ b ∈ z.fl,0 ≤ b ∧ b < nb
theorem Znu {P : Program} {o : Oper} {σ : Env} {w : World} {x y : Operand} {ts : Array TypeId} {a b : Int} (ho : o.op = .call { callee := .builtin .min,args := #[x,y],argTypes := ts }) (hx : ev σ x = some (.int .i64 a)) (hy : ev σ y = some (.int .i64 b)) : Yl P o σ w (.int .i64 (min a b)) := ⟨fun N ds f ha => by
 simp [execOp,ho,resolve,invoke,builtin,ha.eval hx,ha.eval hy,Builtin.min_,Builtin.min2]
 split <;> omega⟩
theorem Z2r (t10 : Nat) (aw : Option Addr) (cw : Nat) (ws : List Wr) (no : Int) (ba : Option Addr) (bn bc : Nat) (s : List UInt8) (W : World) (F : Nat → Prop) (hb : Ro W F (bytes ba s)) (hn : s.length = bn) (hcw : ws.length ≤ cw) (hl : ws.length ≤ 1048576)
  (hS : St W F [pts t10 (.cells #[.slice aw ws.length cw] 227),own 158 2 aw cw (ws.flatMap Wr.cells)] W) :
  Calls Tryz.prog 128 #[.int .i64 no,.slice ba bn bc,.pointer (some ⟨t10,0,none⟩)] W (Ret fun v w => v = .tuple #[] ∧ ∃ aw' cw' q,ws.length + 1 ≤ cw' ∧
   St W F [pts t10 (.cells #[.slice aw' (ws.length + 1) cw'] 227),own 158 2 aw' cw' ((ws ++ [putW no q s]).flatMap Wr.cells),bytes (some ⟨q,0,none⟩) (Zct s)] w) := by
 subst hn
 exact put_ t10 aw cw ws no ba bc s W F hb hcw hl hS
theorem Znj (d : List UInt8) (i h : Nat) (hh : h = min (64 * (i + 1)) d.length) : Zct ((d.drop (64 * i)).take (h - 64 * i)) = Zgg d i := by
 unfold Zgg
 congr 1
 subst hh
 by_cases h1 : 64 * (i + 1) ≤ d.length
 ·rw [Nat.min_eq_left h1,show 64 * (i + 1) - 64 * i = 64 by omega]
 ·rw [Nat.min_eq_right (by omega),List.take_of_length_le (by rw [List.length_drop]; exact Nat.le_refl _),List.take_of_length_le (by rw [List.length_drop]; omega)]
theorem Zq7 {n : Nat} {bs : List Int} {d : List UInt8} {i : Nat} {b : Int} (h : bs[i]? = some b) : (Zce n bs d).take (i + 1) = (Zce n bs d).take i ++ [(1 + (n : Int) + b,Zgg d i)] := by
 have hi := (List.getElem?_eq_some_iff.1 h).1
 rw [List.take_add_one]
 congr 1
 unfold Zce
 rw [List.getElem?_map,List.getElem?_range hi];simp [List.getD_eq_getElem?_getD,h]
theorem Zr4 {a : Option Addr} {cs : List Value} (k : Nat) : ∀ h,row a cs h → ∃ h',row a (cs.take k) h' ∧ ∀ b o,h' b = some o → h b = some o := fun h hh => by
 have := Zmx (a := a) (cs := cs) (cs' := cs.take k) (l := 0) (e := 1) (c := 1) (fun j v hv => by
  rw [List.getElem?_take] at hv
  split at hv
  ·simpa using hv
  ·cases hv) (by omega) h hh
 rwa [sub_zero] at this
theorem Zze {a : Option Addr} {cs : List Value} {k c : Nat} (hc : cs.length ≤ c) (hk : k ≤ cs.length) : ∀ h,row a cs h → ∃ h',row (sub a k 1 c) (cs.drop k) h' ∧ ∀ b o,h' b = some o → h b = some o :=
 Zmx (fun j v hv => by rw [List.getElem?_drop] at hv; rw [Nat.mul_one]; exact hv) (fun e => List.drop_eq_nil_of_le (by omega))
theorem Zsc {β : Type} {k : Int} {v : β} {y : Int × β} : ∀ {A : List (Int × β)},y ∈ setA k v A → y = (k,v) ∨ y ∈ A
 | [],h => by simp [setA] at h; exact .inl h
 | x :: A,h => by
  unfold setA at h
  split at h
  ·rcases List.mem_cons.1 h with h | h
   ·exact .inl h
   ·exact .inr (List.mem_cons_of_mem _ h)
  ·rcases List.mem_cons.1 h with h | h
   ·exact .inr (h ▸ List.mem_cons_self ..)
   ·exact (Zsc h).imp id (List.mem_cons_of_mem _)
theorem Znd {s : List UInt8} (h : s.length = 64) : Zct s = s := by rw [Z0f (by omega),h]; simp
structure BlI (n : Nat) (bs : List Int) (d : List UInt8) (ws : List Wr) (X : List RowD) (i cw' : Nat) (ws' : List Wr) (X' : List RowD) : Prop where
 data : ws'.map Wr.data = ws.map Wr.data ++ (Zce n bs d).take i
 cap : ws'.length ≤ cw'
 wX : ∀ v ∈ ws',(v.x.a,bv v.x.s) ∈ X'
 sub : ∀ r ∈ X,r ∈ X'
theorem BlI.len {n : Nat} {bs : List Int} {d : List UInt8} {ws : List Wr} {X : List RowD} {i cw' : Nat} {ws' : List Wr} {X' : List RowD} (h : BlI n bs d ws X i cw' ws' X') (hi : i ≤ bs.length) : ws'.length = ws.length + i := by
 have := congrArg List.length h.data
 simp only [List.length_map,List.length_append,List.length_take,Zce,List.length_range] at this
 omega
section
variable {rd fs : List Int} {tp lp p j m n nb : Nat} {T : Tb}
theorem Z2o {dat : List (List UInt8)} : ∀ h,qlog lp p j m dat h → qlog lp p j (m + 1) dat h := fun h ⟨D,done,hq,hs⟩ => ⟨D,done,⟨hq.q,hq.line,hq.d0,by have := hq.dm; omega,hq.jl,hq.at_⟩,hs⟩
theorem Zqt : ∀ h,itab rd fs tp lp p j m n nb T h → itab rd fs tp lp p j (m + 1) n nb T h := fun _ ⟨r,A,dat,hok,hs⟩ =>
 ⟨r,A,dat,hok,Sep.mono_tail (fun _ h => Sep.mono_tail (fun _ h => Sep.mono_tail (fun _ h => Sep.mono_head Z2o h) h) h) hs⟩
theorem Z7e (a : Option Addr) (c : Nat) (l : List ChgA) (W : World) (F : Nat → Prop) (hG : Gl W F rd fs) (hC : Chgs W F a l) (hl : l.length ≤ 1000) (hlc : l.length ≤ c) (hm : (m : Int) < last) (hS : St W F [itab rd fs tp lp p j m n nb T] W) :
  Calls Tryz.prog 68 #[.pointer (some ⟨tp,0,none⟩),.slice a l.length c] W (Ret fun v w => v = .int .i64 (Zh0 T nb (j / 2) (l.map ChgA.c)).1 ∧ St W F [itab rd fs tp lp p j (m + 1) n nb (Zh0 T nb (j / 2) (l.map ChgA.c)).2] w) := by
 obtain ⟨r,A,dat,hok,hS⟩ := hS.openItab
 have hE := hok.enc
 have htl := hok.tlen
 have hn4 := hok.n4
 obtain ⟨cl,hcl⟩ : ∃ cl,cl = l.map ChgA.c := ⟨_,rfl⟩
 have hcll : cl.length = l.length := by rw [hcl]; simp
 have hget : ∀ {i : Nat} {x : ChgA},l[i]? = some x → cl[i]? = some x.c := fun {i x} h => by rw [hcl]; simp [h]
 rw [← hcl];obtain ⟨F2,hS2,hro,hw,hbk⟩ := hS.call []
 clear hS;have hS := hS2
 clear hS2;have hTo := hro (Zid tp lp n r) (by simp)
 have hmo := hro (mapq (Value.int .i64) r A.vals) (by simp)
 have hbo := hro (bag A.rows) (by simp)
 have hqo := hro (qlog lp p j m dat) (by simp)
 have hC2 := hC.mono hw
 have hG2 := hG.mono hw
 have hql := (qlen (hqo.rd hS)).1
 have hdl := hE.len
 have hc := hTo
 have hC0 : ∀ w rs,St W F2 rs w → Chgs w noF a l := fun w rs h => ⟨(hC2.row.rd h).ro,fun x hx => ((hC2.all x hx).rd h).ro⟩
 have hck := fun w rs (h : St W F2 rs w) => Z3q tp lp n r a c l w (hTo.rd h) (hC0 w rs h) (by omega) hlc (by omega)
 rw [← hcl] at hck;by_cases h0 : Zeu cl n = 0
 ·have hR := Zzh h0
  have hap : Zh0 T nb (j / 2) cl = putT T nb (j / 2) cl := by unfold Zh0; rw [htl,if_neg (by simp [h0])]
  rw [hap];rw [h0] at hck;have hlaw := Zxu hE hR
  rw [hok.tab] at hlaw;refine Zab Tryz.func68 rfl Tryz.ntmps68 rfl ?_
  repeat (first|refine Yeb ?_|refine Yfe ?_|refine Yen ?_|refine Yab ?_)
  refine Zac _ rfl rfl rfl rfl rfl hS (hck _ _ hS) ?_
  rintro _ w rfl hS
  repeat (first|refine Yeb ?_|(refine X_id ?_;first|refine Yaf ?_|refine Yag ?_|refine Yau ?_|refine Yan ?_|refine Ybc ?_|refine Ycv ?_)|refine Yen ?_|refine Yab ?_)
  refine Zaa _ rfl rfl rfl rfl rfl (Z29 r A.vals _ (hmo.rd hS)) ?_
  rintro _ w ⟨r2,rfl,hS'⟩
  replace hS := hS.plus hS';clear hS';repeat (first|refine Yeb ?_|refine Ye4 ?_|refine Yee ?_|refine Yab ?_)
  refine Zbq (α := Unit) (fun _ => [(0,.pointer (some ⟨tp,0,none⟩)),(1,.slice a l.length c),(6,.map (some r2))]) (fun _ w => St W F2 [mapq (Value.int .i64) r2 (AV.vals (Zio A cl))] w) ?_ ?_
  ·refine Zaj (α := Nat) (fun i => [(0,.pointer (some ⟨tp,0,none⟩)),(1,.slice a l.length c),(6,.map (some r2)),(32,.slice a l.length c),(33,.int .i64 (l.length : Nat)),(34,.int .i64 (i : Nat))])
    (fun i w => i ≤ l.length ∧ St W F2 [mapq (Value.int .i64) r2 (AV.vals (Zio A (cl.take i)))] w) (fun i => l.length - i) 0 ⟨rfl,rfl,rfl,rfl,rfl,rfl,trivial⟩ ⟨Nat.zero_le _,hS⟩ ?_
   clear hS;rintro i w ⟨hi,hS⟩
   by_cases hlt : i < l.length
   ·have hx0 : l[i]? = some l[i] := List.getElem?_eq_getElem (by omega)
    generalize l[i] = x at hx0;have hr := hC2.row
    have hxs : ((l.flatMap ChgA.cells).drop (i * 7)).take 7 = [.int .i64 x.c.no,.int .i64 x.c.nd.st.kind,.int .i64 x.c.nd.st.mode,.int .i64 x.c.nd.st.owner,.int .i64 x.c.nd.st.group,.slice x.a x.c.nd.data.length x.k,.bool x.c.drop] := Zip hx0
    obtain ⟨xb,xo,hxa⟩ := (hr.rd hS).base (by intro e; rw [e] at hxs; simp at hxs)
    rw [hxa] at hr ⊢;repeat (first|refine Yeb ?_|(refine X_id ?_;first|refine Yaf ?_|refine Yan ?_|refine Ya1 ?_|refine Ybd ?_|refine Yaq ?_|refine Ybq ?_|refine Yao (fun _ hS _ => ?_)|refine Yar (fun _ _ hS _ => ?_))|refine Yef ?_|refine Yab ?_)
    have hS := hS.pick [1,0]
    refine Zjb (mk := Value.int .i64) (k := x.c.no) rfl rfl rfl rfl hS (fun w hS => ?_)
    repeat (first|refine Yeb ?_|refine Yeg ?_|refine Yad ?_|refine Yej ?_)
    refine Zae (i + 1) ⟨rfl,rfl,rfl,rfl,rfl,rfl,trivial⟩ ⟨by omega,?_⟩ (by omega)
    rw [Zuo (hget hx0),← Z1l];exact hS.pick [0]
   ·obtain rfl : i = l.length := by omega
    rw [List.take_of_length_le (by omega)] at hS;repeat (first|refine Yeb ?_|refine Yaz ?_|refine Yeo ?_|refine Yeh ?_)
    exact Zbw () ⟨rfl,rfl,rfl,trivial⟩ hS
  clear hS;rintro _ w hS
  have hsub := Zpc cl A
  have hents := Zl9 cl A
  repeat (first|refine Yaa ?_|refine Yaf ?_|refine Yec ?_)
  refine Zaa _ rfl rfl rfl rfl rfl (Z86 tp lp n r r2 p j m nb (Zio A cl) dat _ (hTo.rd hS) (hqo.rd hS) hE.len (hS.rd (List.mem_cons_self ..)) (fun x hx => (hbo.rd hS).bag (AV.row_b (hsub.mem hx))) (fun x hx => by
   have h1 := (hE.ok _ (AV.mem_ents (hsub.mem hx))).cnt
   have h2 := Zwe (hE.ok _ (AV.mem_ents (hsub.mem hx))).len
   simp only at h1 h2
   omega) ((by rw [← Zow]; exact hE.nodup : (Zav A).Nodup).sublist (hsub.map _))) ?_
  rintro _ w ⟨fa,fc,rfl,hfc,hS'⟩
  replace hS := (hS.plus hS').toBag Zf3
  clear hS';repeat (first|refine Yeb ?_|(refine X_id ?_;first|refine Yaf ?_|refine Yag ?_|refine Yat ?_|refine Yct ?_|refine Yar (fun _ _ hS _ => ?_))|refine Yee ?_|refine Yab ?_)
  rename_i t10 _ _;have hS := hS.own_none 158 2 none
  have hS := hS.pick [1,0,0,0]
  obtain ⟨z0,hz0⟩ : ∃ z0 : ApZ,z0 = ⟨0,Zio A cl,fa,fc,Zgt (AV.ents (Zio A cl)) nb,none,0,[],[(fa,ints .i64 (Zgt (AV.ents (Zio A cl)) nb))]⟩ := ⟨_,rfl⟩
  have hI0 : ApI A n nb cl z0 := by
   subst hz0
   refine ⟨Nat.zero_le _,?_,List.mem_singleton.2 rfl,hfc,Nat.le_refl _,fun v hv => (by cases hv),fun x hx => .inl (hsub.mem hx),Nat.le_refl _,fun b hb => (freeL_mem.1 hb).1⟩
   simp only [List.take_zero,ApS.run,ApS.start,hents]
   rfl
  have hbound : ∀ z,ApI A n nb cl z → z.ws.length ≤ 9000 := fun z hz => by have h1 := hz.wl; have h2 := hz.hi; omega
  refine Zbq (α := ApZ) (fun z => [(0,.pointer (some ⟨tp,0,none⟩)),(6,.map (some r2)),(10,.pointer (some ⟨t10,0,none⟩))]) (fun z w => (z.i = cl.length ∧ ApI A n nb cl z) ∧ St W F2 [pts t10 (.cells #[.slice z.aw z.ws.length z.cw] 227),own 158 2 z.aw z.cw (z.ws.flatMap Wr.cells),bag z.X,mapq (Value.int .i64) r2 (AV.vals z.A)] w) ?_ ?_
  ·refine Zaj (α := ApZ) (fun z => [(0,.pointer (some ⟨tp,0,none⟩)),(6,.map (some r2)),(9,.slice z.fa z.fl.length z.fc),(10,.pointer (some ⟨t10,0,none⟩)),(11,.func (.func 128) #[] #[.pointer (some ⟨t10,0,none⟩)]),(46,.slice a l.length c),(47,.int .i64 (l.length : Nat)),(48,.int .i64 (z.i : Nat))])
    (fun z w => ApI A n nb cl z ∧ St W F2 [pts t10 (.cells #[.slice z.aw z.ws.length z.cw] 227),own 158 2 z.aw z.cw (z.ws.flatMap Wr.cells),bag z.X,mapq (Value.int .i64) r2 (AV.vals z.A)] w) (fun z => l.length - z.i) z0 (by subst hz0; exact ⟨rfl,rfl,rfl,rfl,rfl,rfl,rfl,rfl,trivial⟩) (by subst hz0; exact ⟨hI0,hS⟩) ?_
   clear hS hI0 hz0;rintro ⟨i,Az,fa,fc,fl,aw,cw,ws,X⟩ w ⟨hI,hS⟩
   have hwl := hbound _ hI
   have hii := hI.hi
   have hfcap := hI.fcap
   have hwcap := hI.wcap
   simp only at hS hwl hii hfcap hwcap ⊢
   by_cases hlt : i < l.length
   ·have hx0 : l[i]? = some l[i] := List.getElem?_eq_getElem (by omega)
    generalize l[i] = x at hx0;have hgx := hget hx0
    have hr := hC2.row
    have hxs : ((l.flatMap ChgA.cells).drop (i * 7)).take 7 = [.int .i64 x.c.no,.int .i64 x.c.nd.st.kind,.int .i64 x.c.nd.st.mode,.int .i64 x.c.nd.st.owner,.int .i64 x.c.nd.st.group,.slice x.a x.c.nd.data.length x.k,.bool x.c.drop] := Zip hx0
    have hlow := hR.low _ (List.mem_of_getElem? hgx)
    have hrun : (ApS.start A.ents nb cl).run n (cl.take (i + 1)) = ApS.step n ⟨AV.ents Az,fl,ws.map Wr.data⟩ x.c := by
     rw [List.take_add_one,hgx];show (ApS.start A.ents nb cl).run n (cl.take i ++ [x.c]) = _
     rw [Zr2,hI.run]
     rfl
    obtain ⟨xb,xo,hxa⟩ := (hr.rd hS).base (by intro e; rw [e] at hxs; simp at hxs)
    rw [hxa] at hr ⊢;cases hdp : x.c.drop
    ·rw [hdp] at hxs
     have hokc := hR.ok _ (List.mem_of_getElem? hgx) hdp
     have hb8 := Zwe hokc.2
     have hokl := hokc.2
     have hdata := hC2.all x (List.mem_of_getElem? hx0)
     by_cases hk : fl.length < nblk x.c.nd.data.length
     ·have hnone : ApS.step n ⟨AV.ents Az,fl,ws.map Wr.data⟩ x.c = none := by unfold ApS.step; rw [if_neg (by simp [hdp]),if_pos hk]
      have hall : (ApS.start A.ents nb cl).run n cl = none := by
       have := Zr3 n (cl.take (i + 1)) (cl.drop (i + 1)) _ (hrun.trans hnone)
       rwa [List.take_append_drop] at this
      have hbad : (runT T nb cl).2.2 = true := by
       rcases hlaw with ⟨_,h⟩ | ⟨z,h1,_⟩
       ·exact h
       ·rw [hall] at h1; cases h1
      have hp : putT T nb (j / 2) cl = (6,T) := by unfold putT; rw [if_pos hbad]
      rw [hp];repeat (first|refine Yeb ?_|(refine X_id ?_;first|(refine Zaa 129 rfl rfl rfl rfl rfl (Zsp _ _ (by omega)) ?_;rintro _ _ ⟨rfl,rfl⟩)|refine Yaf ?_|refine Yag ?_|refine Yan ?_|refine Yby ?_|refine Yat ?_|refine Ya1 ?_|refine Ybx ?_|refine Ybd ?_|refine Yaq ?_|refine Ybq ?_|refine Yao (fun _ hS _ => ?_)|refine Yar (fun _ _ hS _ => ?_))|refine Yfg ?_|refine Yex ?_)
      exact ⟨rfl,((hbk hS.drops).shutItab hok).head Zqt⟩
     ·obtain ⟨bs,hbs⟩ : ∃ bs,bs = fl.take (nblk x.c.nd.data.length) := ⟨_,rfl⟩
      have hbsl : bs.length = nblk x.c.nd.data.length := by rw [hbs,List.length_take]; omega
      have hbfl : bs.length ≤ fl.length := by omega
      have hbst : bs = fl.take bs.length := by rw [hbsl]; exact hbs
      have hstep : ApS.step n ⟨AV.ents Az,fl,ws.map Wr.data⟩ x.c = some ⟨setA x.c.no ⟨x.c.nd,bs⟩ (AV.ents Az),fl.drop bs.length,ws.map Wr.data ++ (Zce n bs x.c.nd.data ++ [(1 + x.c.no,stoB ⟨x.c.nd,bs⟩)])⟩ := by
       unfold ApS.step
       rw [if_neg (by simp [hdp]),if_neg hk,← hbs,← hbsl]
      have hib : ∀ w,Calls Tryz.prog 129 #[.int .i64 (x.c.nd.data.length : Nat)] w (Ret fun v w' => v = .int .i64 (bs.length : Nat) ∧ w = w') := fun w => by rw [hbsl]; exact Zsp _ _ (by omega)
      repeat (first|refine Yeb ?_|(refine X_id ?_;first|(refine Zaa 129 rfl rfl rfl rfl rfl (hib _) ?_;rintro _ _ ⟨rfl,rfl⟩)|refine Yaf ?_|refine Yag ?_|refine Yan ?_|refine Yby ?_|refine Yat ?_|refine Ya1 ?_|refine Ybr ?_|refine Ybd ?_|refine Yaq ?_|refine Ybq ?_|refine Yao (fun _ hS _ => ?_)|refine Yar (fun _ _ hS _ => ?_))|refine Yei ?_|refine Yab ?_)
      rename_i t13 _ _ _ _ _;refine Zti (α := Nat × Option Addr × Nat) (fun y => [(0,.pointer (some ⟨tp,0,none⟩)),(6,.map (some r2)),(9,.slice fa fl.length fc),(10,.pointer (some ⟨t10,0,none⟩)),(11,.func (.func 128) #[] #[.pointer (some ⟨t10,0,none⟩)]),(13,.pointer (some ⟨t13,0,none⟩)),(14,.int .i64 (bs.length : Nat)),(15,.pointer (some ⟨y.1,0,none⟩)),(46,.slice (some ⟨xb,xo,none⟩) l.length c),(47,.int .i64 (l.length : Nat)),(48,.int .i64 (i : Nat))])
       (fun y w => x.c.nd.data.length ≤ y.2.2 ∧ St W F2 [pts y.1 (.cells (stoV ⟨x.c.nd,bs⟩ y.2.1 y.2.2 fa bs.length).toArray 241),own 5 1 y.2.1 y.2.2 (bv x.c.nd.data),pts t13 (.cells (List.toArray [.int .i64 x.c.no,.int .i64 x.c.nd.st.kind,.int .i64 x.c.nd.st.mode,.int .i64 x.c.nd.st.owner,.int .i64 x.c.nd.st.group,.slice x.a x.c.nd.data.length x.k,.bool false]) 165),
        pts t10 (.cells #[.slice aw ws.length cw] 227),own 158 2 aw cw (ws.flatMap Wr.cells),bag X,mapq (Value.int .i64) r2 (AV.vals Az)] w) ?_ ?_
      ·skip
       refine Zao (.s 0 (.s 1 (.s 2 (.s 3 (.s 4 (.s 5 (.s 8 (.s 9 (.s 10 (.s 11 (.h 6 (.s 7 (.s 12 (.h 13 (.h 14 .nil .no) .no))) (.h 13 (.h 6 (.s 7 (.s 12 (.h 14 .nil .no))) .no) .no)))))))))))) mixed (by kernel_rfl) rfl ?_
       have hS := hS.drew
       repeat (first|(refine Zaf ?_;first|refine Ya6 ?_|refine Ybk ?_|refine Ydl ?_|refine Ybn ?_|refine Yb0 ?_))
       refine Zai rfl rfl (fun _ => Zh1 (l := 0) (h := bs.length) (k := bs.length) rfl rfl rfl rfl rfl ⟨_,_,rfl,by omega,by omega,by omega⟩ ⟨_,_,rfl,by omega,by omega,by omega⟩ (.inl ⟨rfl,rfl⟩)) rfl rfl ?_
       rw [sub_zero,Nat.sub_zero];refine Zp3 ?_ ?_
       ·repeat (first|(refine Zaf ?_;first|refine Yax ?_))
        refine Zaa _ rfl rfl rfl rfl rfl (Ze6 x.a x.c.nd.data.length x.k x.c.nd.data _ (hdata.rd hS) rfl (by omega)) ?_
        rintro _ w ⟨da,dc,rfl,_,hdc,hS'⟩
        replace hS := hS.plus hS';clear hS';repeat (first|refine Yao (fun _ hS _ => ?_)|refine Yar (fun _ _ hS _ => ?_)|(refine Zaf ?_;first|refine Ya2 ?_|refine Ycd ?_|refine Yax ?_)|(refine Zad ?_;first|refine Yay ?_))
        rename_i t15 _ _ _ _ _;exact Zbw (t15,da,dc) ⟨rfl,rfl,rfl,rfl,rfl,rfl,rfl,rfl,rfl,rfl,rfl,trivial⟩ ⟨hdc,hS.took⟩
       ·repeat (first|refine Yar (fun _ _ hS _ => ?_)|(refine Zaf ?_;first|refine Yax ?_)|(refine Zad ?_;first|refine Yay ?_))
        refine Zaa _ rfl rfl rfl rfl rfl (Ze6 x.a x.c.nd.data.length x.k x.c.nd.data _ (hdata.rd hS) rfl (by omega)) ?_
        rintro _ w ⟨da,dc,rfl,_,hdc,hS'⟩
        replace hS := hS.plus hS';clear hS';repeat (first|refine Yao (fun _ hS _ => ?_)|(refine Zaf ?_;first|refine Ya2 ?_|refine Ycd ?_|refine Yax ?_)|(refine Zad ?_;first|refine Yay ?_))
        rename_i t15 _ _ _ _ _ _;exact Zbw (t15,da,dc) ⟨rfl,rfl,rfl,rfl,rfl,rfl,rfl,rfl,rfl,rfl,rfl,trivial⟩ ⟨hdc,hS.took⟩
      ·clear hS
       rintro ⟨t15,da,dc⟩ w ⟨hdc,hS⟩
       simp only at hdc hS ⊢
       have hS := (hS.pick [1,4,0,0,0,0,0]).bagAdd Zf3
       have hS := hS.bagPart (List.mem_cons_of_mem _ hI.fX) (Zr4 bs.length)
       have hbi : (ints .i64 fl).take bs.length = ints .i64 bs := by rw [hbst]; simp [ints,List.map_take]
       simp only [hbi] at hS
       have hS := hS.bagPart (List.mem_cons_of_mem _ (List.mem_cons_of_mem _ hI.fX)) (Zze (k := bs.length) (c := fc) (by simp only [ints_length]; exact hfcap) (by simp only [ints_length]; exact hbfl))
       have hfi : (ints .i64 fl).drop bs.length = ints .i64 (fl.drop bs.length) := by simp [ints,List.map_drop]
       simp only [hfi] at hS
       obtain ⟨X2,hX2⟩ : ∃ X2,X2 = (sub fa bs.length 1 fc,ints .i64 (fl.drop bs.length)) :: (fa,ints .i64 bs) :: (da,bv x.c.nd.data) :: X := ⟨_,rfl⟩
       rw [← hX2] at hS;repeat (first|refine Yaa ?_|refine Yaf ?_|refine Yec ?_)
       refine X_yl (Zaq (l := bs.length) (h := fl.length) rfl rfl rfl rfl (.inl ⟨rfl,rfl⟩) (.inr ⟨_,_,rfl,by omega,by omega,by omega⟩)) rfl rfl ?_
       repeat (first|refine Yeb ?_|(refine X_id ?_;first|refine Yaf ?_|refine Yag ?_|refine Yan ?_|refine Yat ?_|refine Yaq ?_)|refine Yee ?_|refine Yab ?_)
       have hsubX : ∀ y ∈ X,y ∈ X2 := fun y hy => by rw [hX2]; exact List.mem_cons_of_mem _ (List.mem_cons_of_mem _ (List.mem_cons_of_mem _ hy))
       have hX2a : (sub fa bs.length 1 fc,ints .i64 (fl.drop bs.length)) ∈ X2 := by rw [hX2]; exact List.mem_cons_self ..
       have hX2b : (fa,ints .i64 bs) ∈ X2 := by rw [hX2]; exact List.mem_cons_of_mem _ (List.mem_cons_self ..)
       have hX2c : (da,bv x.c.nd.data) ∈ X2 := by rw [hX2]; exact List.mem_cons_of_mem _ (List.mem_cons_of_mem _ (List.mem_cons_self ..))
       refine Zbq (α := Option Addr × Nat × List Wr × List RowD) (fun _ => [(0,.pointer (some ⟨tp,0,none⟩)),(6,.map (some r2)),(9,.slice (sub fa bs.length 1 fc) (fl.length - bs.length) (fc - bs.length)),(10,.pointer (some ⟨t10,0,none⟩)),(11,.func (.func 128) #[] #[.pointer (some ⟨t10,0,none⟩)]),(13,.pointer (some ⟨t13,0,none⟩)),(15,.pointer (some ⟨t15,0,none⟩)),(46,.slice (some ⟨xb,xo,none⟩) l.length c),(47,.int .i64 (l.length : Nat)),(48,.int .i64 (i : Nat))])
        (fun y w => BlI n bs x.c.nd.data ws X2 bs.length y.2.1 y.2.2.1 y.2.2.2 ∧ St W F2 [pts t10 (.cells #[.slice y.1 y.2.2.1.length y.2.1] 227),own 158 2 y.1 y.2.1 (y.2.2.1.flatMap Wr.cells),bag y.2.2.2,pts t15 (.cells (stoV ⟨x.c.nd,bs⟩ da dc fa bs.length).toArray 241),pts t13 (.cells (List.toArray [.int .i64 x.c.no,.int .i64 x.c.nd.st.kind,.int .i64 x.c.nd.st.mode,.int .i64 x.c.nd.st.owner,.int .i64 x.c.nd.st.group,.slice x.a x.c.nd.data.length x.k,.bool false]) 165),mapq (Value.int .i64) r2 (AV.vals Az)] w) ?_ ?_
       ·refine Zaj (α := Nat × Option Addr × Nat × List Wr × List RowD) (fun y => [(0,.pointer (some ⟨tp,0,none⟩)),(6,.map (some r2)),(9,.slice (sub fa bs.length 1 fc) (fl.length - bs.length) (fc - bs.length)),(10,.pointer (some ⟨t10,0,none⟩)),(11,.func (.func 128) #[] #[.pointer (some ⟨t10,0,none⟩)]),(13,.pointer (some ⟨t13,0,none⟩)),(15,.pointer (some ⟨t15,0,none⟩)),(46,.slice (some ⟨xb,xo,none⟩) l.length c),(47,.int .i64 (l.length : Nat)),(48,.int .i64 (i : Nat)),(85,.slice fa bs.length bs.length),(86,.int .i64 (bs.length : Nat)),(87,.int .i64 (y.1 : Nat))])
         (fun y w => y.1 ≤ bs.length ∧ BlI n bs x.c.nd.data ws X2 y.1 y.2.2.1 y.2.2.2.1 y.2.2.2.2 ∧ St W F2 [pts t10 (.cells #[.slice y.2.1 y.2.2.2.1.length y.2.2.1] 227),own 158 2 y.2.1 y.2.2.1 (y.2.2.2.1.flatMap Wr.cells),bag y.2.2.2.2,pts t15 (.cells (stoV ⟨x.c.nd,bs⟩ da dc fa bs.length).toArray 241),pts t13 (.cells (List.toArray [.int .i64 x.c.no,.int .i64 x.c.nd.st.kind,.int .i64 x.c.nd.st.mode,.int .i64 x.c.nd.st.owner,.int .i64 x.c.nd.st.group,.slice x.a x.c.nd.data.length x.k,.bool false]) 165),mapq (Value.int .i64) r2 (AV.vals Az)] w)
         (fun y => bs.length - y.1) (0,aw,cw,ws,X2) ⟨rfl,rfl,rfl,rfl,rfl,rfl,rfl,rfl,rfl,rfl,rfl,rfl,rfl,trivial⟩ ⟨Nat.zero_le _,⟨by simp,hwcap,fun v hv => hsubX _ (hI.wX v hv),fun _ h => h⟩,hS.took⟩ ?_
        clear hS;rintro ⟨i2,aw2,cw2,ws2,X3⟩ w ⟨hi2,hB,hS⟩
        simp only at hi2 hB hS ⊢
        have hwl2 := hB.len hi2
        have hcap2 := hB.cap
        by_cases hlt2 : i2 < bs.length
        ·have hb0 : bs[i2]? = some bs[i2] := List.getElem?_eq_getElem hlt2
         generalize bs[i2] = b at hb0;have hblow := hI.flow b (by have := List.mem_of_getElem? hb0; rw [hbst] at this; exact List.mem_of_mem_take this)
         have hxI : (ints .i64 bs)[i2]? = some (.int .i64 b) := by simp [ints,hb0]
         have hbagR : ∀ w rs,St W F2 (pts t10 (.cells #[.slice aw2 ws2.length cw2] 227) :: own 158 2 aw2 cw2 (ws2.flatMap Wr.cells) :: bag X3 :: rs) w → Rd w (row fa (ints .i64 bs)) := fun w rs h => (h.rd (r := bag X3) (by simp)).bag (hB.sub _ hX2b)
         have hfaE : ∃ b off,fa = some ⟨b,off,none⟩ := (hbagR _ _ hS).base (by intro e; rw [e] at hxI; simp at hxI)
         repeat (first|refine Yeb ?_|refine Yaf ?_|refine Ya1 ?_|refine Ybd ?_|refine Yef ?_|refine Yab ?_)
         refine X_yl (Zau rfl rfl ((hbagR _ _ hS).cellX (by omega) hxI)) rfl rfl ?_
         repeat (first|refine Yeb ?_|refine Yag ?_|refine Yab ?_)
         refine Zao (.s 0 (.s 1 (.s 2 (.s 4 (.s 5 (.s 6 (.s 7 (.s 8 (.s 9 (.s 10 (.s 11 (.s 12 (.s 13 (.s 14 (.s 15 (.s 16 (.s 17 (.h 3 (.h 18 .nil .no) .no)))))))))))))))))) mixed (by kernel_rfl) rfl ?_
         have hS := hS.drew
         repeat (first|(refine Zaf ?_;first|refine Ya6 ?_|refine Ybk ?_|refine Ydv ?_|refine Ycl ?_|refine Yd8 ?_|refine Ybn ?_))
         refine Zai rfl rfl (fun _ => Znu rfl rfl rfl) rfl rfl ?_
         obtain ⟨hN,hhN⟩ : ∃ hN : Nat,hN = min (64 * (i2 + 1)) x.c.nd.data.length := ⟨_,rfl⟩
         have hmin : min (64 * ((i2 : Int) + 1)) (x.c.nd.data.length : Nat) = (hN : Nat) := by omega
         rw [hmin];have hnb : 64 * i2 ≤ hN := by
          have : 64 * i2 < x.c.nd.data.length := by rw [hbsl] at hlt2; unfold nblk at hlt2; omega
          omega
         refine Zai rfl rfl (fun _ => Zaq (l := 64 * i2) (h := hN) rfl rfl rfl rfl (.inr ⟨_,_,rfl,by omega,by omega,by omega⟩) (.inr ⟨_,_,rfl,by omega,by omega,by omega⟩)) rfl rfl ?_
         repeat (first|(refine X_id ?_;first|(refine Zaa 130 rfl rfl rfl rfl rfl (Z16 tp lp n r b _ (hTo.rd hS) (by omega) hblow.1 (by omega)) ?_;rintro _ _ ⟨rfl,rfl⟩))|(refine Zaf ?_;first|refine Yax ?_)|(refine Zad ?_;first|refine Yay ?_))
         obtain ⟨_,hc3,hr3,hw3,hbk3⟩ := hS.call [true,true,false,false,false,false]
         have hdb := ((hr3 (bag X3) (by simp)).bag (hB.sub _ hX2c)).subBytes (l := 64 * i2) (h := hN) (c := dc) (by omega) hnb
         refine Zdk (first := []) (captured := [.pointer (some ⟨t10,0,none⟩)]) rfl rfl rfl rfl rfl (Z2r t10 aw2 cw2 ws2 (1 + (n : Int) + b) (sub da (64 * i2) 1 dc) (hN - 64 * i2) (dc - 64 * i2) ((x.c.nd.data.drop (64 * i2)).take (hN - 64 * i2)) _ _ hdb (by rw [List.length_take,List.length_drop]; omega) hcap2 (by omega) hc3) ?_
         rintro _ w ⟨rfl,aw3,cw3,q,hcw3,hS⟩
         replace hS := hbk3 hS
         clear hc3 hr3 hw3 hbk3;rw [Znj _ _ _ hhN] at hS;repeat (first|refine Yeb ?_|refine Yeg ?_|refine Yad ?_|refine Yej ?_|(refine Zaf ?_;first|refine Ya2 ?_)|(refine Zad ?_;first|refine Yay ?_))
         have hS := (hS.pick [2,2,0,0,0,0,0]).bagAdd (fun _ h => h)
         have hS := hS.pick [1,1,0,0,0,0]
         refine Zae (α := Nat × Option Addr × Nat × List Wr × List RowD) (z := (i2,aw2,cw2,ws2,X3)) (i2 + 1,aw3,cw3,ws2 ++ [putW (1 + (n : Int) + b) q ((x.c.nd.data.drop (64 * i2)).take (hN - 64 * i2))],(some ⟨q,0,none⟩,bv (Zgg x.c.nd.data i2)) :: X3) ⟨rfl,rfl,rfl,rfl,rfl,rfl,rfl,rfl,rfl,rfl,rfl,rfl,rfl,trivial⟩ ⟨by simp only; omega,⟨?_,by simp only [List.length_append,List.length_cons,List.length_nil]; exact hcw3,fun v hv => ?_,fun y hy => List.mem_cons_of_mem _ (hB.sub y hy)⟩,?_⟩ (by simp only; omega)
         ·simp only
          rw [List.map_append,hB.data,Zq7 hb0,List.append_assoc]
          congr 2
          simp [Wr.data,Znj _ _ _ hhN]
         ·rcases List.mem_append.1 hv with hv | hv
          ·exact List.mem_cons_of_mem _ (hB.wX v hv)
          ·rw [List.mem_singleton] at hv
           rw [hv];simp only [Znj _ _ _ hhN]
           exact List.mem_cons_self ..
         ·simp only [List.length_append,List.length_cons,List.length_nil]
          exact hS
        ·obtain rfl : i2 = bs.length := by omega
         repeat (first|refine Yeb ?_|refine Yaz ?_|refine Yeo ?_|refine Yeh ?_)
         exact Zbw (aw2,cw2,ws2,X3) ⟨rfl,rfl,rfl,rfl,rfl,rfl,rfl,rfl,rfl,rfl,trivial⟩ ⟨hB,hS⟩
       ·clear hS
        rintro ⟨aw2,cw2,ws2,X3⟩ w ⟨hB,hS⟩
        simp only at hB hS ⊢
        have hwl2 := hB.len (Nat.le_refl _)
        have hcap2 := hB.cap
        repeat (first|refine Yae ?_)
        refine Zao (.s 0 (.s 1 (.s 2 (.s 3 (.s 4 (.h 5 (.h 6 .nil .no) .no)))))) mixed (by kernel_rfl) rfl ?_
        have hS := hS.drew
        repeat (first|(refine Zaf ?_;first|refine Ya6 ?_|refine Ybk ?_|refine Ycl ?_|refine Ybn ?_|refine Yb0 ?_|refine Yax ?_))
        refine Zaa _ rfl rfl rfl rfl rfl (Z2j ⟨x.c.nd,bs⟩ da dc fa bs.length _ ((hS.rd (r := bag X3) (by simp)).bag (hB.sub _ hX2b)) (by simp only; omega) (by simp only; omega)) ?_
        rintro _ w ⟨q1,rfl,hS'⟩
        replace hS := hS.plus hS';clear hS';repeat (first|(refine Zaf ?_;first|refine Yax ?_)|(refine Zad ?_;first|refine Yay ?_))
        obtain ⟨_,hc3,hr3,hw3,hbk3⟩ := hS.call [false,true,true,false,false,false,false]
        refine Zdk (first := []) (captured := [.pointer (some ⟨t10,0,none⟩)]) rfl rfl rfl rfl rfl (Z2r t10 aw2 cw2 ws2 (1 + x.c.no) (some ⟨q1,0,none⟩) 64 64 (stoB ⟨x.c.nd,bs⟩) _ _ (hr3 (bytes (some ⟨q1,0,none⟩) (stoB ⟨x.c.nd,bs⟩)) (by simp)) (Zdu _) hcap2 (by omega) hc3) ?_
        rintro _ w ⟨rfl,aw3,cw3,q,hcw3,hS⟩
        replace hS := hbk3 hS
        clear hc3 hr3 hw3 hbk3;rw [Znd (Zdu _)] at hS;have hS := hS.took (out := [mapq (Value.int .i64) r2 (AV.vals Az),bytes (some ⟨q,0,none⟩) (stoB ⟨x.c.nd,bs⟩),bag X3,pts t10 (.cells #[.slice aw3 (ws2.length + 1) cw3] 227),own 158 2 aw3 cw3 ((ws2 ++ [putW (1 + x.c.no) q (stoB ⟨x.c.nd,bs⟩)]).flatMap Wr.cells),pts t15 (.cells (stoV ⟨x.c.nd,bs⟩ da dc fa bs.length).toArray 241),pts t13 (.cells (List.toArray [.int .i64 x.c.no,.int .i64 x.c.nd.st.kind,.int .i64 x.c.nd.st.mode,.int .i64 x.c.nd.st.owner,.int .i64 x.c.nd.st.group,.slice x.a x.c.nd.data.length x.k,.bool false]) 165)])
        repeat (first|refine Yaa ?_|refine Yaf ?_|refine Yan ?_|refine Yaq ?_|refine Ybi ?_|refine Yad ?_|refine Yab ?_|(refine Zaf ?_;first|refine Ya2 ?_)|(refine Zad ?_;first|refine Yay ?_))
        refine Zfw (mk := Value.int .i64) (k := x.c.no) (v := SV.val ⟨⟨x.c.nd,bs⟩,da,dc,fa,bs.length⟩) rfl rfl rfl rfl rfl hS (fun w hS => ?_)
        rw [Z07] at hS;repeat (first|refine Yeb ?_|refine Yeg ?_|refine Yad ?_|refine Yej ?_)
        have hS := (hS.pick [1,1,1,1,0]).bagAdd (fun _ h => h)
        have hS := hS.pick [1,1,0,0]
        have hbt : (Zce n bs x.c.nd.data).take bs.length = Zce n bs x.c.nd.data := List.take_of_length_le (by simp [Zce])
        refine Zae (α := ApZ) (z := ⟨i,Az,fa,fc,fl,aw,cw,ws,X⟩) (⟨i + 1,setA x.c.no ⟨⟨x.c.nd,bs⟩,da,dc,fa,bs.length⟩ Az,sub fa bs.length 1 fc,fc - bs.length,fl.drop bs.length,aw3,cw3,ws2 ++ [putW (1 + x.c.no) q (stoB ⟨x.c.nd,bs⟩)],(some ⟨q,0,none⟩,bv (stoB ⟨x.c.nd,bs⟩)) :: X3⟩ : ApZ) ⟨rfl,rfl,by simp only; rw [List.length_drop]; rfl,rfl,rfl,rfl,rfl,rfl,trivial⟩
         ⟨⟨by simp only; omega,?_,List.mem_cons_of_mem _ (hB.sub _ hX2a),by simp only [List.length_drop]; omega,by simp only [List.length_append,List.length_cons,List.length_nil]; exact hcw3,fun v hv => ?_,fun y hy => ?_,?_,fun b hb => hI.flow b (List.mem_of_mem_drop hb)⟩,?_⟩ (by simp only; omega)
        ·simp only
         rw [hrun,hstep,List.map_append,hB.data,hbt,List.append_assoc,show AV.ents (setA x.c.no (⟨⟨x.c.nd,bs⟩,da,dc,fa,bs.length⟩ : SV) Az) = setA x.c.no ⟨x.c.nd,bs⟩ (AV.ents Az) from (Zr1 SV.s).symm];have : Zct (stoB ⟨x.c.nd,bs⟩) = stoB ⟨x.c.nd,bs⟩ := Znd (Zdu _)
         simp [Wr.data,this]
        ·rcases List.mem_append.1 hv with hv | hv
         ·exact List.mem_cons_of_mem _ (hB.wX v hv)
         ·rw [List.mem_singleton] at hv
          rw [hv];have : Zct (stoB ⟨x.c.nd,bs⟩) = stoB ⟨x.c.nd,bs⟩ := Znd (Zdu _)
          simp only [this]
          exact List.mem_cons_self ..
        ·rcases Zsc hy with rfl | hy
         ·exact .inr ⟨List.mem_cons_of_mem _ (hB.sub _ hX2c),List.mem_cons_of_mem _ (hB.sub _ hX2b)⟩
         ·exact (hI.aX y hy).imp id fun h => ⟨List.mem_cons_of_mem _ (hB.sub _ (hsubX _ h.1)),List.mem_cons_of_mem _ (hB.sub _ (hsubX _ h.2))⟩
        ·have := hI.wl
         simp only [List.length_append,List.length_cons,List.length_nil] at this ⊢
         omega
        ·simp only [List.length_append,List.length_cons,List.length_nil]
         exact hS
    ·rw [hdp] at hxs
     repeat (first|refine Yeb ?_|(refine X_id ?_;first|refine Yaf ?_|refine Yan ?_|refine Ya1 ?_|refine Ybd ?_|refine Yaw ?_|refine Yaq ?_|refine Ybq ?_|refine Yao (fun _ hS _ => ?_)|refine Yar (fun _ _ hS _ => ?_))|refine Yef ?_|refine Yab ?_)
     obtain ⟨_,hc3,hr3,hw3,hbk3⟩ := hS.call [false,true,true,false,false]
     refine Zdk (first := []) (captured := [.pointer (some ⟨t10,0,none⟩)]) rfl rfl rfl rfl rfl (Z2r t10 aw cw ws (1 + x.c.no) none 0 0 [] _ _ (Zh5 _ _ _) rfl hwcap (by omega) hc3) ?_
     rintro _ w ⟨rfl,aw',cw',q,hcw',hS⟩
     replace hS := hbk3 hS
     clear hc3 hr3 hw3 hbk3;repeat (first|refine Yeb ?_|refine Yeg ?_|refine Yad ?_|refine Ya3 ?_|refine Yeh ?_)
     have hS := (hS.pick [2,3,0,0,1]).bagAdd (fun _ h => h)
     have hS := hS.pick [1,1,0,0]
     refine Zae (α := ApZ) (z := ⟨i,Az,fa,fc,fl,aw,cw,ws,X⟩) (⟨i + 1,Az,fa,fc,fl,aw',cw',ws ++ [putW (1 + x.c.no) q []],(some ⟨q,0,none⟩,bv (Zct [])) :: X⟩ : ApZ) ⟨rfl,rfl,rfl,rfl,rfl,rfl,rfl,rfl,trivial⟩ ⟨⟨by simp only; omega,?_,List.mem_cons_of_mem _ hI.fX,hfcap,by simp only [List.length_append,List.length_cons,List.length_nil]; exact hcw',fun v hv => ?_,fun y hy => (hI.aX y hy).imp id fun h => ⟨List.mem_cons_of_mem _ h.1,List.mem_cons_of_mem _ h.2⟩,?_,hI.flow⟩,?_⟩ (by simp only; omega)
     ·simp only
      rw [hrun];unfold ApS.step
      rw [if_pos hdp];have : Zct [] = zero64 := by simp [Zct,zero64]
      simp [Wr.data,this]
     ·rcases List.mem_append.1 hv with hv | hv
      ·exact List.mem_cons_of_mem _ (hI.wX v hv)
      ·rw [List.mem_singleton] at hv; rw [hv]; exact List.mem_cons_self ..
     ·have := hI.wl
      simp only [List.length_append,List.length_cons,List.length_nil] at this ⊢
      omega
     ·simp only [List.length_append,List.length_cons,List.length_nil]
      exact hS
   ·obtain rfl : i = l.length := by omega
    repeat (first|refine Yeb ?_|refine Yaz ?_|refine Yeo ?_|refine Yeh ?_)
    exact Zbw (⟨l.length,Az,fa,fc,fl,aw,cw,ws,X⟩ : ApZ) ⟨rfl,rfl,rfl,trivial⟩ ⟨⟨hcll.symm,hI⟩,hS⟩
  ·clear hS hI0 hz0
   rintro ⟨i,Az,fa,fc,fl,aw,cw,ws,X⟩ w ⟨⟨hi,hI⟩,hS⟩
   have hwl := hbound _ hI
   have hwcap := hI.wcap
   have hrun := hI.run
   simp only at hi hS hwl hwcap hrun ⊢
   rw [hi,List.take_length] at hrun;rcases hlaw with ⟨h1,_⟩ | ⟨z',h1,h2,h3,h4,h5⟩
   ·rw [hrun] at h1; cases h1
   ·obtain rfl : z' = ⟨AV.ents Az,fl,ws.map Wr.data⟩ := by rw [hrun] at h1; exact (Option.some.inj h1).symm
    simp only at h2 h3 h4 h5
    have hnl : (ws.map Wr.data).length = ws.length := by simp
    rw [hnl] at h2;repeat (first|refine Yae ?_)
    refine Zao (.s 0 (.s 1 (.s 2 (.s 3 (.s 4 (.h 5 (.s 6 .nil) .no)))))) mixed (by kernel_rfl) rfl ?_
    have hS := hS.drew
    repeat (first|(refine Zaf ?_;first|refine Ya6 ?_|refine Ybs ?_|refine Ybk ?_|refine Ybn ?_|refine Yax ?_|refine Ydw ?_))
    replace hS := hbk hS
    obtain ⟨_,hc4,hr4,hw4,hbk4⟩ := hS.call [false,false,false,false,false,false,false,true]
    refine Zaa _ rfl rfl rfl rfl rfl (Zr5 lp p j m dat aw cw ws rd fs _ _ (hG.mono hw4) ⟨(hr4 (own 158 2 aw cw (ws.flatMap Wr.cells)) (by simp)).own_row,fun v hv => (hr4 (bag X) (by simp)).bag (hI.wX v hv)⟩ (by omega) hm h4 (by rw [hE.len]; exact h5) hc4) ?_
    rintro _ w (⟨hfull,rfl,hS⟩ | ⟨hfit,rfl,hS⟩)
    ·replace hS := hbk4 hS
     clear hc4 hr4 hw4 hbk4;have hp : putT T nb (j / 2) cl = (6,T) := by unfold putT; rw [h2,if_neg (by simp),if_pos hfull]
     rw [hp];repeat (first|refine Yeb ?_|refine Yaf ?_|refine Yag ?_|refine Ybj ?_|refine Yet ?_|refine Yeu ?_|(refine Zaf ?_;first|refine Ya2 ?_|refine Ybl ?_)|(refine Zad ?_;first|refine Yay ?_))
     have h := hS.took (out := [Zid tp lp n r,mapq (Value.int .i64) r A.vals,bag A.rows,qlog lp p j m dat])
     exact ⟨rfl,(h.shutItab hok).head Zqt⟩
    ·replace hS := hbk4 hS
     clear hc4 hr4 hw4 hbk4;have hp : putT T nb (j / 2) cl = (0,tabOf (AV.ents Az) n) := by unfold putT; rw [h2,if_neg (by simp),if_neg (by simp only; omega)]
     rw [hp];repeat (first|refine Yeb ?_|(refine X_id ?_;first|refine Yaf ?_|refine Yag ?_|refine Yau ?_|refine Yan ?_|refine Ybc ?_|refine Yao (fun _ hS _ => ?_))|refine Ye1 ?_|refine Yed ?_|(refine Zaf ?_;first|refine Ya2 ?_|refine Ybl ?_)|(refine Zad ?_;first|refine Yay ?_))
     have h := hS.took (out := [bag X,bag A.rows,Zid tp lp n r2,mapq (Value.int .i64) r2 (AV.vals Az),qlog lp p j (m + 1) (Zb7 dat (ws.map Wr.data))])
     have h := h.bagJoin.bagSub (Y := AV.rows Az) (fun y hy => by
      obtain ⟨x,hx,hyx⟩ := List.mem_flatMap.1 hy
      rcases hI.aX x hx with hxA | ⟨e1,e2⟩
      ·exact List.mem_append_right _ (List.mem_flatMap.2 ⟨x,hxA,hyx⟩)
      ·simp only [List.mem_cons,List.not_mem_nil,or_false] at hyx
       rcases hyx with rfl | rfl
       ·exact List.mem_append_left _ e1
       ·exact List.mem_append_left _ e2)
     have h := h.pick [1,1,0,0]
     exact ⟨rfl,h.shutItab ⟨rfl,h3,hok.n1,hok.n4,hok.nb1⟩⟩
 ·have hap : Zh0 T nb (j / 2) cl = (Zeu cl n,T) := by unfold Zh0; rw [htl,if_pos h0]
  rw [hap];refine Zab Tryz.func68 rfl Tryz.ntmps68 rfl ?_
  repeat (first|refine Yeb ?_|refine Yfe ?_|refine Yen ?_|refine Yab ?_)
  refine Zac _ rfl rfl rfl rfl rfl hS (hck _ _ hS) ?_
  rintro _ w rfl hS
  repeat (first|refine Yeb ?_|refine Yaf ?_|refine Yag ?_|refine Ybj ?_|refine Yet ?_|refine Yeu ?_)
  exact ⟨rfl,((hbk hS).shutItab hok).head Zqt⟩
end
theorem Zw4 : Zct [] = zero64 := by simp [Zct,zero64]
theorem Zg3 : zero64.length = 64 := by simp [zero64]
theorem Z3k (rd fs : List Int) {dat : List (List UInt8)} {n nb : Nat} (hd : dat.length = 1 + n + nb) (hz : ∀ i,i < n → dat.getD (1 + i) [] = zero64) : Enc rd fs (Zb7 dat [(0,Zcf rd fs n)]) n nb [] := by
 have hg : ∀ k,k < dat.length → (Zb7 dat [(0,Zcf rd fs n)]).getD k [] = if k = 0 then Zcf rd fs n else dat.getD k [] := fun k hk => by
  rw [Zc8 _ _ _ hk (fun v hv => by rw [List.mem_singleton] at hv; rw [hv]; exact Int.le_refl _),Zdy]
  by_cases h : k = 0
  ·subst h; simp [Zcg]
  ·rw [if_neg h,if_neg (by simp only; omega)]; simp [Zcg]
 refine ⟨by rw [Zaw]; exact hd,by rw [hg 0 (by omega),if_pos rfl],fun k hk => by simp [Zav] at hk,by simp [Zav],fun i hi => ?_,fun x hx => by simp at hx,fun x hx => by simp at hx,by simp [Zay]⟩
 rw [hg _ (by omega),if_neg (by omega),hz i hi]
 rfl
theorem Z18 (n : Nat) : tabOf [] n = List.replicate n none := by
 apply List.ext_getElem
 ·simp [tabOf]
 ·intro i h1 h2
  simp [tabOf,getA]
theorem Z3j (lp p j m n nb : Nat) (dat : List (List UInt8)) (rd fs : List Int) (W : World) (F : Nat → Prop) (hG : Gl W F rd fs) (hd : dat.length = 1 + n + nb) (h1 : 1 ≤ n) (h4 : n ≤ 400) (hnb : 1 ≤ nb) (hj : 2 ≤ j) (hm : (m : Int) < last)
  (h0 : dat.getD 0 [] = zero64) (hz : ∀ i,i < n → dat.getD (1 + i) [] = zero64) (hS : St W F [qlog lp p j m dat] W) :
  Calls Tryz.prog 25 #[.pointer (some ⟨lp,0,none⟩),.int .i64 (n : Nat)] W (Ret fun v w => ∃ tp,v = .tuple #[.pointer (some ⟨tp,0,none⟩),.int .i64 0] ∧ St W F [itab rd fs tp lp p j (m + 1) n nb (List.replicate n none)] w) := by
 have hqr : ∀ w rs,St W F (qlog lp p j m dat :: rs) w → Rd w (qlog lp p j m dat) := fun w rs h => h.rd (List.mem_cons_self ..)
 have hrd := fun w rs (h : St W F (qlog lp p j m dat :: rs) w) => Z5z lp p j m dat 0 w (hqr _ _ h) (by omega)
 rw [h0] at hrd;have heq := fun w a c p h1 h2 => Zsv a (some ⟨p,0,none⟩) 64 64 c 64 zero64 zero64 w h1 h2 Zg3 Zg3
 rw [decide_eq_true rfl] at heq;refine Zab Tryz.func25 rfl Tryz.ntmps25 rfl ?_
 repeat (first|refine Yeb ?_|refine Yfe ?_|refine Yey ?_|refine Yab ?_)
 refine Zac _ rfl rfl rfl rfl rfl hS (may_ lp p j m n dat _ (hqr _ _ hS) h1 h4 (by omega)) ?_
 rintro _ w rfl hS
 repeat (first|refine Yeb ?_|refine Yaf ?_|refine Yag ?_|refine Ybb ?_|refine Yen ?_|refine Yej ?_)
 refine Zaa _ rfl rfl rfl rfl rfl (hrd _ _ hS) ?_
 rintro _ w ⟨a,c,rfl,hc,hS'⟩
 replace hS := hS.plus hS';clear hS';repeat (first|refine Yeb ?_|refine Ye9 ?_|refine Yen ?_|refine Yab ?_)
 refine Zaa _ rfl rfl rfl rfl rfl (Znf none 0 [] _ (Zp1 _ _)) ?_
 rintro _ w ⟨q,rfl,hS'⟩
 replace hS := hS.plus hS';clear hS';rw [Zw4] at hS;repeat (first|refine Yeb ?_|(refine X_id ?_;first|(refine Zaa 63 rfl rfl rfl rfl rfl (heq _ a c q (hS.rd (by simp)) (hS.rd (by simp))) ?_;rintro _ _ ⟨rfl,rfl⟩)|refine Yaf ?_|refine Ybb ?_)|refine Yen ?_|refine Yab ?_)
 refine Zaa _ rfl rfl rfl rfl rfl (Z15 n rd fs _ (hG.mono fun r hr => (hr.rd hS).ro)) ?_
 rintro _ w ⟨q2,rfl,hS'⟩
 replace hS := hS.plus hS';clear hS';repeat (first|refine Yaa ?_|refine Ybm ?_|refine Ybe (fun _ _ hS _ => ?_))
 rename_i bw _ _;obtain ⟨_,hc4,hr4,hw4,hbk4⟩ := hS.call [false,false,false,false,true]
 have hck : Zca [((0 : Int),Zcf rd fs n)] = 0 := by
  have : (Zcf rd fs n).length = 64 := Zbs _
  simp [Zca,badW,Zbd,this]
 refine Zaa _ rfl rfl rfl rfl rfl (Zr5 lp p j m dat (some ⟨bw,0,none⟩) 1 [⟨0,⟨some ⟨q2,0,none⟩,64,Zcf rd fs n⟩⟩] rd fs _ _ (hG.mono hw4) ⟨?_,fun v hv => ?_⟩ (by simp) hm hck ?_ hc4) ?_
 ·have h := (hr4 (own 158 2 (some ⟨bw,0,none⟩) 1 [.int .i64 0,.slice (some ⟨q2,0,none⟩) 64 64]) (by simp)).own_row
  have e : (List.flatMap Wr.cells [⟨0,⟨some ⟨q2,0,none⟩,64,Zcf rd fs n⟩⟩]) = [.int .i64 0,.slice (some ⟨q2,0,none⟩) 64 64] := by
   have : (Zcf rd fs n).length = 64 := Zbs _
   simp [Wr.cells,this]
  rw [e]; exact h
 ·rw [List.mem_singleton] at hv
  rw [hv];exact hr4 (bytes (some ⟨q2,0,none⟩) (Zcf rd fs n)) (by simp)
 ·simp [hasM,Wr.data]; omega
 rintro _ w (⟨hfull,_,_⟩ | ⟨_,rfl,hS⟩)
 ·simp only [List.length_cons,List.length_nil] at hfull; omega
 replace hS := hbk4 hS
 clear hc4 hr4 hw4 hbk4;repeat (first|refine Yeb ?_|refine Yaf ?_|refine Yag ?_|refine Ybc ?_|refine Yen ?_|refine Yab ?_)
 refine Zew (Value.int .i64) rfl rfl rfl hS (fun r w hS => ?_)
 repeat (first|refine Yeb ?_|refine Yag ?_|refine Ybm ?_|refine Yba (fun _ _ hS _ => ?_)|refine Yah ?_|refine Ye0 ?_)
 rename_i tp _ _;refine ⟨tp,rfl,?_⟩
 have h := (hS.bagNil).took (out := [Zid tp lp n r,mapq (Value.int .i64) r [],bag [],qlog lp p j (m + 1) (Zb7 dat (List.map Wr.data [⟨0,⟨some ⟨q2,0,none⟩,64,Zcf rd fs n⟩⟩]))])
 exact St.shutItab (A := []) (dat := Zb7 dat [(0,Zcf rd fs n)]) ⟨Z18 n,Z3k rd fs hd hz,h1,h4,hnb⟩ h
theorem St.sorted {W : World} {F : Nat → Prop} {rs : List Res} {w : World} {T : TypeId} {b c : Nat} {P : List Int} (Q : List Int) (hQ : Q.length = P.length) (hpos : 0 < P.length) (n : Nat) (os : Array Obj) (hS : St W F (own T 1 (some ⟨b,0,none⟩) c (ints .i64 P) :: rs) w) :
  St W F (own T 1 (some ⟨b,0,none⟩) c (ints .i64 Q) :: rs) (Sort.grow (Sort.putRow (Value.int .i64) (Sort.ahead w n) b 0 Q.toArray) os) := by
 obtain ⟨g,⟨g1,g2,hown,hrest,hdj,hun⟩,s⟩ := hS
 obtain ⟨hle,hcm,⟨rfl,_⟩ | ⟨b',cells,hbe,rfl,hcz,ht⟩⟩ := hown
 ·rw [Nat.zero_mul,ints_length] at hle; omega
 ·obtain rfl : b = b' := by simpa using hbe
  have hb : w.heap[b]? = some (.cells cells T (0,0)) := s.agrees b _ (by rw [hun,Zan]; rfl)
  have hS2 : St W F (pts b (.cells cells T (0,0)) :: rs) w := ⟨g,⟨_,g2,rfl,hrest,hdj,hun⟩,s⟩
  have u : SetBlock w (Sort.putRow (Value.int .i64) (Sort.ahead w n) b 0 Q.toArray) b (.cells (Sort.putCells (Value.int .i64) 0 Q.toArray cells) T (0,0)) := by
   refine ⟨by simp,?_,fun k hk => ?_,rfl,rfl,rfl⟩
   ·simp only [Sort.putRow,Sort.mapBlock,Sort.heap_ahead]
    rw [Array.getElem?_modify,if_pos rfl,hb]; rfl
   ·simp only [Sort.putRow,Sort.mapBlock,Sort.heap_ahead]
    rw [Array.getElem?_modify,if_neg (Ne.symm hk)]
  have hS3 := hS2.set u
  have hbel : RowKit.Below (Sort.putRow (Value.int .i64) (Sort.ahead w n) b 0 Q.toArray).heap.size (Sort.putRow (Value.int .i64) (Sort.ahead w n) b 0 Q.toArray) (Sort.grow (Sort.putRow (Value.int .i64) (Sort.ahead w n) b 0 Q.toArray) os) :=
   ⟨rfl,rfl,rfl,by simp [Sort.grow],fun k hk => by
    simp only [Sort.grow]
    rw [Array.getElem?_append_left hk]⟩
  refine (hS3.below hbel).head fun h hh => ?_
  have hPl : P.length ≤ cells.size := by rw [ints_length] at hle; omega
  have key := Zbi (T := T) (e := 1) (c := c) (b := b) (l := (Sort.putCells (Value.int .i64) 0 Q.toArray cells).toList) (cs := ints .i64 Q) (by simp [Sort.putCells,hcz]) hcm (by
   apply List.ext_getElem?
   intro k
   rw [List.getElem?_take,ints_length];by_cases hk : k < Q.length
   ·rw [if_pos hk]
    simp only [Sort.putCells,Array.toList_mapIdx,List.getElem?_mapIdx]
    have hkc : k < cells.toList.length := by simp; omega
    rw [List.getElem?_eq_getElem hkc];simp [ints,hk]
   ·rw [if_neg hk,List.getElem?_eq_none (by rw [ints_length]; omega)])
  exact key h (by simpa using hh)
theorem St.ownHolds {W : World} {F : Nat → Prop} {rs : List Res} {w : World} {T b c : Nat} {P : List Int} (hS : St W F (own T 1 (some ⟨b,0,none⟩) c (ints .i64 P) :: rs) w) (hpos : 0 < P.length) : Sort.Holds (Value.int .i64) w b 0 P.toArray ∧ b < w.heap.size := by
 obtain ⟨g,⟨g1,g2,hown,hrest,hdj,hun⟩,s⟩ := hS
 obtain ⟨hle,hcm,⟨rfl,_⟩ | ⟨b',cells,hbe,rfl,hcz,ht⟩⟩ := hown
 ·rw [Nat.zero_mul,ints_length] at hle; omega
 ·obtain rfl : b = b' := by simpa using hbe
  have hb : w.heap[b]? = some (.cells cells T (0,0)) := s.agrees b _ (by rw [hun,Zan]; rfl)
  refine ⟨fun j hj => ?_,Zb6 hb⟩
  have hj : j < P.length := by simpa using hj
  rw [Nat.zero_add];refine ⟨?_,frozen_of_row w b j cells T hb⟩
  rw [cell_of_row w b j cells T (0,0) hb];have h1 := congrArg (fun l => l[j]?) ht
  simp only [List.getElem?_take,ints_length,hj,if_true] at h1
  rw [ints_get hj] at h1;have e : P.toArray[j]! = P.getD j 0 := by
   rw [getElem!_pos _ j (by simpa using hj)];simp [List.getD_eq_getElem?_getD,hj]
  rw [e]
  simpa using h1
theorem Z6l (l bx r : Nat) (A : AV) (T : TypeId) (w : World) (W : World) (F : Nat → Prop) (S : List Int → List Res) (hm : Ro W F (mapq (Value.int .i64) r A.vals)) (hbx : Ro W F (pts bx (.cells #[.map (some r)] T)))
  (hstep : ∀ (P : List Int) (k : Int) (it : Nat) (o : Obj) (w : World),P.length < A.length → St W F (pts it o :: S P) w → ∃ rc : Loop,rc.params.size = 1 ∧ w.heap[l]? = some (.loop rc) ∧
   RoundIn Fence.wide 0 Tryz.prog l rc.fn ((rc.params.zip #[.int .i64 k]).foldl (fun tmps (t,a) => tmps.setIfInBounds t a) rc.tmps) rc.assign rc.body w (Ret fun v w' => v = .bool true ∧ St W F (pts it o :: S (P ++ [k])) w'))
  (hS : St W F (S []) w) :
  CallsIn Fence.wide 0 Tryz.prog 207 #[.func (.yield l) #[] #[],.pointer (some ⟨bx,0,none⟩)] w (Ret fun _ w' => ∃ P it o,P.Perm (Zav A) ∧ St W F (pts it o :: S P) w') := by
 refine callsIn_wide.2 ?_
 obtain ⟨es,clock,hes,hst,hmp⟩ := hm.openMap
 refine Zab Tryz.func207 rfl Tryz.ntmps207 rfl ?_
 repeat (first|refine Yaa ?_|refine Yec ?_)
 refine X_yl (Zau rfl rfl ((cell_of_row _ bx 0 #[.map (some r)] T (0,0) (hbx.rd hS).pts).trans rfl)) rfl rfl ?_
 repeat (first|refine Yaa ?_)
 refine Zmf rfl rfl (hmp.rd hS) rfl rfl hS (fun it w hS _ => ?_)
 repeat (first|refine Yac ?_|refine Yak ?_|refine Yab ?_)
 refine Zaj (α := Array Nat × List Int) (fun _ => [(0,.func (.yield l) #[] #[]),(5,.pointer (some ⟨it,0,none⟩))])
  (fun z w => (z.2.map (Value.int .i64) ++ (Zc7 es z.1).map (·.key)).Perm (es.toList.map (·.key)) ∧ St W F (pts it (.mapIter (some r) clock z.1 clock) :: S z.2) w) (fun z => (Zc7 es z.1).length) (#[],[]) ⟨rfl,rfl,trivial⟩ ⟨by rw [Zkg]; exact List.Perm.refl _,hS⟩ ?_
 clear hS;rintro ⟨seen,P⟩ w ⟨hp,hS⟩
 simp only at hp hS ⊢
 have hek : es.toList.map (·.key) = (Zav A).map (Value.int .i64) := by
  have e1 : es.toList.map (·.key) = (kvs es).map (·.1) := by simp [kvs,Function.comp_def]
  rw [e1,hes];simp [AV.vals,Zav,Function.comp_def]
 repeat (first|refine Yaa ?_|refine Yec ?_)
 refine Zpy rfl rfl hst (hmp.rd hS) rfl rfl hS (fun h0 => ?_) (fun e he w hS => ?_)
 ·repeat (first|refine Yeb ?_|refine Ya0 ?_|refine Yae ?_|refine Ya3 ?_|refine Yai ?_|refine Yab ?_|refine Ya4 ?_|refine Ya5 ?_|refine Ybu ?_)
  rw [h0,List.map_nil,List.append_nil,hek] at hp;have hp2 := hp.map (fun v => match v with | Value.int _ i => i | _ => 0)
  simp only [List.map_map,Function.comp_def,List.map_id'] at hp2
  exact ⟨P,it,_,hp2,hS⟩
 ·have hel : e ∈ es.toList := (List.mem_filter.1 he).1
  have hstep2 := Zlx hst he
  obtain ⟨x,hxA,hk,hv⟩ := Zsw hes hel
  have hlt : (Zc7 es (seen.push e.born)).length < (Zc7 es seen).length := by rw [hstep2.length_eq]; simp
  have hp3 : ((P ++ [x.1]).map (Value.int .i64) ++ (Zc7 es (seen.push e.born)).map (·.key)).Perm (es.toList.map (·.key)) := by
   refine List.Perm.trans ?_ hp
   rw [List.map_append,List.append_assoc];refine List.Perm.append_left _ ?_
   have := (hstep2.map (·.key)).symm
   rw [List.map_cons,hk] at this;exact this
  repeat (first|refine Yeb ?_|refine Ya0 ?_|refine Yef ?_|refine Yab ?_)
  refine X_yl (Ztd rfl rfl hst hel hS.has (hmp.rd hS).pts) rfl rfl ?_
  rw [hk]
  iterate 12 (first | (refine G_id ?_; first | refine Zp2 ?_ | refine Ze9 rfl rfl ?_) | (refine X_id ?_; first | refine X_yl (Zcn rfl rfl) rfl rfl ?_ | refine X_yl (Zbu rfl rfl) rfl rfl ?_ | refine X_yl (Zdp rfl rfl) rfl rfl ?_) | (refine C_id ?_; first | refine Zc1 ?_ | refine Zax ?_) | (refine E_id ?_; first | refine Zcq ?_))
  have hPl : P.length < A.length := by
   have h1 := hp3.length_eq
   rw [hek] at h1;simp [Zav] at h1
   omega
  obtain ⟨rc,hps,hl,hr⟩ := hstep P x.1 it _ w hPl hS
  refine Zyk rfl rfl rfl rfl rfl rfl hl (by rw [hps]; rfl) hr ?_
  rintro v w' ⟨rfl,hS⟩
  repeat (first|refine Yeb ?_|refine Ybb ?_|refine Yal ?_|refine Yai ?_|refine Yej ?_)
  exact Zae (z := (seen,P)) (seen.push e.born,P ++ [x.1]) ⟨rfl,rfl,trivial⟩ ⟨hp3,hS⟩ hlt
theorem Fr.round1 {σ : Env} {N : Nat} {tm : Array Value} (hsz : tm.size = N) (h : ∀ n v,look σ n = some v → tm[n]? = some v) (l : Nat) {a : Nat} (x : Value) (ha : a < N) :
  Fr ((a,x) :: σ) N ⟨[],some l⟩ { tmps := (#[a].zip #[x]).foldl (fun tmps (t,v) => tmps.setIfInBounds t v) tm,defers := [] } := by
 have := (Fr.round (σ := σ) (N := N) hsz h l).put ha x
 simpa [Act.put] using this
def seqR (b : Nat) (P : List Int) : Res := fun h => ∃ a c,P.length ≤ c ∧ Sep [pts b (.cells #[.slice a P.length c] 94),own 3 1 a c (ints .i64 P)] h
theorem St.openSeq {W : World} {F : Nat → Prop} {b : Nat} {P : List Int} {rs : List Res} {w : World} (hS : St W F (seqR b P :: rs) w) : ∃ a c,P.length ≤ c ∧ St W F (pts b (.cells #[.slice a P.length c] 94) :: own 3 1 a c (ints .i64 P) :: rs) w := by
 obtain ⟨h,⟨h1,h2,⟨a,c,hc,hs⟩,hr,hd,hu⟩,s⟩ := hS
 exact ⟨a,c,hc,h,Sep.append_mk hs hr hd hu,s⟩
theorem St.shutSeq {W : World} {F : Nat → Prop} {b c : Nat} {a : Option Addr} {P : List Int} {rs : List Res} {w : World} (hc : P.length ≤ c) (hS : St W F (pts b (.cells #[.slice a P.length c] 94) :: own 3 1 a c (ints .i64 P) :: rs) w) : St W F (seqR b P :: rs) w :=
 St.shutR (rs' := [pts b (.cells #[.slice a P.length c] 94),own 3 1 a c (ints .i64 P)]) hS fun _ hh => ⟨a,c,hc,hh⟩
theorem Zux (bx r : Nat) (A : AV) (T : TypeId) (W : World) (hm : Rd W (mapq (Value.int .i64) r A.vals)) (hbx : Rd W (pts bx (.cells #[.map (some r)] T))) (hAl : A.length ≤ 1000) :
  Calls Tryz.prog 233 #[.slice none 0 0,.func (.func 207) #[] #[.pointer (some ⟨bx,0,none⟩)]] W (Ret fun v w => ∃ P a c,v = .slice a P.length c ∧ P.length ≤ c ∧ P.Perm (Zav A) ∧ St W noF [own 3 1 a c (ints .i64 P)] w) := by
 have hmo := hm.ro
 have hbo := hbx.ro
 have hS := St.start W
 refine Zab Tryz.func233 rfl Tryz.ntmps233 rfl ?_
 repeat (first|refine Yeb ?_|refine Yeq ?_|refine Yba (fun _ _ hS _ => ?_)|refine Yee ?_|refine Yab ?_)
 rename_i b2 _ _;have hS := hS.own_none 3 1 none
 have hS : St W noF [seqR b2 []] _ := (hS.pick [1,0]).shutSeq (Nat.le_refl _)
 refine Zlb (first := []) (captured := [.pointer (some ⟨bx,0,none⟩)])
  (fun l rr j w => j = none ∧ ∃ P it o lo,P.Perm (Zav A) ∧ St W noF [pts l lo,pts rr (.deferred (some [])),pts it o,seqR b2 P] w) rfl rfl hS ?_ ?_ ?_
 ·intro Aa B hA hB fn tm l rr w1 htm hlook hS
  refine Zi8 (Z6l l bx r A T w1 W noF (fun P => [pts l (.loop (recd fn tm #[7] Aa B rr .ready none)),pts rr (.deferred (some [])),seqR b2 P]) hmo hbo ?_ hS) ?_
  ·intro P k it o w hPl hS
   refine ⟨_,rfl,hS.has (b := l),?_⟩
   show RoundIn Fence.wide 0 Tryz.prog l fn ((#[7].zip _).foldl _ tm) Aa B w _
   refine Zvu (Fr.round1 (a := 7) htm hlook l (.int .i64 k) (by decide)) ?_
   refine C_eq hA ?_
   repeat (first|refine Yeb ?_|refine Yag ?_|refine Yad ?_)
   refine Zrm (hS.has (b := l)) (fun w hset => ?_)
   replace hS := hS.upd hset
   refine C_eq hB ?_
   obtain ⟨a,c,hc,hS⟩ := (hS.pick [3,0,0,0]).openSeq
   repeat (first|refine Yaa ?_|refine Yaf ?_|refine Yaq ?_|refine Ybe (fun _ _ hS _ => ?_)|refine Yad ?_|refine Yak ?_)
   refine Zas (m := 1) rfl rfl rfl rfl rfl hS (by rw [ints_length,Nat.mul_one]) hc ((hS.rd (List.mem_cons_self ..)).own_row) (by simp) (by simp [Value.oneCell']) (by omega) (by simp only [maxLen]; omega) (fun a' c' w hS hc' _ => ?_)
   repeat (first|refine Yeb ?_|refine Yao (fun _ hS _ => ?_)|refine Yas ?_)
   refine Zp4 (hS.has (b := l)) (fun w hset => ⟨_,rfl,rfl,?_⟩)
   replace hS := hS.upd hset
   have h := hS.took (out := [pts b2 (.cells #[.slice a' (P.length + 1) c'] 94),own 3 1 a' c' (ints .i64 P ++ [.int .i64 k]),pts it o,pts l (.loop (recd fn tm #[7] Aa B rr .ready none)),pts rr (.deferred (some []))])
   have h2 : St W noF [seqR b2 (P ++ [k]),pts it o,pts l (.loop (recd fn tm #[7] Aa B rr .ready none)),pts rr (.deferred (some []))] w := St.shutSeq (b := b2) (P := P ++ [k]) (a := a') (c := c') (by simpa using hc') (by rw [Zki,List.length_append]; exact h)
   exact h2.pick [1,1,1,0]
  ·rintro _ w3 ⟨P,it,o,hp,hS⟩
   exact ⟨_,_,by simp,hS.has (b := l),fun w4 hset => ⟨rfl,P,it,o,_,hp,(hS.upd hset).pick [1,1,0,0]⟩⟩
 ·rintro l rr w4 ⟨_,P,it,o,lo,hp,hS⟩
  obtain ⟨a,c,hc,hS⟩ := (hS.pick [3,0,0,0]).openSeq
  repeat (first|refine Yeb ?_|refine Yag ?_|refine Yaq ?_|refine Yep ?_|refine Yab ?_|refine Zn3 rfl ?_|refine Yas ?_)
  refine Zym (.inl rfl) hS.has (fun w hset => ?_)
  replace hS := hS.upd hset
  repeat (first|refine Yam ?_)
  exact ⟨P,a,c,rfl,hc,hp,hS.took⟩
 ·rintro l rr c w4 hJ
  cases hJ.1
theorem Z0p (bx r : Nat) (A : AV) (T : TypeId) (W : World) (hm : Rd W (mapq (Value.int .i64) r A.vals)) (hbx : Rd W (pts bx (.cells #[.map (some r)] T))) (hAl : A.length ≤ 1000) :
  Calls Tryz.prog 205 #[.func (.func 207) #[] #[.pointer (some ⟨bx,0,none⟩)]] W (Ret fun v w => ∃ P a c,v = .slice a P.length c ∧ P.length ≤ c ∧ P.Perm (Zav A) ∧ St W noF [own 3 1 a c (ints .i64 P)] w) := by
 have hmo := hm.ro
 have hbo := hbx.ro
 have hS := St.start W
 refine Zab Tryz.func205 rfl Tryz.ntmps205 rfl ?_
 repeat (first|refine Yeb ?_|refine Yeq ?_|refine Yec ?_|refine Yab ?_)
 refine Zaa _ rfl rfl rfl rfl rfl (Zux bx r A T _ (hmo.rd hS) (hbo.rd hS) hAl) ?_
 rintro _ w ⟨P,a,c,rfl,hc,hp,hS'⟩
 replace hS := hS.plus hS';clear hS';repeat (first|refine Yeb ?_|refine Yag ?_|refine Yah ?_|refine Yed ?_)
 exact ⟨P,a,c,rfl,hc,hp,hS.took⟩
theorem Z4l (a : Option Addr) (c : Nat) (w : World) : Calls Tryz.prog 206 #[.slice a 0 c] w (Ret fun _ w' => w' = w) :=
 (Tryz.slices_Sort_int_none a c w).mono fun _ _ h => ⟨_,h.1,h.2⟩
theorem Z4k (b c : Nat) (P : List Int) (w : World) (hH : Sort.Holds (Value.int .i64) w b 0 P.toArray) (hlt : b < w.heap.size) (hl : P.length < 4611686018427387904) :
  Calls Tryz.prog 206 #[.slice (some ⟨b,0,none⟩) P.length c] w (Ret fun _ w' => ∃ n os,w' = Sort.grow (Sort.putRow (Value.int .i64) (Sort.ahead w n) b 0 (P.mergeSort fun x y => decide (x ≤ y)).toArray) os) :=
 (Tryz.slices_Sort_int b 0 c P w hH hlt hl).mono fun _ _ h => ⟨_,h.1,h.2⟩
theorem Z2h (bx r : Nat) (A : AV) (T : TypeId) (W : World) (hm : Rd W (mapq (Value.int .i64) r A.vals)) (hbx : Rd W (pts bx (.cells #[.map (some r)] T))) (hAl : A.length ≤ 1000) :
    Calls Tryz.prog 175 #[.func (.func 207) #[] #[.pointer (some ⟨bx,0,none⟩)]] W (Ret fun v w => ∃ P a c,v = .slice a P.length c ∧ P.length ≤ c ∧ P.Perm (Zav A) ∧ P.Pairwise (· ≤ ·) ∧ St W noF [own 3 1 a c (ints .i64 P)] w) := by
  have hmo := hm.ro
  have hbo := hbx.ro
  have hS := St.start W
  refine Zab Tryz.func175 rfl Tryz.ntmps175 rfl ?_
  repeat (first|refine Yeb ?_|refine Yeq ?_|refine Yec ?_|refine Yab ?_)
  refine Zaa _ rfl rfl rfl rfl rfl (Z0p bx r A T _ (hmo.rd hS) (hbo.rd hS) hAl) ?_
  rintro _ w ⟨P,a,c,rfl,hc,hp,hS'⟩
  replace hS := hS.plus hS';clear hS';repeat (first|refine Yeb ?_|refine Yeq ?_|refine Yec ?_|refine Yab ?_)
  by_cases h0 : P.length = 0
  · obtain rfl : P = [] := List.length_eq_zero_iff.1 h0
    refine Zaa _ rfl rfl rfl rfl rfl (Z4l a c _) ?_
    rintro v w' rfl
    repeat (first|refine Yeb ?_|refine Yeq ?_|refine Yep ?_|refine Yed ?_)
    exact ⟨[],a,c,rfl,hc,hp,List.Pairwise.nil,hS.took⟩
  · obtain ⟨b,rfl⟩ := hS.ownBase (by intro e; exact h0 (by simpa [ints] using congrArg List.length e))
    obtain ⟨hH,hlt⟩ := hS.ownHolds (by omega)
    have hlen := hp.length_eq
    rw [show (Zav A).length = A.length by simp [Zav]] at hlen
    refine Zaa _ rfl rfl rfl rfl rfl (Z4k b c P _ hH hlt (by omega)) ?_
    rintro v w' ⟨n,os,rfl⟩
    have hPm : (P.mergeSort fun x y => decide (x ≤ y)).length = P.length := List.length_mergeSort _
    replace hS := hS.sorted (P.mergeSort fun x y => decide (x ≤ y)) hPm (by omega) n os
    repeat (first|refine Yeb ?_|refine Yeq ?_|refine Yep ?_|refine Yed ?_)
    refine ⟨P.mergeSort fun x y => decide (x ≤ y),_,c,by rw [hPm],by rw [hPm]; exact hc,(List.mergeSort_perm _ _).trans hp,?_,hS.took⟩
    have := List.pairwise_mergeSort (le := fun x y => decide (x ≤ y)) (fun a b c h1 h2 => by simp only [decide_eq_true_eq] at h1 h2 ⊢; omega) (fun a b => by simp only [Bool.or_eq_true,decide_eq_true_eq]; omega) P
    exact this.imp (fun h => by simpa using h)
theorem Z6h (r : Nat) (W : World) : Calls Tryz.prog 176 #[.map (some r)] W (Ret fun v w => ∃ bx,v = .func (.func 207) #[] #[.pointer (some ⟨bx,0,none⟩)] ∧ St W noF [pts bx (.cells #[.map (some r)] 159)] w) := by
 have hS := St.start W
 refine Zab Tryz.func176 rfl Tryz.ntmps176 rfl ?_
 repeat (first|refine Yeb ?_|refine Yag ?_|refine Yct ?_|refine Yba (fun _ _ hS _ => ?_)|refine Yep ?_|refine Yed ?_)
 exact ⟨_,rfl,hS.took⟩
def Zlc (T : Tb) : List Int := ((List.range T.length).filter fun i => (T.getD i none).isSome).map fun i => ((i : Nat) : Int)
theorem Zob (T : Tb) : (Zlc T).Pairwise (· < ·) := by
  unfold Zlc
  rw [List.pairwise_map];exact (List.pairwise_lt_range.sublist List.filter_sublist).imp (fun h => by omega)
theorem Zlp : ∀ {P Q : List Int},P.Pairwise (· < ·) → Q.Pairwise (· < ·) → (∀ x,x ∈ P ↔ x ∈ Q) → P = Q
  | [],[],_,_,_ => rfl
  | [],y :: Q,_,_,h => absurd ((h y).2 (List.mem_cons_self ..)) (List.not_mem_nil)
  | x :: P,[],_,_,h => absurd ((h x).1 (List.mem_cons_self ..)) (List.not_mem_nil)
  | x :: P,y :: Q,hP,hQ,h => by
    have hP' := List.pairwise_cons.1 hP
    have hQ' := List.pairwise_cons.1 hQ
    have e : x = y := by
      rcases List.mem_cons.1 ((h x).1 (List.mem_cons_self ..)) with e | hx
      · exact e
      · rcases List.mem_cons.1 ((h y).2 (List.mem_cons_self ..)) with e | hy
        · exact e.symm
        · have h1 := hQ'.1 x hx
          have h2 := hP'.1 y hy
          omega
    subst e
    congr 1
    refine Zlp hP'.2 hQ'.2 fun z => ⟨fun hz => ?_,fun hz => ?_⟩
    · rcases List.mem_cons.1 ((h z).1 (List.mem_cons_of_mem _ hz)) with e | hz'
      · subst e; exact absurd (hP'.1 z hz) (by omega)
      · exact hz'
    · rcases List.mem_cons.1 ((h z).2 (List.mem_cons_of_mem _ hz)) with e | hz'
      · subst e; exact absurd (hQ'.1 z hz) (by omega)
      · exact hz'
section
variable {rd fs : List Int} {tp lp p j m n nb : Nat} {T : Tb}
theorem Ztk {A : AV} {dat : List (List UInt8)} (h : TabOk rd fs n nb T A dat) {P : List Int} (hp : P.Perm (Zav A)) (hs : P.Pairwise (· ≤ ·)) : P = Zlc T := by
  have hn : P.Nodup := hp.nodup_iff.2 (by rw [← Zow]; exact h.enc.nodup)
  refine Zlp ?_ (Zob T) fun x => ?_
  · have := hs.and hn
    exact this.imp (fun h => by omega)
  · rw [hp.mem_iff]
    have hat := h.at_ x
    have hk : x ∈ Zav A ↔ (atT T x).isSome = true := by
      rw [← hat,Option.isSome_map];have := getA_none (k := x) (l := A)
      cases hg : getA x A with
      | none => simp [this.1 hg]
      | some v =>
        simp only [Option.isSome_some,iff_true]
        exact Decidable.byContradiction fun q => by rw [this.2 q] at hg; cases hg
    rw [hk];unfold Zlc atT
    constructor
    · intro hx
      split at hx
      · rename_i h0
        have hlt : x.toNat < T.length := by
          rcases Nat.lt_or_ge x.toNat T.length with h | h
          · exact h
          · rw [List.getD_eq_getElem?_getD,List.getElem?_eq_none h] at hx; cases hx
        exact List.mem_map.2 ⟨x.toNat,List.mem_filter.2 ⟨List.mem_range.2 hlt,hx⟩,by omega⟩
      · cases hx
    · intro hx
      obtain ⟨i,hi,rfl⟩ := List.mem_map.1 hx
      rw [if_pos (by omega),Int.toNat_natCast];exact (List.mem_filter.1 hi).2
theorem Z7v {r : Nat} {A : AV} {dat : List (List UInt8)} (W : World) (hI : ItabRd W rd fs tp lp p j m n nb T r A dat) : Calls Tryz.prog 133 #[.pointer (some ⟨tp,0,none⟩)] W (Ret fun v w => ∃ a c,v = .slice a (Zlc T).length c ∧ (Zlc T).length ≤ c ∧ St W noF [own 3 1 a c (ints .i64 (Zlc T))] w) := by
 have hc := hI.t.ro
 have hmo := hI.mp.ro
 have hAl : A.length ≤ 1000 := by
  have h1 := hI.ok.enc.nodup
  have h2 := hI.ok.enc.keys
  have h4 := hI.ok.n4
  have h3 : (Zav A.ents).length ≤ ((List.range n).map fun i => ((i : Nat) : Int)).length := h1.length_le_of_subset fun k hk => by
   have := h2 k hk
   exact List.mem_map.2 ⟨k.toNat,List.mem_range.2 (by omega),by omega⟩
  simp [Zav,AV.ents] at h3
  omega
 have hS := St.start W
 refine Zab Tryz.func133 rfl Tryz.ntmps133 rfl ?_
 repeat (first|refine Yeb ?_|(refine X_id ?_;first|refine Yaf ?_|refine Yag ?_|refine Yau ?_|refine Yan ?_|refine Ybt ?_|refine Ycv ?_)|refine Yen ?_|refine Yab ?_)
 refine Zaa _ rfl rfl rfl rfl rfl (Z6h r _) ?_
 rintro _ w ⟨bx,rfl,hS'⟩
 replace hS := hS.plus hS';clear hS';repeat (first|refine Yaa ?_)
 refine Zaa _ rfl rfl rfl rfl rfl (Z2h bx r A _ _ (hmo.rd hS) (hS.rd (List.mem_cons_self ..)) hAl) ?_
 rintro _ w ⟨P,a,c,rfl,hc2,hp,hs,hS'⟩
 replace hS := hS.plus hS';clear hS';obtain rfl := Ztk hI.ok hp hs
 repeat (first|refine Yeb ?_|refine Yag ?_|refine Yah ?_|refine Yed ?_)
 exact ⟨a,c,rfl,hc2,hS.took⟩
end
section
open Go.MapKept
variable {α : Type} [DecidableEq α]
variable {P : Program} {o : Oper} {σ : Env} {w : World} {x y : Operand} {t kt et : TypeId} {N : Nat} {ds : Md} {K : Env → World → Prop} {mk : α → Value} {dd : TypeDesc}
theorem Zyd {r : Nat} {L : List (α × Value)} {k : α} {v : Value} {W : World} {F : Nat → Prop} {rs : List Res} {z : Operand} (ho : o.op = .insert t x y z) (hx : ev σ x = some (.map (some r))) (hy : ev σ y = some (mk k)) (hz : ev σ z = some v) [hu : Und P t (.map kt et)] [hkt : Und P kt dd] [hK : Key dd mk]
  (hd : o.dst = none) (hS : St W F (mapq mk r L :: rs) w) (hk : ∀ w',St W F (mapq mk r (setM k v L) :: rs) w' → K σ w') : X P o N ds σ w K := ⟨fun f ha K' Q' hKK => by
 obtain ⟨es,clock,hes,hst,hS2⟩ := hS.openMap
 have hb : w.heap[r]? = some (.map es clock) := hS2.get
 obtain ⟨q,g1,g2,_⟩ := Zcu (hk := hK) k L es.toList 0 hes
 have hc := run_checkKey (P := P) (w := w) hkt.und (hK.isKey k) false 9999
 have hf := run_findKey (P := P) (w := w) hkt.und g1
 have hg : (getObj r).run P w = .ok (.map es clock) w := by simp [getObj,Sem.run,hb]
 have hset : ∀ o',(setObj r o').run P w = .ok () { w with heap := w.heap.setIfInBounds r o' } := fun o' => run_setObj_map o' hb
 unfold Oper.wp
 have key : ∃ es' clock',(execOp f.eval o).run P w = .ok .skip { w with heap := w.heap.setIfInBounds r (.map es' clock') } ∧ kvs es' = (setM k v L).map (fun x => (mk x.1,x.2)) ∧ StampOk es' clock' := by
  cases hq : q with
  | none =>
   subst hq
   refine ⟨es.push { key := mk k,val := v,born := clock },clock + 1,?_,?_,Zln hst _ _⟩
   ·simp only [execOp,ho,ha.eval hx,ha.eval hy,ha.eval hz,Instr.mapUpdate,Sem.run_bind,run_underlying hu.und,hg,hc,hf,hset,Result.andThen_ok,Sem.run_pure]
   ·rw [Zhb (by rw [← g2]; rfl)]
    have hes' : es.toList.map (fun e => (e.key,e.val)) = L.map (fun x => (mk x.1,x.2)) := hes
    simp [kvs,hes']
  | some p =>
   obtain ⟨j,u⟩ := p
   subst hq
   obtain ⟨g4,g5,g6⟩ := Zha (v := v) L es.toList 0 hes j u g1
   simp only [Nat.sub_zero] at g4 g6
   have hek : ((es[j]?).map (·.key)).getD (mk k) = mk k := by
    rw [← Array.getElem?_toList,g6]; rfl
   refine ⟨es.modify j fun e => { e with key := mk k,val := v },clock,?_,?_,Ziy hst _ _ (fun _ => rfl)⟩
   ·simp only [execOp,ho,ha.eval hx,ha.eval hy,ha.eval hz,Instr.mapUpdate,Sem.run_bind,run_underlying hu.und,hg,hc,hf,hset,Result.andThen_ok,Sem.run_pure,hek,Instr.keyThatStays,hK.bits,if_true]
   ·simpa [kvs,Array.toList_modify] using g4
 obtain ⟨es',clock',hexec,hes',hst'⟩ := key
 rw [hexec];have u := Za6 (o' := .map es' clock') hb
 refine hKK _ _ _ (?_ : Fr σ N ds _) (hk _ ((hS2.set u).head fun h hh => ⟨es',clock',hes',hst',hh⟩))
 rw [hd]; exact ha⟩
end
section
open Go.MapKept
variable {α : Type}
variable {P : Program} {o : Oper} {σ : Env} {w : World} {x : Operand} {t kt et : TypeId} {mk : α → Value}
theorem Zx2 {r : Nat} {L : List (α × Value)} (ho : o.op = .call { callee := .builtin .len,args := #[x],argTypes := #[t] }) (hx : ev σ x = some (.map (some r))) [h : Und P t (.map kt et)] (hr : Rd w (mapr mk r L)) : Yl P o σ w (.int .i64 L.length) := ⟨fun N ds f ha => by
 obtain ⟨g,⟨es,clock,hes,rfl⟩,hag⟩ := hr
 have hb : w.heap[r]? = some (.map es clock) := hag r _ (Zan _ _)
 have hg : (getObj r).run P w = .ok (.map es clock) w := by simp [getObj,Sem.run,hb]
 have hl : es.size = L.length := by
  have := congrArg List.length hes
  simpa using this
 simp [execOp,ho,resolve,invoke,builtin,Builtin.len_,ha.eval hx,run_underlying h.und,goInt,hg,hl]⟩
end
theorem Zic {rd fs : List Int} {tp lp p j m n nb : Nat} {T : Tb} {W : World} {F : Nat → Prop} (h : Ro W F (itab rd fs tp lp p j m n nb T)) : TabOf W F tp n (atT T) := by
 refine ⟨fun w hw => ?_,fun w no hw => ?_⟩
 ·obtain ⟨r,A,dat,hI⟩ := (hw _ h).itab
  exact Z6d w hI
 ·obtain ⟨r,A,dat,hI⟩ := (hw _ h).itab
  cases hT : atT T no with
  | none => exact Z0e no hT w hI
  | some x => exact Z0d no x hT w hI
def rootNd : Nd := ⟨⟨1,493,0,0⟩,wrD []⟩
theorem Ztw (W : World) (a : Option Addr) (c : Nat) : Calls Tryz.prog 132 #[.slice a 0 c] W (Ret fun v w => v = .bool true ∧ St W noF [] w) := by
 have hS := St.start W
 refine Zab Tryz.func132 rfl Tryz.ntmps132 rfl ?_
 repeat (first|refine Yeb ?_|refine Ye4 ?_|refine Yee ?_|refine Yab ?_)
 refine Zaj (α := Unit) (fun _ => [(6,.int .i64 0),(7,.int .i64 0)]) (fun _ w => St W noF [] w) (fun _ => 0) () ⟨rfl,rfl,trivial⟩ hS ?_
 clear hS;rintro _ w hS
 repeat (first|refine Yeb ?_|refine Yag ?_|refine Yaz ?_|refine Yek ?_|refine Yfd ?_)
 exact ⟨rfl,hS⟩
theorem Ztr {rd fs : List Int} {tp lp p j m n nb : Nat} {T : Tb} (W : World) (hIt : Ro W noF (itab rd fs tp lp p j m n nb T)) (hG : Lg W noF) (h0 : atT T 0 = some rootNd) (hu : (Zlc T).length = 1) :
  Calls Tryz.prog 69 #[.pointer (some ⟨tp,0,none⟩)] W (Ret fun v w => v = .bool true ∧ St W noF [] w) := by
 have hS := St.start W
 have htab := Zic hIt
 have hrl : rootNd.data.length = 2 := by show (wrD []).length = 2; rw [Zp6]; rfl
 have hrd : rdD rootNd.data = [] := Zv0 (l := []) fun x hx => by cases hx
 refine Zab Tryz.func69 rfl Tryz.ntmps69 rfl ?_
 repeat (first|refine Yeb ?_|refine Yag ?_|refine Yec ?_|refine Yab ?_)
 refine Zew (Value.int .i64) rfl rfl rfl hS (fun mr w hS => ?_)
 repeat (first|refine Yaa ?_)
 refine Zyd (mk := Value.int .i64) (k := 0) rfl rfl rfl rfl rfl hS (fun w hS => ?_)
 repeat (first|refine Yeb ?_|refine Yeq ?_|refine Ybe (fun _ _ hS _ => ?_)|refine Yee ?_|refine Yab ?_)
 have hS1 : St W noF [mapq (Value.int .i64) mr [((0 : Int),Value.bool true)]] _ := hS.drop
 rename_i lb _ _;have hS0 : St W noF [own 3 1 (some ⟨lb,0,none⟩) 1 [.int .i64 0],mapq (Value.int .i64) mr [((0 : Int),Value.bool true)]] _ := hS
 clear hS hS1;refine Zaj (α := Nat × Option Addr × Nat × Nat) (fun z => [(0,.pointer (some ⟨tp,0,none⟩)),(3,.map (some mr)),(4,.slice z.2.1 z.2.2.1 z.2.2.2),(5,.int .i64 (z.1 : Nat))])
  (fun z w => (z = (0,some ⟨lb,0,none⟩,1,1) ∧ St W noF [own 3 1 (some ⟨lb,0,none⟩) 1 [.int .i64 0],mapq (Value.int .i64) mr [((0 : Int),Value.bool true)]] w) ∨ (z = (1,none,0,0) ∧ St W noF [mapq (Value.int .i64) mr [((0 : Int),Value.bool true)]] w)) (fun z => z.2.2.1) (0,some ⟨lb,0,none⟩,1,1) ⟨rfl,rfl,rfl,rfl,trivial⟩ (.inl ⟨rfl,hS0⟩) ?_
 clear hS0;rintro z w (⟨rfl,hS⟩ | ⟨rfl,hS⟩)
 ·simp only
  repeat (first|refine Yeb ?_|refine Yaf ?_|refine Yag ?_|refine Yat ?_|refine Ybx ?_|refine Yef ?_|refine Yab ?_)
  refine Zaj (α := Nat) (fun i => [(0,.pointer (some ⟨tp,0,none⟩)),(3,.map (some mr)),(5,.int .i64 (0 : Nat)),(6,.slice none 0 0),(22,.slice (some ⟨lb,0,none⟩) 1 1),(23,.int .i64 (1 : Nat)),(24,.int .i64 (i : Nat))]) (fun i w => i ≤ 1 ∧ St W noF [own 3 1 (some ⟨lb,0,none⟩) 1 [.int .i64 0],mapq (Value.int .i64) mr [((0 : Int),Value.bool true)]] w) (fun i => 1 - i) 0 ⟨rfl,rfl,rfl,rfl,rfl,rfl,rfl,trivial⟩ ⟨Nat.zero_le _,hS⟩ ?_
  clear hS;rintro i w ⟨hi,hS⟩
  by_cases hi0 : i = 0
  ·subst hi0
   have hr := (hS.rd (List.mem_cons_self ..)).own_row
   have hx : ([Value.int .i64 0] : List Value)[0]? = some (.int .i64 0) := rfl
   repeat (first|refine Yeb ?_|(refine X_id ?_;first|refine Yaf ?_|refine Yag ?_|refine Ya1 ?_|refine Ybd ?_|refine Yb7 ?_)|refine Yef ?_|refine Yab ?_)
   clear hr;refine Zaa _ rfl rfl rfl rfl rfl (htab.get _ 0 fun r h => h.rd hS) ?_
   rintro v w hV
   rw [h0] at hV;obtain ⟨a,q,rfl,hq,hS'⟩ := hV
   replace hS := hS.plus hS';clear hS';repeat (first|refine Yes ?_|(refine X_id ?_;first|refine Yaf ?_|refine Yag ?_|refine Yan ?_|refine Ya0 ?_|refine Ya7 ?_|refine Ybc ?_|refine Yda ?_|refine X_yl (Zx3 rfl rfl rfl) rfl rfl ?_|refine Yaq ?_|refine Yao (fun _ hS _ => ?_)|refine Yar (fun _ _ hS _ => ?_))|refine Yen ?_|refine Yab ?_)
   refine Zaa _ rfl rfl rfl rfl rfl (Z02 a rootNd.data q _ ((hS.rd (r := own 5 1 a q (bv rootNd.data)) (by simp)).own_row.ro) hq (by rw [hrl]; decide) (hG.at_ hS)) ?_
   rintro _ w ⟨nb,nc,rfl,hS'⟩
   replace hS := hS.plus hS';clear hS';rw [hrd] at hS ⊢;simp only [List.length_nil]
   repeat (first|refine Yeb ?_|refine Yag ?_|refine Yae ?_|refine Yab ?_)
   refine Zao (.s 0 (.s 2 (.s 3 (.h 1 (.h 4 (.s 5 (.s 6 (.s 7 (.h 8 (.s 9 (.s 10 (.s 11 (.s 12 (.s 13 (.s 14 (.s 15 (.s 16 (.s 17 (.s 18 (.s 19 .nil))))))))))) .no)))) .no) .no)))) mixed (by kernel_rfl) rfl ?_
   have hS := hS.drew
   repeat (first|(refine Zaf ?_;first|refine Ya6 ?_|refine Ybk ?_|refine Ybn ?_|refine Yax ?_))
   refine Zaa _ rfl rfl rfl rfl rfl (Zmn nb [] nc _ (Zh5 _ _ _) ⟨by decide,fun _ h => (by cases h)⟩ (hG.at_ hS)) ?_
   rintro _ w ⟨b3,q3,rfl,hq3,hS'⟩
   replace hS := hS.plus hS';clear hS';repeat (first|(refine Zaf ?_;first|refine Yax ?_)|(refine Zad ?_;first|refine Yay ?_))
   refine Zaa _ rfl rfl rfl rfl rfl (Z3u b3 a (wrD []).length rootNd.data.length q3 q (wrD []) rootNd.data _ ((hS.rd (r := own 5 1 b3 q3 (bv (wrD []))) (by simp)).own_row) ((hS.rd (r := own 5 1 a q (bv rootNd.data)) (by simp)).own_row) rfl rfl) ?_
   rintro _ _ ⟨rfl,rfl⟩
   rw [decide_eq_true (show wrD [] = rootNd.data from rfl)]
   repeat (first|(refine Zaf ?_;first|refine Ya6 ?_|refine Zai rfl rfl (fun _ => Zjl rfl rfl) rfl rfl ?_|refine Yci ?_|refine Zfa rfl rfl rfl rfl ?_)|(refine Zad ?_;first|refine Yay ?_))
   refine Zaa _ rfl rfl rfl rfl rfl (Ztw _ nb nc) ?_
   rintro _ w ⟨rfl,hS'⟩
   replace hS := hS.plus hS';clear hS';repeat (first|refine Yeb ?_|refine Yaf ?_|refine Yat ?_|refine Yfa ?_|refine Yab ?_|(refine Zaf ?_;first|refine Ya2 ?_|refine Ya6 ?_|refine Ych ?_|refine Yci ?_|refine Zco rfl rfl rfl rfl (fun _ => Zh2 rfl rfl rfl) rfl rfl ?_|refine Zco rfl rfl rfl rfl (fun _ => Zjl rfl rfl) rfl rfl ?_|refine Ydz ?_|refine Zco rfl rfl rfl rfl (fun _ => Znv rfl rfl rfl (by omega)) rfl rfl ?_|refine Ycm ?_)|(refine Zad ?_;first|refine Yay ?_))
   have hS : St W noF [own 3 1 (some ⟨lb,0,none⟩) 1 [.int .i64 0],mapq (Value.int .i64) mr [((0 : Int),Value.bool true)]] _ := hS.took
   refine Zaj (α := Unit) (fun _ => [(0,.pointer (some ⟨tp,0,none⟩)),(3,.map (some mr)),(5,.int .i64 (0 : Nat)),(6,.slice none 0 0),(22,.slice (some ⟨lb,0,none⟩) 1 1),(23,.int .i64 (1 : Nat)),(24,.int .i64 (0 : Nat)),(70,.int .i64 0),(71,.int .i64 0)]) (fun _ w => St W noF [own 3 1 (some ⟨lb,0,none⟩) 1 [.int .i64 0],mapq (Value.int .i64) mr [((0 : Int),Value.bool true)]] w) (fun _ => 0) () ⟨rfl,rfl,rfl,rfl,rfl,rfl,rfl,rfl,rfl,trivial⟩ hS ?_
   clear hS;rintro _ w hS
   repeat (first|refine Yeb ?_|refine Yaf ?_|refine Yaz ?_|refine Yaw ?_|refine Yeo ?_|refine Yfk ?_)
   exact Zae (z := 0) 1 ⟨rfl,rfl,rfl,rfl,rfl,rfl,rfl,trivial⟩ ⟨Nat.le_refl _,hS⟩ (by omega)
  ·obtain rfl : i = 1 := by omega
   repeat (first|refine Yeb ?_|refine Yaf ?_|refine Yag ?_|refine Yaz ?_|refine Yaw ?_|refine Yeo ?_|refine Yfk ?_)
   exact Zae (z := (0,some ⟨lb,0,none⟩,1,1)) (1,none,0,0) ⟨rfl,rfl,rfl,rfl,trivial⟩ (.inr ⟨rfl,hS.drop⟩) (by simp)
 ·simp only
  repeat (first|refine Yeb ?_|refine Yaf ?_|refine Yat ?_|refine Ybr ?_|refine Yeo ?_|refine Yeh ?_)
  refine X_yl (Zx2 (mk := Value.int .i64) (L := [((0 : Int),Value.bool true)]) rfl rfl ((hS.rd (List.mem_cons_self ..)).mapq_r)) rfl rfl ?_
  repeat (first|refine Yaa ?_|refine Yaf ?_)
  obtain ⟨r,A,dat,hI⟩ := (hIt.rd hS).itab
  refine Zaa _ rfl rfl rfl rfl rfl (Z7v _ hI) ?_
  rintro _ w ⟨ua,uc,rfl,_,hS'⟩
  replace hS := hS.plus hS';clear hS';rw [hu];repeat (first|refine Yeb ?_|refine Yag ?_|refine Yat ?_|refine Ycx ?_|refine Yah ?_|refine Yed ?_)
  exact ⟨rfl,hS.drops⟩
def Zj9 : Chg := ⟨0,rootNd,false⟩
def Zby (n : Nat) : Tb := some rootNd :: List.replicate (n - 1) none
theorem St.newLog {W : World} {F : Nat → Prop} {rs : List Res} {w : World} {lp p j k : Nat} (hj : j ≤ 1024) (hS : St W F (Zcd lp p 1 0 0 j 0 false :: disk p (Zbb (1 + j + k)) :: rs) w) : St W F (qlog lp p j 0 (List.replicate k zero64) :: rs) w :=
 hS.shutQlog ⟨⟨rfl,rfl,by simp [Zbb]⟩,rfl,Int.le_refl _,Int.le_refl _,hj,fun i hi => by
  rw [List.length_replicate] at hi;simp only [Zbb,List.getD_eq_getElem?_getD,List.getElem?_replicate]
  rw [if_pos (by omega),if_pos hi]⟩
theorem Zn4 {k i : Nat} (h : i < k) : (List.replicate k zero64).getD i [] = zero64 := by
 rw [List.getD_eq_getElem?_getD,List.getElem?_replicate,if_pos h]; rfl
theorem Zy3 (b off : Nat) (x : Int) (l : List Value) (T : TypeId) (W : World) [hn : Nth l off (.int .i64 x)] (hc : W.heap[b]? = some (.cells l.toArray T)) :
  Calls Tryz.prog 70 #[.pointer (some ⟨b,off,none⟩)] W (Ret fun v w => v = .int .i64 x ∧ W = w) := by
 have hS := St.start W
 refine Zab Tryz.func70 rfl Tryz.ntmps70 rfl ?_
 repeat (first|refine Yeb ?_|(refine X_id ?_;first|refine Yaf ?_|refine Yag ?_|refine Yau ?_|refine Yby ?_|refine Zyf rfl rfl rfl (Zdf (by assumption)) rfl rfl ?_)|refine Yep ?_|refine Yed ?_)
 exact ⟨rfl,rfl⟩
def t0 : Tn := .mk [] 0 ⟨1,493,0,0⟩ [] []
theorem t0_ok : TreeOk 10 t0 := by
 have hs : subT t0 = [t0] := by kernel_rfl
 refine ⟨fun u hu => ?_,?_,⟨rfl,rfl⟩,of_decide_eq_true (by kernel_rfl),of_decide_eq_true (by kernel_rfl)⟩
 case refine_2 =>
  rw [show (Zda t0).map (·.1) = [0] by kernel_rfl]
  simp
 rw [hs] at hu;obtain rfl := List.mem_singleton.1 hu
 exact ⟨by kernel_rfl,by decide,fun _ => ⟨rfl,of_decide_eq_true (by kernel_rfl)⟩,List.Pairwise.nil,fun k hk => (by cases hk),fun h => absurd rfl h⟩
theorem Z17 {f tp : Nat} {b : Int} {T : Int → Option Nd} (W : World) (hb : Rd W (pts f (.cells (List.toArray [.pointer (some ⟨tp,0,none⟩),.int .i64 b]) 168 (0,0)))) :
  Calls Tryz.prog 27 #[.pointer (some ⟨f,0,none⟩)] W (Ret fun v w => ∃ c,v = .pointer (some ⟨c,0,none⟩) ∧ St W noF [chR c f b T T []] w) := by
 have hS := St.start W
 have hc := hb.ro
 refine Zab Tryz.func27 rfl Tryz.ntmps27 rfl ?_
 repeat (first|refine Yeb ?_|(refine X_id ?_;first|refine Yaf ?_|refine Yag ?_|refine Yau ?_|refine Yan ?_|refine Ybt ?_)|refine Yen ?_|refine Yab ?_)
 refine Zaa _ rfl rfl rfl rfl rfl (Zy3 f 1 b _ _ _ (Rd.pts hb)) ?_
 rintro _ _ ⟨rfl,rfl⟩
 repeat (first|refine Yaa ?_)
 refine Zew (Value.int .i64) rfl rfl rfl hS (fun pm w hS => ?_)
 repeat (first|refine Yaa ?_)
 refine Zew (Value.int .i64) rfl rfl rfl hS (fun dm w hS => ?_)
 repeat (first|refine Yeb ?_|refine Yag ?_|refine Ybm ?_|refine Yba (fun _ _ hS _ => ?_)|refine Yah ?_|refine Yed ?_)
 rename_i c _ _;have hS2 := hS.bagNil.pick [0,0,1,0]
 exact ⟨c,rfl,St.shutCh (P := []) (D := []) ⟨List.nodup_nil,List.nodup_nil,fun _ => rfl,fun x hx => (by cases hx)⟩ hS2⟩
end Cr
namespace Cr
open Go
set_option maxRecDepth 10000
set_option maxHeartbeats 64000000

theorem TreeOk.more {n k : Nat} {t : Tn} (h : TreeOk n t) (hk : n ≤ k) (h6 : k ≤ 1000000) : TreeOk k t :=
 ⟨fun u hu => let x := h.node u hu; ⟨x.chk,⟨x.low.1,by have := x.low.2; omega⟩,x.dir,x.rise,x.nmk,x.leaf⟩,h.nodup,h.root,h.high,h6⟩
theorem Zf4 : Zho dirA = 0 := by decide
theorem Zql {pack r : List UInt8} (h1 : nameOk pack) (h2 : nameOk r) : Za4 ([varN,pack] ++ [r]) := ⟨by simp,fun x hx => by
 simp only [List.mem_append,List.mem_cons,List.not_mem_nil,or_false] at hx
 rcases hx with (rfl | rfl) | rfl
 ·decide
 ·exact h1
 ·exact h2⟩
theorem Zvx {pack : List UInt8} (h1 : nameOk pack) : Za4 ([varN] ++ [pack]) := ⟨by simp,fun x hx => by
 simp only [List.mem_append,List.mem_cons,List.not_mem_nil,or_false] at hx
 rcases hx with rfl | rfl
 ·decide
 ·exact h1⟩
theorem Zmy : Za4 ([] ++ [varN]) := by decide
theorem Zq0 {t : Tn} {m : Nat} {pack r : List UInt8} {rs : List (List UInt8)} (hp : nameOk pack) (hr : nameOk r) (h : AppS t m pack rs) (hm : m < 80) (hl : rs.length < 10) (hn : r ∉ rs) :
  (Zbf 80 t dirA ([varN,pack] ++ [r])).1 = 0 ∧ AppS (Zbf 80 t dirA ([varN,pack] ++ [r])).2 (m + 1) pack (r :: rs) ∧ RevS (Zbf 80 t dirA ([varN,pack] ++ [r])).2 pack r [] ∧
   ∀ r' cs',r' ≠ r → RevS t pack r' cs' → RevS (Zbf 80 t dirA ([varN,pack] ++ [r])).2 pack r' cs' := by
 obtain ⟨u,hg,hu,hul,hun⟩ := h.pk
 have hno : kidT r u.kids = none := kidT_iff.2 fun hx => hn ((hun r).1 hx)
 obtain ⟨h1,h2,h3⟩ := Zos h.ok h.ct hm (Zql hp hr) hg hu hno Zf4 (by omega)
 have hmk := Zwj (n := 80) (t := t) (nd := dirA) (p := [varN,pack]) (s := r) (by rw [h1])
 obtain ⟨u',i',_,_,_,_,hnew,hold⟩ := hmk
 rw [h1] at hnew hold ⊢;simp only at hnew hold ⊢
 have hf := Znq (Tn.mk r (m : Int) dirA.st dirA.data [])
 have hf1 := fun u => (hf u).1
 refine ⟨trivial,⟨h3,h2,?_,?_⟩,⟨?_,fun i c hc => by cases hc⟩,?_⟩
 ·obtain ⟨uv,hgv,huv⟩ := h.var
  exact ⟨_,Zkl hf1 [pack] [varN] t uv hgv,by rw [(Zfx hf pack [] uv).2]; exact huv⟩
 ·refine ⟨_,Zkl hf1 [] [varN,pack] t u hg,hu,?_,fun s => ?_⟩
  ·show (insT _ u.kids).length = _
   rw [(Zem _ u.kids).length_eq,List.length_cons,hul,List.length_cons]
  ·show s ∈ (insT (Tn.mk r (m : Int) dirA.st dirA.data []) u.kids).map Tn.nm ↔ _
   rw [((Zem (Tn.mk r (m : Int) dirA.st dirA.data []) u.kids).map Tn.nm).mem_iff,List.map_cons,List.mem_cons,List.mem_cons,hun s]
   exact Iff.rfl
 ·exact ⟨_,(hnew []).trans rfl,rfl,rfl,fun x hx => by cases hx⟩
 ·intro r' cs' hne hv'
  refine ⟨?_,fun i d hd => ?_⟩
  ·obtain ⟨w,hw,hr⟩ := hv'.dir
   exact ⟨w,(hold r' [] hne).trans hw,hr⟩
  ·obtain ⟨num,hnum⟩ := hv'.part i d hd
   exact ⟨num,(hold r' [pN i] hne).trans hnum⟩
theorem Z52 (a b c : List UInt8) : Zb5 [a,b,c] = [[a],[a,b],[a,b,c]] := rfl
theorem Zq2 : Cont 1 t0 := fun j => by
 have he : Zda t0 = [(0,rootNd)] := by kernel_rfl
 unfold Nt
 rw [he,Zo4];by_cases h0 : j = 0
 ·subst h0; rfl
 ·rw [if_neg (show ¬ ((j : Nat) : Int) = 0 by omega),decide_eq_false (by omega)]; rfl
theorem Zu8 {pack r : List UInt8} (hp : nameOk pack) (hr : nameOk r) : ∃ t,AppS t 3 pack [] ∧ wayG 80 t0 (Zb5 [varN,pack,r]) = (0,(Zbf 80 t dirA ([varN,pack] ++ [r])).2) := by
 have k0 : TreeOk 80 t0 := t0_ok.more (by omega) (by omega)
 obtain ⟨a1,a2,a3⟩ := Zos (p := []) (s := varN) (nd := dirA) k0 Zq2 (by omega) Zmy (u := t0) rfl rfl rfl Zf4 (by decide)
 obtain ⟨t1,ht1⟩ : ∃ t1,t1 = updT [] (addF (.mk varN ((1 : Nat) : Int) dirA.st dirA.data [])) t0 := ⟨_,rfl⟩
 rw [← ht1] at a1 a2 a3;have g1 : goT t1 [varN] = .ok (.mk varN ((1 : Nat) : Int) dirA.st dirA.data []) := by rw [ht1]; rfl
 have n1 : getR t0 ([] ++ [varN]) = .error 7 := Zeo Zmy (u := t0) rfl rfl rfl
 have n2 : getR t1 ([varN] ++ [pack]) = .error 7 := Zeo (Zvx hp) g1 rfl rfl
 obtain ⟨b1,b2,b3⟩ := Zos (p := [varN]) (s := pack) (nd := dirA) a3 a2 (by omega) (Zvx hp) g1 rfl rfl Zf4 (by show 0 < 10; omega)
 obtain ⟨t2,ht2⟩ : ∃ t2,t2 = updT [varN] (addF (.mk pack ((1 + 1 : Nat) : Int) dirA.st dirA.data [])) t1 := ⟨_,rfl⟩
 rw [← ht2] at b1 b2 b3;have hf := Znq (Tn.mk pack ((1 + 1 : Nat) : Int) dirA.st dirA.data [])
 have hf1 := fun u => (hf u).1
 have g2 : goT t2 [varN] = .ok (addF (.mk pack ((1 + 1 : Nat) : Int) dirA.st dirA.data []) (.mk varN ((1 : Nat) : Int) dirA.st dirA.data [])) := by rw [ht2]; exact Zkl hf1 [] [varN] t1 _ g1
 have g3 : goT t2 ([varN] ++ [pack]) = .ok (.mk pack ((1 + 1 : Nat) : Int) dirA.st dirA.data []) := by
  rw [Zf6,g2];exact Zna rfl rfl
 have hA : AppS t2 3 pack [] := ⟨b3,b2,⟨_,g2,rfl⟩,⟨_,g3,rfl,rfl,fun s => Iff.rfl⟩⟩
 refine ⟨t2,hA,?_⟩
 have n3 := Zeo (Zql hp hr) (t := t2) (p := [varN,pack]) g3 rfl rfl
 have d1 := (Zq0 hp hr hA (by omega) (by decide) (fun h => by cases h)).1
 rw [show [] ++ [varN] = [varN] from rfl] at a1 n1
 rw [show [varN] ++ [pack] = [varN,pack] from rfl] at b1 n2
 rw [show [varN,pack] ++ [r] = [varN,pack,r] from rfl] at n3 d1 ⊢
 rw [Z52,wayG,n1];simp only
 rw [if_pos trivial,a1];simp only
 rw [if_pos trivial,wayG,n2];simp only
 rw [if_pos trivial,b1];simp only
 rw [if_pos trivial,wayG,n3];simp only
 rw [if_pos trivial,if_pos d1,wayG]
def Zff (n : Nat) (t : Tn) (pack : List UInt8) (no : Int) (b : List UInt8) : Int × Tn :=
 if ¬ nameOk pack then (10,t) else if no < 1 ∨ 999999 < no then (1,t) else if 16384 < b.length then (2,t) else
  match getR t [varN,pack,rN no] with
  | .ok _ => (8,t)
  | .error _ => if (wayG n t (Zb5 [varN,pack,rN no])).1 = 0 then Zdx n [varN,pack,rN no] 0 (wayG n t (Zb5 [varN,pack,rN no])).2 (Zat b) else wayG n t (Zb5 [varN,pack,rN no])
theorem Zpe (b : List UInt8) : ∀ c ∈ Zat b,c.length ≤ 512 := fun c hc => by
 obtain ⟨i,_,rfl⟩ := List.mem_map.1 hc
 rw [List.length_take]; omega
theorem Zcw (b : List UInt8) : (Zat b).length = max ((b.length + 511) / 512) 1 := by rw [Zat,List.length_map,List.length_range]
theorem Zzj {no : Int} (h1 : 1 ≤ no) (h2 : no ≤ 999999) : nameOk (rN no) := by
 obtain ⟨k,rfl⟩ : ∃ k : Nat,no = (k : Nat) := ⟨no.toNat,by omega⟩
 have hl := Zd0 (n := (k : Nat)) (by omega) (by omega)
 have hf := (Zcm k).1
 have e : rN (k : Nat) = 114 :: Lib.decDigits k := by rw [rN,Zbt]
 rw [Zbt] at hl;rw [e];refine ⟨by simp,by simp only [List.length_cons]; omega,fun h => by injection h with h _; exact absurd h (by decide),fun h => by injection h with h _; exact absurd h (by decide),fun c hc => ?_⟩
 rcases List.mem_cons.1 hc with rfl | hc
 ·exact .inl (by decide)
 ·exact Zxi (hf c hc)
def RightA (pack : List UInt8) (no : Int) : Prop := nameOk pack ∧ 1 ≤ no ∧ no ≤ 999999
theorem Zgs {n : Nat} {t : Tn} {pack : List UInt8} {no : Int} {b : List UInt8} (h : RightA pack no) (hb : b.length ≤ 16384) : Zff n t pack no b = match getR t [varN,pack,rN no] with
  | .ok _ => (8,t)
  | .error _ => if (wayG n t (Zb5 [varN,pack,rN no])).1 = 0 then Zdx n [varN,pack,rN no] 0 (wayG n t (Zb5 [varN,pack,rN no])).2 (Zat b) else wayG n t (Zb5 [varN,pack,rN no]) := by
 unfold Zff
 obtain ⟨h1,h2,h3⟩ := h
 rw [if_neg (fun e => e h1),if_neg (by omega),if_neg (by omega)] <;> cases getR t [varN,pack,rN no] <;> rfl
theorem RightA.three {pack : List UInt8} {no : Int} (h : RightA pack no) : Za4 [varN,pack,rN no] := Zql h.1 (Zzj h.2.1 h.2.2)
theorem RevS.get {t : Tn} {pack : List UInt8} {no : Int} {cs : List (List UInt8)} (h : RevS t pack (rN no) cs) (hr : RightA pack no) : ∃ nd,getR t [varN,pack,rN no] = .ok nd := by
 obtain ⟨u,hu,_⟩ := h.dir
 exact ⟨_,Zwz hr.three hu⟩
theorem Zmb {b : List UInt8} (h : b.length ≤ 2000) : (Zat b).length ≤ 4 ∧ 1 ≤ (Zat b).length := by
 rw [Zcw]; omega
theorem Zz5 {pack : List UInt8} {no : Int} {b : List UInt8} (hr : RightA pack no) (hb : b.length ≤ 2000) :
  (Zff 80 t0 pack no b).1 = 0 ∧ AppS (Zff 80 t0 pack no b).2 (4 + (Zat b).length) pack [rN no] ∧ RevS (Zff 80 t0 pack no b).2 pack (rN no) (Zat b) := by
 have hrn := Zzj hr.2.1 hr.2.2
 have hcf := Zmb hb
 have hg : getR t0 [varN,pack,rN no] = .error 7 := by
  unfold getR goR
  rw [if_pos hr.three]; rfl
 obtain ⟨t,hA,hw⟩ := Zu8 hr.1 hrn
 obtain ⟨h1,h2,h3,_⟩ := Zq0 hr.1 hrn hA (by omega) (by decide) (fun h => by cases h)
 obtain ⟨p1,p2,p3,_⟩ := Zka hr.1 hrn (Zat b) [] _ _ h2 h3 (by omega) (by simp only [List.length_nil]; omega) (Zpe b)
 rw [Zgs hr (by omega),hg];simp only
 rw [hw];simp only
 rw [if_pos trivial];rw [List.nil_append] at p3;exact ⟨p1,p2,p3⟩
end Cr
