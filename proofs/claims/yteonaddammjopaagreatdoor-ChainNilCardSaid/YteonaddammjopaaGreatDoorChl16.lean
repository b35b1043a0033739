/-
  Layer 7 (inode): Apply.
  The laws' helper Same: are bytes the same?
  Layer 7 (inode): Format; what nil tells; Same.
  The laws' helpers To of layers 6 and 7.
  The laws' helper known of layer 7: the chapter's examples.
  Layer 7 (inode): Open: a node of its sector's bytes; does a block stand in two places?
  Layer 7 (inode): does a block stand in two places? Open.
  Layer 7 (inode): Open of a log that holds a table.
  The base of a row of the run's own. Over any program.
  DERIVED: THE SHELF's CONTRACTS AT THIS DUMP,IN PLAIN WORDS (tools/lay-plain.mjs out of 'TryzShelf.lean',which tools/lay-shelf.mjs wrote): THE SAME DECLARATIONS UNDER THE SAME NAMES: 'import','namespace','open','def','theorem' AND NOTHING ELSE: no command of the shelf's: FOR A HAND-IN. Each laying: the table of numbers ('.._ren') and one theorem,a field a fact of the dump's own or the kernel's comparison; each contract: ONE APPLICATION.
-/
import Derived.Test.YteonaddammjopaaGreatDoorChl15
import Derived.Test.YteonaddammjopaaGreatDoorChl11
import Derived.Test.YteonaddammjopaaGreatDoorChl4
import Derived.Shelf.Strings.Builder1
import Derived.Shelf.Strings.Builder2
import Derived.Shelf.Small.Bits
import Derived.Shelf.Small.Strs
import Derived.Shelf.Strconv.Atoi
import Derived.Shelf.Strconv.Itoa0
import Derived.Shelf.Strconv.Itoa1
import Derived.Shelf.LaysM
import Derived.Shelf.Strconv.Itoa2
import Derived.Shelf.Strconv.Itoa3
import Derived.Shelf.Strconv.AtoiErrFast
import Derived.Shelf.Strconv.ParseIntEmpty
import Derived.Shelf.Strconv.AtoiFail
import Derived.Shelf.Strconv.Clone
import Derived.Shelf.Strconv.SyntaxError
import Derived.Shelf.LaysC
import Derived.Shelf.Strconv.ToError
import Derived.Shelf.Strconv.Lower
import Derived.Shelf.Strconv.ParseUint10
import Derived.Shelf.Strconv.ParseUint10Empty
import Derived.Shelf.Strconv.ParseUint10Any
import Derived.Shelf.Strconv.ParseInt10
import Derived.Shelf.Strconv.AtoiLong
import Derived.Shelf.Strconv.AtoiInnerAll
import Derived.Shelf.Strconv.RangeError
import Derived.Shelf.Strconv.ToErrorRange
import Derived.Shelf.Strconv.AtoiAll
import Derived.Shelf.Strconv.ErrVarAll
import Derived.Shelf.Sort.Plain
import Derived.Shelf.Bits.Mul64
import Derived.Ground.Names2Prog
import Derived.Shelf.Slices.Clone
import Derived.Shelf.Slices.SearchI
import Derived.Shelf.Slices.In.SortNone
import Derived.Ground.SlgnProg
import Derived.Shelf.SlicesE.Clone
import Derived.Shelf.Bytes.Small
import Derived.Test.YteonaddammjopaaGreatDoorProg
namespace Cr
open Go Go.Proofs
set_option maxRecDepth 100000
set_option maxHeartbeats 16000000
attribute [local irreducible] Calls

def delAV (A : AV) (l : List Chg) : AV := l.foldl (fun A c => delA c.no A) A
theorem delAV_snoc {A : AV} {l : List Chg} {i : Nat} {c : Chg} (h : l[i]? = some c) : delAV A (l.take (i + 1)) = delA c.no (delAV A (l.take i)) := by
 unfold delAV
 rw [List.take_add_one,h]
 simp
theorem delAV_ents : ∀ (l : List Chg) (A : AV),AV.ents (delAV A l) = Zfh A.ents l
 | [],_ => rfl
 | c :: l,A => by
  have ih := delAV_ents l (delA c.no A)
  have e : delAV A (c :: l) = delAV (delA c.no A) l := rfl
  have e2 : Zfh A.ents (c :: l) = Zfh (delA c.no A.ents) l := rfl
  rw [e,e2,ih]
  congr 1
  exact (delA_map SV.s).symm
theorem delAV_sub : ∀ (l : List Chg) (A : AV),(delAV A l).Sublist A
 | [],_ => List.Sublist.refl _
 | c :: l,A => (delAV_sub l (delA c.no A)).trans delA_sub
theorem run_snoc (n : Nat) : ∀ (l : List Chg) (z : ApS) (c : Chg),z.run n (l ++ [c]) = (z.run n l).bind fun z => z.step n c
 | [],z,c => by simp [ApS.run]
 | x :: l,z,c => by
  simp only [List.cons_append,ApS.run]
  cases z.step n x with
  | none => rfl
  | some z2 => exact run_snoc n l z2 c
theorem run_none (n : Nat) : ∀ (l m : List Chg) (z : ApS),z.run n l = none → z.run n (l ++ m) = none
 | [],_,_,h => by cases h
 | x :: l,m,z,h => by
  simp only [List.cons_append,ApS.run] at h ⊢
  cases hs : z.step n x with
  | none => rfl
  | some z2 =>
   rw [hs] at h
   exact run_none n l m z2 h
structure ApZ where
 i : Nat
 A : AV
 fa : Option Addr
 fc : Nat
 fl : List Int
 aw : Option Addr
 cw : Nat
 ws : List Wr
 X : List RowD
structure ApI (A0 : AV) (n nb : Nat) (cl : List Chg) (z : ApZ) : Prop where
 hi : z.i ≤ cl.length
 run : (ApS.start A0.ents nb cl).run n (cl.take z.i) = some ⟨z.A.ents,z.fl,z.ws.map Wr.data⟩
 fX : (z.fa,ints .i64 z.fl) ∈ z.X
 fcap : z.fl.length ≤ z.fc
 wcap : z.ws.length ≤ z.cw
 wX : ∀ v ∈ z.ws,(v.x.a,bv v.x.s) ∈ z.X
 aX : ∀ x ∈ z.A,x ∈ A0 ∨ ((x.2.da,bv x.2.s.nd.data) ∈ z.X ∧ (x.2.ba,ints .i64 x.2.s.blocks) ∈ z.X)
 wl : z.ws.length ≤ 9 * z.i
 flow : ∀ b ∈ z.fl,0 ≤ b ∧ b < nb
theorem Yl_minI {P : Program} {o : Oper} {σ : Env} {w : World} {x y : Operand} {ts : Array TypeId} {a b : Int} (ho : o.op = .call { callee := .builtin .min,args := #[x,y],argTypes := ts }) (hx : ev σ x = some (.int .i64 a)) (hy : ev σ y = some (.int .i64 b)) : Yl P o σ w (.int .i64 (min a b)) := ⟨fun N ds f ha => by
 simp [execOp,ho,resolve,invoke,builtin,ha.eval hx,ha.eval hy,Builtin.min_,Builtin.min2]
 split <;> omega⟩
theorem put_n (t10 : Nat) (aw : Option Addr) (cw : Nat) (ws : List Wr) (no : Int) (ba : Option Addr) (bn bc : Nat) (s : List UInt8) (W : World) (F : Nat → Prop) (hb : Ro W F (bytes ba s)) (hn : s.length = bn) (hcw : ws.length ≤ cw) (hl : ws.length ≤ 1048576)
  (hS : St W F [pts t10 (.cells #[.slice aw ws.length cw] 291),own 237 2 aw cw (ws.flatMap Wr.cells)] W) :
  Calls Tryz.prog 178 #[.int .i64 no,.slice ba bn bc,.pointer (some ⟨t10,0,none⟩)] W (Ret fun v w => v = .tuple #[] ∧ ∃ aw' cw' q,ws.length + 1 ≤ cw' ∧
   St W F [pts t10 (.cells #[.slice aw' (ws.length + 1) cw'] 291),own 237 2 aw' cw' ((ws ++ [putW no q s]).flatMap Wr.cells),bytes (some ⟨q,0,none⟩) (Zd7 s)] w) := by
 subst hn
 exact put_ t10 aw cw ws no ba bc s W F hb hcw hl hS
theorem chunk_of (d : List UInt8) (i h : Nat) (hh : h = min (64 * (i + 1)) d.length) : Zd7 ((d.drop (64 * i)).take (h - 64 * i)) = chunkB d i := by
 unfold chunkB
 congr 1
 subst hh
 by_cases h1 : 64 * (i + 1) ≤ d.length
 ·rw [Nat.min_eq_left h1,show 64 * (i + 1) - 64 * i = 64 by omega]
 ·rw [Nat.min_eq_right (by omega),List.take_of_length_le (by rw [List.length_drop]; exact Nat.le_refl _),List.take_of_length_le (by rw [List.length_drop]; omega)]
theorem blockW_take {n : Nat} {bs : List Int} {d : List UInt8} {i : Nat} {b : Int} (h : bs[i]? = some b) : (Zdm n bs d).take (i + 1) = (Zdm n bs d).take i ++ [(1 + (n : Int) + b,chunkB d i)] := by
 have hi := (List.getElem?_eq_some_iff.1 h).1
 rw [List.take_add_one]
 congr 1
 unfold Zdm
 rw [List.getElem?_map,List.getElem?_range hi]
 simp [List.getD_eq_getElem?_getD,h]
theorem row_take {a : Option Addr} {cs : List Value} (k : Nat) : ∀ h,row a cs h → ∃ h',row a (cs.take k) h' ∧ ∀ b o,h' b = some o → h b = some o := fun h hh => by
 have := row_sub (a := a) (cs := cs) (cs' := cs.take k) (l := 0) (e := 1) (c := 1) (fun j v hv => by
  rw [List.getElem?_take] at hv
  split at hv
  ·simpa using hv
  ·cases hv) (by omega) h hh
 rwa [sub_zero] at this
theorem row_drop {a : Option Addr} {cs : List Value} {k c : Nat} (hc : cs.length ≤ c) (hk : k ≤ cs.length) : ∀ h,row a cs h → ∃ h',row (sub a k 1 c) (cs.drop k) h' ∧ ∀ b o,h' b = some o → h b = some o :=
 row_sub (fun j v hv => by rw [List.getElem?_drop] at hv; rw [Nat.mul_one]; exact hv) (fun e => List.drop_eq_nil_of_le (by omega))
theorem mem_setA {β : Type} {k : Int} {v : β} {y : Int × β} : ∀ {A : List (Int × β)},y ∈ setA k v A → y = (k,v) ∨ y ∈ A
 | [],h => by simp [setA] at h; exact .inl h
 | x :: A,h => by
  unfold setA at h
  split at h
  ·rcases List.mem_cons.1 h with h | h
   ·exact .inl h
   ·exact .inr (List.mem_cons_of_mem _ h)
  ·rcases List.mem_cons.1 h with h | h
   ·exact .inr (h ▸ List.mem_cons_self ..)
   ·exact (mem_setA h).imp id (List.mem_cons_of_mem _)
theorem fullB_64 {s : List UInt8} (h : s.length = 64) : Zd7 s = s := by rw [fullB_eq (by omega),h]; simp
structure BlI (n : Nat) (bs : List Int) (d : List UInt8) (ws : List Wr) (X : List RowD) (i cw' : Nat) (ws' : List Wr) (X' : List RowD) : Prop where
 data : ws'.map Wr.data = ws.map Wr.data ++ (Zdm n bs d).take i
 cap : ws'.length ≤ cw'
 wX : ∀ v ∈ ws',(v.x.a,bv v.x.s) ∈ X'
 sub : ∀ r ∈ X,r ∈ X'
theorem BlI.len {n : Nat} {bs : List Int} {d : List UInt8} {ws : List Wr} {X : List RowD} {i cw' : Nat} {ws' : List Wr} {X' : List RowD} (h : BlI n bs d ws X i cw' ws' X') (hi : i ≤ bs.length) : ws'.length = ws.length + i := by
 have := congrArg List.length h.data
 simp only [List.length_map,List.length_append,List.length_take,Zdm,List.length_range] at this
 omega
section
variable {rd fs : List Int} {tp lp p j m n nb : Nat} {T : Tb}
theorem qlog_up {dat : List (List UInt8)} : ∀ h,qlog lp p j m dat h → qlog lp p j (m + 1) dat h := fun h ⟨D,done,hq,hs⟩ => ⟨D,done,⟨hq.q,hq.line,hq.d0,by have := hq.dm; omega,hq.jl,hq.at_⟩,hs⟩
theorem itab_up : ∀ h,itab rd fs tp lp p j m n nb T h → itab rd fs tp lp p j (m + 1) n nb T h := fun _ ⟨r,A,dat,hok,hs⟩ =>
 ⟨r,A,dat,hok,Sep.mono_tail (fun _ h => Sep.mono_tail (fun _ h => Sep.mono_tail (fun _ h => Sep.mono_head qlog_up h) h) h) hs⟩
theorem apply_ (a : Option Addr) (c : Nat) (l : List ChgA) (W : World) (F : Nat → Prop) (hG : Gl W F rd fs) (hC : Chgs W F a l) (hl : l.length ≤ 1000) (hlc : l.length ≤ c) (hm : (m : Int) < last) (hS : St W F [itab rd fs tp lp p j m n nb T] W) :
  Calls Tryz.prog 124 #[.pointer (some ⟨tp,0,none⟩),.slice a l.length c] W (Ret fun v w => v = .int .i64 (applyT T nb (j / 2) (l.map ChgA.c)).1 ∧ St W F [itab rd fs tp lp p j (m + 1) n nb (applyT T nb (j / 2) (l.map ChgA.c)).2] w) := by
 obtain ⟨r,A,dat,hok,hS⟩ := hS.openItab
 have hE := hok.enc
 have htl := hok.tlen
 have hn4 := hok.n4
 obtain ⟨cl,hcl⟩ : ∃ cl,cl = l.map ChgA.c := ⟨_,rfl⟩
 have hcll : cl.length = l.length := by rw [hcl]; simp
 have hget : ∀ {i : Nat} {x : ChgA},l[i]? = some x → cl[i]? = some x.c := fun {i x} h => by rw [hcl]; simp [h]
 rw [← hcl]
 obtain ⟨F2,hS2,hro,hw,hbk⟩ := hS.call []
 clear hS
 have hS := hS2
 clear hS2
 have hTo := hro (tabAt tp lp n r) (by simp)
 have hmo := hro (mapq (Value.int .i64) r A.vals) (by simp)
 have hbo := hro (bag A.rows) (by simp)
 have hqo := hro (qlog lp p j m dat) (by simp)
 have hC2 := hC.mono hw
 have hG2 := hG.mono hw
 have hql := (qlen (hqo.rd hS)).1
 have hdl := hE.len
 have hc := hTo
 have hC0 : ∀ w rs,St W F2 rs w → Chgs w noF a l := fun w rs h => ⟨(hC2.row.rd h).ro,fun x hx => ((hC2.all x hx).rd h).ro⟩
 have hck := fun w rs (h : St W F2 rs w) => check_c tp lp n r a c l w (hTo.rd h) (hC0 w rs h) (by omega) hlc (by omega)
 rw [← hcl] at hck
 by_cases h0 : checkC cl n = 0
 ·have hR := right_of h0
  have hap : applyT T nb (j / 2) cl = putT T nb (j / 2) cl := by unfold applyT; rw [htl,if_neg (by simp [h0])]
  rw [hap]
  rw [h0] at hck
  have hlaw := apply_law hE hR
  rw [hok.tab] at hlaw
  refine Zaq Tryz.func124 rfl Tryz.ntmps124 rfl ?_
  repeat (first|(refine G_id ?_;first|refine Zah ?_|refine Zac rfl rfl ?_)|(refine X_id ?_;first|refine X_yl (Zad rfl rfl) rfl rfl ?_|refine X_yl (Zab rfl rfl) rfl rfl ?_|refine X_yl (Zbd rfl rfl rfl) rfl rfl ?_)|(refine C_id ?_;first|refine Zaj ?_|refine Zaa ?_|refine Zav ?_|refine Zak rfl ?_)|(refine E_id ?_;first|refine Zae ?_))
  refine Zbn _ rfl rfl rfl rfl rfl hS (hck _ _ hS) ?_
  rintro _ w rfl hS
  repeat (first|(refine G_id ?_;first|refine Zah ?_|refine Zac rfl rfl ?_)|(refine X_id ?_;first|refine X_yl (Zad rfl rfl) rfl rfl ?_|refine X_yl (Zab rfl rfl) rfl rfl ?_|refine X_yl (Zag rfl rfl) rfl rfl ?_|refine X_yl (Zaf rfl rfl rfl) rfl rfl ?_|refine X_yl (Zbz rfl rfl rfl (by omega)) rfl rfl ?_|refine X_yl (Zap rfl rfl (Zan (hc.rd hS).pts)) rfl rfl ?_)|(refine C_id ?_;first|refine Zaj ?_|refine Zaa ?_|refine Zav ?_|refine Zak rfl ?_)|(refine E_id ?_;first|refine Zae ?_))
  refine Zal _ rfl rfl rfl rfl rfl (mclone_ r A.vals _ (hmo.rd hS)) ?_
  rintro _ w ⟨r2,rfl,hS'⟩
  replace hS := hS.plus hS'
  clear hS'
  repeat (first|(refine G_id ?_;first|refine Zah ?_|refine Zac rfl rfl ?_)|(refine X_id ?_;first|refine X_yl (Zad rfl rfl) rfl rfl ?_|refine X_yl (Zab rfl rfl) rfl rfl ?_|refine X_yl (Zby rfl rfl) rfl rfl ?_)|(refine C_id ?_;first|refine Zaj ?_|refine Zaa ?_|refine Zat ?_)|(refine E_id ?_;first|refine Zae ?_))
  refine C_joinB (α := Unit) (fun _ => [(0,.pointer (some ⟨tp,0,none⟩)),(1,.slice a l.length c),(6,.map (some r2))]) (fun _ w => St W F2 [mapq (Value.int .i64) r2 (AV.vals (delAV A cl))] w) ?_ ?_
  ·refine Zb8 (α := Nat) (fun i => [(0,.pointer (some ⟨tp,0,none⟩)),(1,.slice a l.length c),(6,.map (some r2)),(32,.slice a l.length c),(33,.int .i64 (l.length : Nat)),(34,.int .i64 (i : Nat))])
    (fun i w => i ≤ l.length ∧ St W F2 [mapq (Value.int .i64) r2 (AV.vals (delAV A (cl.take i)))] w) (fun i => l.length - i) 0 ⟨rfl,rfl,rfl,rfl,rfl,rfl,trivial⟩ ⟨Nat.zero_le _,hS⟩ ?_
   clear hS
   rintro i w ⟨hi,hS⟩
   by_cases hlt : i < l.length
   ·have hx0 : l[i]? = some l[i] := List.getElem?_eq_getElem (by omega)
    generalize l[i] = x at hx0
    have hr := hC2.row
    have hxs : ((l.flatMap ChgA.cells).drop (i * 7)).take 7 = [.int .i64 x.c.no,.int .i64 x.c.nd.st.kind,.int .i64 x.c.nd.st.mode,.int .i64 x.c.nd.st.owner,.int .i64 x.c.nd.st.group,.slice x.a x.c.nd.data.length x.k,.bool x.c.drop] := chg_seg hx0
    obtain ⟨xb,xo,hxa⟩ := (hr.rd hS).base (by intro e; rw [e] at hxs; simp at hxs)
    rw [hxa] at hr ⊢
    repeat (first|(refine G_id ?_;first|refine Zah ?_|refine Zac rfl rfl ?_)|(refine X_id ?_;first|refine X_yl (Zad rfl rfl) rfl rfl ?_|refine X_yl (Zaf rfl rfl rfl) rfl rfl ?_|refine X_yl (Za7 rfl rfl rfl (by omega)) rfl rfl ?_|refine X_yl (Zau rfl rfl rfl (by omega) (by omega) (by first|assumption|exact ⟨_,_,rfl⟩)) rfl rfl ?_|refine X_yl (Zap rfl rfl hS.cell) rfl rfl ?_|refine X_yl (Zbf rfl rfl ((hr.rd hS).cellsX (by omega) hxs rfl)) rfl rfl ?_|refine Za2 rfl rfl rfl rfl hS (fun _ hS _ => ?_)|refine Zbc rfl rfl rfl hS (fun _ _ hS _ => ?_))|(refine C_id ?_;first|refine Zaj ?_|refine Zaa ?_|refine Zat ?_|refine Zav ?_|refine Zam rfl ?_)|(refine E_id ?_;first|refine Zae ?_))
    have hS := hS.pick [1,0]
    refine X_mapDelete0 (mk := Value.int .i64) (k := x.c.no) rfl rfl rfl rfl hS (fun w hS => ?_)
    repeat (first|(refine G_id ?_;first|refine Zah ?_|refine Zac rfl rfl ?_)|(refine X_id ?_;first|refine X_yl (Zad rfl rfl) rfl rfl ?_|refine X_yl (Zbo rfl rfl rfl (w64 (by omega) (by omega))) rfl rfl ?_)|(refine C_id ?_;first|refine Zaa ?_)|(refine E_id ?_;first|refine Zae ?_|refine Zbh ?_))
    refine Zbu (i + 1) ⟨rfl,rfl,rfl,rfl,rfl,rfl,trivial⟩ ⟨by omega,?_⟩ (by omega)
    rw [delAV_snoc (hget hx0),← delM_A]
    exact hS.pick [0]
   ·obtain rfl : i = l.length := by omega
    rw [List.take_of_length_le (by omega)] at hS
    repeat (first|(refine G_id ?_;first|refine Zah ?_|refine Zac rfl rfl ?_)|(refine X_id ?_;first|refine X_yl (Za8 rfl rfl rfl (by omega)) rfl rfl ?_)|(refine C_id ?_;first|refine Zaj ?_|refine Zaa ?_|refine Zb2 ?_|refine Zak rfl ?_)|(refine E_id ?_;first|refine Zae ?_|refine Zaw ?_|refine Za1 ?_))
    exact E_mid () ⟨rfl,rfl,rfl,trivial⟩ hS
  clear hS
  rintro _ w hS
  have hsub := delAV_sub cl A
  have hents := delAV_ents cl A
  repeat (first|(refine G_id ?_;first|refine Zac rfl rfl ?_)|(refine X_id ?_;first|refine X_yl (Zad rfl rfl) rfl rfl ?_)|(refine C_id ?_;first|refine Zaj ?_|refine Zaa ?_))
  refine Zal _ rfl rfl rfl rfl rfl (free_ tp lp n r r2 p j m nb (delAV A cl) dat _ (hTo.rd hS) (hqo.rd hS) hE.len (hS.rd (List.mem_cons_self ..)) (fun x hx => (hbo.rd hS).bag (AV.row_b (hsub.mem hx))) (fun x hx => by
   have h1 := (hE.ok _ (AV.mem_ents (hsub.mem hx))).cnt
   have h2 := nblk_le (hE.ok _ (AV.mem_ents (hsub.mem hx))).len
   simp only at h1 h2
   omega) ((by rw [← keys_ents]; exact hE.nodup : (Zb6 A).Nodup).sublist (hsub.map _))) ?_
  rintro _ w ⟨fa,fc,rfl,hfc,hS'⟩
  replace hS := (hS.plus hS').toBag own_to_row
  clear hS'
  repeat (first|(refine G_id ?_;first|refine Zah ?_|refine Zac rfl rfl ?_)|(refine X_id ?_;first|refine X_yl (Zad rfl rfl) rfl rfl ?_|refine X_yl (Zab rfl rfl) rfl rfl ?_|refine X_yl (Zby rfl rfl) rfl rfl ?_|refine X_yl (Zdu rfl rfl rfl) rfl rfl ?_|refine Zbc rfl rfl rfl hS (fun _ _ hS _ => ?_))|(refine C_id ?_;first|refine Zaj ?_|refine Zaa ?_|refine Zat ?_)|(refine E_id ?_;first|refine Zae ?_))
  rename_i t10 _ _
  have hS := hS.own_none 237 2 none
  have hS := hS.pick [1,0,0,0]
  obtain ⟨z0,hz0⟩ : ∃ z0 : ApZ,z0 = ⟨0,delAV A cl,fa,fc,freeL (AV.ents (delAV A cl)) nb,none,0,[],[(fa,ints .i64 (freeL (AV.ents (delAV A cl)) nb))]⟩ := ⟨_,rfl⟩
  have hI0 : ApI A n nb cl z0 := by
   subst hz0
   refine ⟨Nat.zero_le _,?_,List.mem_singleton.2 rfl,hfc,Nat.le_refl _,fun v hv => (by cases hv),fun x hx => .inl (hsub.mem hx),Nat.le_refl _,fun b hb => (freeL_mem.1 hb).1⟩
   simp only [List.take_zero,ApS.run,ApS.start,hents]
   rfl
  have hbound : ∀ z,ApI A n nb cl z → z.ws.length ≤ 9000 := fun z hz => by have h1 := hz.wl; have h2 := hz.hi; omega
  refine C_joinB (α := ApZ) (fun z => [(0,.pointer (some ⟨tp,0,none⟩)),(6,.map (some r2)),(10,.pointer (some ⟨t10,0,none⟩))]) (fun z w => (z.i = cl.length ∧ ApI A n nb cl z) ∧ St W F2 [pts t10 (.cells #[.slice z.aw z.ws.length z.cw] 291),own 237 2 z.aw z.cw (z.ws.flatMap Wr.cells),bag z.X,mapq (Value.int .i64) r2 (AV.vals z.A)] w) ?_ ?_
  ·refine Zb8 (α := ApZ) (fun z => [(0,.pointer (some ⟨tp,0,none⟩)),(6,.map (some r2)),(9,.slice z.fa z.fl.length z.fc),(10,.pointer (some ⟨t10,0,none⟩)),(11,.func (.func 178) #[] #[.pointer (some ⟨t10,0,none⟩)]),(46,.slice a l.length c),(47,.int .i64 (l.length : Nat)),(48,.int .i64 (z.i : Nat))])
    (fun z w => ApI A n nb cl z ∧ St W F2 [pts t10 (.cells #[.slice z.aw z.ws.length z.cw] 291),own 237 2 z.aw z.cw (z.ws.flatMap Wr.cells),bag z.X,mapq (Value.int .i64) r2 (AV.vals z.A)] w) (fun z => l.length - z.i) z0 (by subst hz0; exact ⟨rfl,rfl,rfl,rfl,rfl,rfl,rfl,rfl,trivial⟩) (by subst hz0; exact ⟨hI0,hS⟩) ?_
   clear hS hI0 hz0
   rintro ⟨i,Az,fa,fc,fl,aw,cw,ws,X⟩ w ⟨hI,hS⟩
   have hwl := hbound _ hI
   have hii := hI.hi
   have hfcap := hI.fcap
   have hwcap := hI.wcap
   simp only at hS hwl hii hfcap hwcap ⊢
   by_cases hlt : i < l.length
   ·have hx0 : l[i]? = some l[i] := List.getElem?_eq_getElem (by omega)
    generalize l[i] = x at hx0
    have hgx := hget hx0
    have hr := hC2.row
    have hxs : ((l.flatMap ChgA.cells).drop (i * 7)).take 7 = [.int .i64 x.c.no,.int .i64 x.c.nd.st.kind,.int .i64 x.c.nd.st.mode,.int .i64 x.c.nd.st.owner,.int .i64 x.c.nd.st.group,.slice x.a x.c.nd.data.length x.k,.bool x.c.drop] := chg_seg hx0
    have hlow := hR.low _ (List.mem_of_getElem? hgx)
    have hrun : (ApS.start A.ents nb cl).run n (cl.take (i + 1)) = ApS.step n ⟨AV.ents Az,fl,ws.map Wr.data⟩ x.c := by
     rw [List.take_add_one,hgx]
     show (ApS.start A.ents nb cl).run n (cl.take i ++ [x.c]) = _
     rw [run_snoc,hI.run]
     rfl
    obtain ⟨xb,xo,hxa⟩ := (hr.rd hS).base (by intro e; rw [e] at hxs; simp at hxs)
    rw [hxa] at hr ⊢
    cases hdp : x.c.drop
    ·rw [hdp] at hxs
     have hokc := hR.ok _ (List.mem_of_getElem? hgx) hdp
     have hb8 := nblk_le hokc.2
     have hokl := hokc.2
     have hdata := hC2.all x (List.mem_of_getElem? hx0)
     by_cases hk : fl.length < nblk x.c.nd.data.length
     ·have hnone : ApS.step n ⟨AV.ents Az,fl,ws.map Wr.data⟩ x.c = none := by unfold ApS.step; rw [if_neg (by simp [hdp]),if_pos hk]
      have hall : (ApS.start A.ents nb cl).run n cl = none := by
       have := run_none n (cl.take (i + 1)) (cl.drop (i + 1)) _ (hrun.trans hnone)
       rwa [List.take_append_drop] at this
      have hbad : (runT T nb cl).2.2 = true := by
       rcases hlaw with ⟨_,h⟩ | ⟨z,h1,_⟩
       ·exact h
       ·rw [hall] at h1; cases h1
      have hp : putT T nb (j / 2) cl = (6,T) := by unfold putT; rw [if_pos hbad]
      rw [hp]
      repeat (first|(refine G_id ?_;first|refine Zah ?_|refine Zac rfl rfl ?_)|(refine X_id ?_;first|(refine Zal 179 rfl rfl rfl rfl rfl (iblocks_ _ _ (by omega)) ?_;rintro _ _ ⟨rfl,rfl⟩)|refine X_yl (Zad rfl rfl) rfl rfl ?_|refine X_yl (Zab rfl rfl) rfl rfl ?_|refine X_yl (Zaf rfl rfl rfl) rfl rfl ?_|refine X_yl (Zbr rfl rfl rfl) rfl rfl ?_|refine X_yl (Zby rfl rfl) rfl rfl ?_|refine X_yl (Za7 rfl rfl rfl (by omega)) rfl rfl ?_|refine X_yl (Yl_gtr_t rfl rfl rfl (by omega)) rfl rfl ?_|refine X_yl (Zau rfl rfl rfl (by omega) (by omega) (by first|assumption|exact ⟨_,_,rfl⟩)) rfl rfl ?_|refine X_yl (Zap rfl rfl hS.cell) rfl rfl ?_|refine X_yl (Zbf rfl rfl ((hr.rd hS).cellsX (by omega) hxs rfl)) rfl rfl ?_|refine Za2 rfl rfl rfl rfl hS (fun _ hS _ => ?_)|refine Zbc rfl rfl rfl hS (fun _ _ hS _ => ?_))|(refine C_id ?_;first|refine Zaj ?_|refine Zaa ?_|refine Zat ?_|refine Za0 ?_|refine Zav ?_|refine Zam rfl ?_|refine Zak rfl ?_)|(refine E_id ?_;first|refine Zae ?_|refine Zar ?_|refine Zbe ?_|refine Zax rfl (Zao rfl) (Ret.mk ?_)))
      exact ⟨rfl,((hbk hS.drops).shutItab hok).head itab_up⟩
     ·obtain ⟨bs,hbs⟩ : ∃ bs,bs = fl.take (nblk x.c.nd.data.length) := ⟨_,rfl⟩
      have hbsl : bs.length = nblk x.c.nd.data.length := by rw [hbs,List.length_take]; omega
      have hbfl : bs.length ≤ fl.length := by omega
      have hbst : bs = fl.take bs.length := by rw [hbsl]; exact hbs
      have hstep : ApS.step n ⟨AV.ents Az,fl,ws.map Wr.data⟩ x.c = some ⟨setA x.c.no ⟨x.c.nd,bs⟩ (AV.ents Az),fl.drop bs.length,ws.map Wr.data ++ (Zdm n bs x.c.nd.data ++ [(1 + x.c.no,stoB ⟨x.c.nd,bs⟩)])⟩ := by
       unfold ApS.step
       rw [if_neg (by simp [hdp]),if_neg hk,← hbs,← hbsl]
      have hib : ∀ w,Calls Tryz.prog 179 #[.int .i64 (x.c.nd.data.length : Nat)] w (Ret fun v w' => v = .int .i64 (bs.length : Nat) ∧ w = w') := fun w => by rw [hbsl]; exact iblocks_ _ _ (by omega)
      repeat (first|(refine G_id ?_;first|refine Zah ?_|refine Zac rfl rfl ?_)|(refine X_id ?_;first|(refine Zal 179 rfl rfl rfl rfl rfl (hib _) ?_;rintro _ _ ⟨rfl,rfl⟩)|refine X_yl (Zad rfl rfl) rfl rfl ?_|refine X_yl (Zab rfl rfl) rfl rfl ?_|refine X_yl (Zaf rfl rfl rfl) rfl rfl ?_|refine X_yl (Zbr rfl rfl rfl) rfl rfl ?_|refine X_yl (Zby rfl rfl) rfl rfl ?_|refine X_yl (Za7 rfl rfl rfl (by omega)) rfl rfl ?_|refine X_yl (Zdo rfl rfl rfl (by omega)) rfl rfl ?_|refine X_yl (Zau rfl rfl rfl (by omega) (by omega) (by first|assumption|exact ⟨_,_,rfl⟩)) rfl rfl ?_|refine X_yl (Zap rfl rfl hS.cell) rfl rfl ?_|refine X_yl (Zbf rfl rfl ((hr.rd hS).cellsX (by omega) hxs rfl)) rfl rfl ?_|refine Za2 rfl rfl rfl rfl hS (fun _ hS _ => ?_)|refine Zbc rfl rfl rfl hS (fun _ _ hS _ => ?_))|(refine C_id ?_;first|refine Zaj ?_|refine Zaa ?_|refine Zat ?_|refine Zav ?_|refine Zam rfl ?_|refine Zak rfl ?_)|(refine E_id ?_;first|refine Zae ?_))
      rename_i t13 _ _ _ _ _
      refine C_join (α := Nat × Option Addr × Nat) (fun y => [(0,.pointer (some ⟨tp,0,none⟩)),(6,.map (some r2)),(9,.slice fa fl.length fc),(10,.pointer (some ⟨t10,0,none⟩)),(11,.func (.func 178) #[] #[.pointer (some ⟨t10,0,none⟩)]),(13,.pointer (some ⟨t13,0,none⟩)),(14,.int .i64 (bs.length : Nat)),(15,.pointer (some ⟨y.1,0,none⟩)),(46,.slice (some ⟨xb,xo,none⟩) l.length c),(47,.int .i64 (l.length : Nat)),(48,.int .i64 (i : Nat))])
       (fun y w => x.c.nd.data.length ≤ y.2.2 ∧ St W F2 [pts y.1 (.cells (stoV ⟨x.c.nd,bs⟩ y.2.1 y.2.2 fa bs.length).toArray 305),own 5 1 y.2.1 y.2.2 (bv x.c.nd.data),pts t13 (.cells (List.toArray [.int .i64 x.c.no,.int .i64 x.c.nd.st.kind,.int .i64 x.c.nd.st.mode,.int .i64 x.c.nd.st.owner,.int .i64 x.c.nd.st.group,.slice x.a x.c.nd.data.length x.k,.bool false]) 244),
        pts t10 (.cells #[.slice aw ws.length cw] 291),own 237 2 aw cw (ws.flatMap Wr.cells),bag X,mapq (Value.int .i64) r2 (AV.vals Az)] w) ?_ ?_
      ·skip
       refine Zco (.s 0 (.s 1 (.s 2 (.s 3 (.s 4 (.s 5 (.s 8 (.s 9 (.s 10 (.s 11 (.h 6 (.s 7 (.s 12 (.h 13 (.h 14 .nil .no) .no))) (.h 13 (.h 6 (.s 7 (.s 12 (.h 14 .nil .no))) .no) .no)))))))))))) mixed (by kernel_rfl) rfl ?_
       have hS := hS.drew
       repeat (first|(refine Zbm ?_;first|refine Zai rfl rfl (fun _ => Zad rfl rfl) rfl rfl ?_|refine Zai rfl rfl (fun _ => Zaf rfl rfl rfl) rfl rfl ?_|refine Zai rfl rfl (fun _ => Zbr rfl rfl rfl) rfl rfl ?_|refine Zbq (fun w' => w'.cell? _ = some _) rfl rfl hS.cell (fun _ hc => Zap rfl rfl hc) rfl rfl ?_|refine Zbq (fun w' => Zfe w' _ _ _) rfl rfl hS.cellsN (fun _ hc => Zbf rfl rfl hc) rfl rfl ?_))
       refine Zai rfl rfl (fun _ => Yl_slice3 (l := 0) (h := bs.length) (k := bs.length) rfl rfl rfl rfl rfl ⟨_,_,rfl,by omega,by omega,by omega⟩ ⟨_,_,rfl,by omega,by omega,by omega⟩ (.inl ⟨rfl,rfl⟩)) rfl rfl ?_
       rw [sub_zero,Nat.sub_zero]
       refine GO_alt ?_ ?_
       ·repeat (first|(refine Zbm ?_;first|refine Za9 rfl rfl ?_))
        refine Zal _ rfl rfl rfl rfl rfl (bclone_ x.a x.c.nd.data.length x.k x.c.nd.data _ (hdata.rd hS) rfl (by omega)) ?_
        rintro _ w ⟨da,dc,rfl,_,hdc,hS'⟩
        replace hS := hS.plus hS'
        clear hS'
        repeat (first|(refine X_id ?_;first|refine Za2 rfl rfl rfl rfl hS (fun _ hS _ => ?_)|refine Zbc rfl rfl rfl hS (fun _ _ hS _ => ?_))|(refine Zbm ?_;first|refine Zbv ?_|refine Zai rfl rfl (fun _ => Zcq rfl rfl rfl) rfl rfl ?_|refine Za9 rfl rfl ?_)|(refine Za3 ?_;first|refine And.intro (by repeat (first|exact trivial|refine And.intro (.inl (by decide +kernel)) ?_|refine And.intro (.inr (by first|assumption|exact hS.cell|exact Zan (by assumption)|exact hS.cellI (by omega)|exact hS.cellIP (by omega)|exact hS.cellsN|exact ((hr.rd hS).cellX (by omega) hx)|exact ((hr2.rd hS).cellX (by omega) hx2)|exact hS.cellB (by omega)|exact hS.cellBA (by omega)|exact (hb.rd hS).cellB' (by omega)|exact (hb2.rd hS).cellB' (by omega)|exact (hg.rd hS).cellI (by omega)|exact (hg2.rd hS).cellI (by omega)|exact ((hr.rd hS).cellF (by first|omega|(dsimp only;omega)) hx)|exact ((hr2.rd hS).cellF (by first|omega|(dsimp only;omega)) hx2)|exact hS.cellO 0 (by omega)|exact hS.cellO 1 (by omega)|exact hS.cellIA (by omega)|exact (hg.rd hS).cellIA (by omega)|exact (hg2.rd hS).cellIA (by omega)|exact Zan (hc.rd hS).pts|exact hb.rd hS|exact (hr.rd hS).cellsF7 (by first|omega|(dsimp only;omega)) hst4 rfl|exact (hr2.rd hS).cellsF7 (by first|omega|(dsimp only;omega)) hst4 rfl|exact hS.cellO 4 (by omega)|exact hS.cellO 5 (by omega)|exact hS.cellO 6 (by omega)|exact hS.cellO 7 (by omega)|exact hS.cellO 8 (by omega)|exact hS.cellO 9 (by omega)|exact hS.cellO 10 (by omega)|exact hS.cellO 11 (by omega)|exact hS.cellO 12 (by omega)|exact hS.cellO 13 (by omega)|exact hS.cellO 2 (by omega)|exact hS.cellO 3 (by omega))) ?_)) ?_))
        rename_i t15 _ _ _ _ _
        exact E_mid (t15,da,dc) ⟨rfl,rfl,rfl,rfl,rfl,rfl,rfl,rfl,rfl,rfl,rfl,trivial⟩ ⟨hdc,hS.took⟩
       ·repeat (first|(refine X_id ?_;first|refine Zbc rfl rfl rfl hS (fun _ _ hS _ => ?_))|(refine Zbm ?_;first|refine Za9 rfl rfl ?_)|(refine Za3 ?_;first|refine And.intro (by repeat (first|exact trivial|refine And.intro (.inl (by decide +kernel)) ?_|refine And.intro (.inr (by first|assumption|exact hS.cell|exact Zan (by assumption)|exact hS.cellI (by omega)|exact hS.cellIP (by omega)|exact hS.cellsN|exact ((hr.rd hS).cellX (by omega) hx)|exact ((hr2.rd hS).cellX (by omega) hx2)|exact hS.cellB (by omega)|exact hS.cellBA (by omega)|exact (hb.rd hS).cellB' (by omega)|exact (hb2.rd hS).cellB' (by omega)|exact (hg.rd hS).cellI (by omega)|exact (hg2.rd hS).cellI (by omega)|exact ((hr.rd hS).cellF (by first|omega|(dsimp only;omega)) hx)|exact ((hr2.rd hS).cellF (by first|omega|(dsimp only;omega)) hx2)|exact hS.cellO 0 (by omega)|exact hS.cellO 1 (by omega)|exact hS.cellIA (by omega)|exact (hg.rd hS).cellIA (by omega)|exact (hg2.rd hS).cellIA (by omega)|exact Zan (hc.rd hS).pts|exact hb.rd hS|exact (hr.rd hS).cellsF7 (by first|omega|(dsimp only;omega)) hst4 rfl|exact (hr2.rd hS).cellsF7 (by first|omega|(dsimp only;omega)) hst4 rfl|exact hS.cellO 4 (by omega)|exact hS.cellO 5 (by omega)|exact hS.cellO 6 (by omega)|exact hS.cellO 7 (by omega)|exact hS.cellO 8 (by omega)|exact hS.cellO 9 (by omega)|exact hS.cellO 10 (by omega)|exact hS.cellO 11 (by omega)|exact hS.cellO 12 (by omega)|exact hS.cellO 13 (by omega)|exact hS.cellO 2 (by omega)|exact hS.cellO 3 (by omega))) ?_)) ?_))
        refine Zal _ rfl rfl rfl rfl rfl (bclone_ x.a x.c.nd.data.length x.k x.c.nd.data _ (hdata.rd hS) rfl (by omega)) ?_
        rintro _ w ⟨da,dc,rfl,_,hdc,hS'⟩
        replace hS := hS.plus hS'
        clear hS'
        repeat (first|(refine X_id ?_;first|refine Za2 rfl rfl rfl rfl hS (fun _ hS _ => ?_))|(refine Zbm ?_;first|refine Zbv ?_|refine Zai rfl rfl (fun _ => Zcq rfl rfl rfl) rfl rfl ?_|refine Za9 rfl rfl ?_)|(refine Za3 ?_;first|refine And.intro (by repeat (first|exact trivial|refine And.intro (.inl (by decide +kernel)) ?_|refine And.intro (.inr (by first|assumption|exact hS.cell|exact Zan (by assumption)|exact hS.cellI (by omega)|exact hS.cellIP (by omega)|exact hS.cellsN|exact ((hr.rd hS).cellX (by omega) hx)|exact ((hr2.rd hS).cellX (by omega) hx2)|exact hS.cellB (by omega)|exact hS.cellBA (by omega)|exact (hb.rd hS).cellB' (by omega)|exact (hb2.rd hS).cellB' (by omega)|exact (hg.rd hS).cellI (by omega)|exact (hg2.rd hS).cellI (by omega)|exact ((hr.rd hS).cellF (by first|omega|(dsimp only;omega)) hx)|exact ((hr2.rd hS).cellF (by first|omega|(dsimp only;omega)) hx2)|exact hS.cellO 0 (by omega)|exact hS.cellO 1 (by omega)|exact hS.cellIA (by omega)|exact (hg.rd hS).cellIA (by omega)|exact (hg2.rd hS).cellIA (by omega)|exact Zan (hc.rd hS).pts|exact hb.rd hS|exact (hr.rd hS).cellsF7 (by first|omega|(dsimp only;omega)) hst4 rfl|exact (hr2.rd hS).cellsF7 (by first|omega|(dsimp only;omega)) hst4 rfl|exact hS.cellO 4 (by omega)|exact hS.cellO 5 (by omega)|exact hS.cellO 6 (by omega)|exact hS.cellO 7 (by omega)|exact hS.cellO 8 (by omega)|exact hS.cellO 9 (by omega)|exact hS.cellO 10 (by omega)|exact hS.cellO 11 (by omega)|exact hS.cellO 12 (by omega)|exact hS.cellO 13 (by omega)|exact hS.cellO 2 (by omega)|exact hS.cellO 3 (by omega))) ?_)) ?_))
        rename_i t15 _ _ _ _ _ _
        exact E_mid (t15,da,dc) ⟨rfl,rfl,rfl,rfl,rfl,rfl,rfl,rfl,rfl,rfl,rfl,trivial⟩ ⟨hdc,hS.took⟩
      ·clear hS
       rintro ⟨t15,da,dc⟩ w ⟨hdc,hS⟩
       simp only at hdc hS ⊢
       have hS := (hS.pick [1,4,0,0,0,0,0]).bagAdd own_to_row
       have hS := hS.bagPart (List.mem_cons_of_mem _ hI.fX) (row_take bs.length)
       have hbi : (ints .i64 fl).take bs.length = ints .i64 bs := by rw [hbst]; simp [ints,List.map_take]
       simp only [hbi] at hS
       have hS := hS.bagPart (List.mem_cons_of_mem _ (List.mem_cons_of_mem _ hI.fX)) (row_drop (k := bs.length) (c := fc) (by simp only [ints_length]; exact hfcap) (by simp only [ints_length]; exact hbfl))
       have hfi : (ints .i64 fl).drop bs.length = ints .i64 (fl.drop bs.length) := by simp [ints,List.map_drop]
       simp only [hfi] at hS
       obtain ⟨X2,hX2⟩ : ∃ X2,X2 = (sub fa bs.length 1 fc,ints .i64 (fl.drop bs.length)) :: (fa,ints .i64 bs) :: (da,bv x.c.nd.data) :: X := ⟨_,rfl⟩
       rw [← hX2] at hS
       repeat (first|(refine G_id ?_;first|refine Zac rfl rfl ?_)|(refine X_id ?_;first|refine X_yl (Zad rfl rfl) rfl rfl ?_)|(refine C_id ?_;first|refine Zaj ?_|refine Zaa ?_))
       refine X_yl (Zcx (l := bs.length) (h := fl.length) rfl rfl rfl rfl (.inl ⟨rfl,rfl⟩) (.inr ⟨_,_,rfl,by omega,by omega,by omega⟩)) rfl rfl ?_
       repeat (first|(refine G_id ?_;first|refine Zah ?_|refine Zac rfl rfl ?_)|(refine X_id ?_;first|refine X_yl (Zad rfl rfl) rfl rfl ?_|refine X_yl (Zab rfl rfl) rfl rfl ?_|refine X_yl (Zaf rfl rfl rfl) rfl rfl ?_|refine X_yl (Zby rfl rfl) rfl rfl ?_|refine X_yl (Zap rfl rfl hS.cell) rfl rfl ?_)|(refine C_id ?_;first|refine Zaj ?_|refine Zaa ?_|refine Zat ?_)|(refine E_id ?_;first|refine Zae ?_))
       have hsubX : ∀ y ∈ X,y ∈ X2 := fun y hy => by rw [hX2]; exact List.mem_cons_of_mem _ (List.mem_cons_of_mem _ (List.mem_cons_of_mem _ hy))
       have hX2a : (sub fa bs.length 1 fc,ints .i64 (fl.drop bs.length)) ∈ X2 := by rw [hX2]; exact List.mem_cons_self ..
       have hX2b : (fa,ints .i64 bs) ∈ X2 := by rw [hX2]; exact List.mem_cons_of_mem _ (List.mem_cons_self ..)
       have hX2c : (da,bv x.c.nd.data) ∈ X2 := by rw [hX2]; exact List.mem_cons_of_mem _ (List.mem_cons_of_mem _ (List.mem_cons_self ..))
       refine C_joinB (α := Option Addr × Nat × List Wr × List RowD) (fun _ => [(0,.pointer (some ⟨tp,0,none⟩)),(6,.map (some r2)),(9,.slice (sub fa bs.length 1 fc) (fl.length - bs.length) (fc - bs.length)),(10,.pointer (some ⟨t10,0,none⟩)),(11,.func (.func 178) #[] #[.pointer (some ⟨t10,0,none⟩)]),(13,.pointer (some ⟨t13,0,none⟩)),(15,.pointer (some ⟨t15,0,none⟩)),(46,.slice (some ⟨xb,xo,none⟩) l.length c),(47,.int .i64 (l.length : Nat)),(48,.int .i64 (i : Nat))])
        (fun y w => BlI n bs x.c.nd.data ws X2 bs.length y.2.1 y.2.2.1 y.2.2.2 ∧ St W F2 [pts t10 (.cells #[.slice y.1 y.2.2.1.length y.2.1] 291),own 237 2 y.1 y.2.1 (y.2.2.1.flatMap Wr.cells),bag y.2.2.2,pts t15 (.cells (stoV ⟨x.c.nd,bs⟩ da dc fa bs.length).toArray 305),pts t13 (.cells (List.toArray [.int .i64 x.c.no,.int .i64 x.c.nd.st.kind,.int .i64 x.c.nd.st.mode,.int .i64 x.c.nd.st.owner,.int .i64 x.c.nd.st.group,.slice x.a x.c.nd.data.length x.k,.bool false]) 244),mapq (Value.int .i64) r2 (AV.vals Az)] w) ?_ ?_
       ·refine Zb8 (α := Nat × Option Addr × Nat × List Wr × List RowD) (fun y => [(0,.pointer (some ⟨tp,0,none⟩)),(6,.map (some r2)),(9,.slice (sub fa bs.length 1 fc) (fl.length - bs.length) (fc - bs.length)),(10,.pointer (some ⟨t10,0,none⟩)),(11,.func (.func 178) #[] #[.pointer (some ⟨t10,0,none⟩)]),(13,.pointer (some ⟨t13,0,none⟩)),(15,.pointer (some ⟨t15,0,none⟩)),(46,.slice (some ⟨xb,xo,none⟩) l.length c),(47,.int .i64 (l.length : Nat)),(48,.int .i64 (i : Nat)),(85,.slice fa bs.length bs.length),(86,.int .i64 (bs.length : Nat)),(87,.int .i64 (y.1 : Nat))])
         (fun y w => y.1 ≤ bs.length ∧ BlI n bs x.c.nd.data ws X2 y.1 y.2.2.1 y.2.2.2.1 y.2.2.2.2 ∧ St W F2 [pts t10 (.cells #[.slice y.2.1 y.2.2.2.1.length y.2.2.1] 291),own 237 2 y.2.1 y.2.2.1 (y.2.2.2.1.flatMap Wr.cells),bag y.2.2.2.2,pts t15 (.cells (stoV ⟨x.c.nd,bs⟩ da dc fa bs.length).toArray 305),pts t13 (.cells (List.toArray [.int .i64 x.c.no,.int .i64 x.c.nd.st.kind,.int .i64 x.c.nd.st.mode,.int .i64 x.c.nd.st.owner,.int .i64 x.c.nd.st.group,.slice x.a x.c.nd.data.length x.k,.bool false]) 244),mapq (Value.int .i64) r2 (AV.vals Az)] w)
         (fun y => bs.length - y.1) (0,aw,cw,ws,X2) ⟨rfl,rfl,rfl,rfl,rfl,rfl,rfl,rfl,rfl,rfl,rfl,rfl,rfl,trivial⟩ ⟨Nat.zero_le _,⟨by simp,hwcap,fun v hv => hsubX _ (hI.wX v hv),fun _ h => h⟩,hS.took⟩ ?_
        clear hS
        rintro ⟨i2,aw2,cw2,ws2,X3⟩ w ⟨hi2,hB,hS⟩
        simp only at hi2 hB hS ⊢
        have hwl2 := hB.len hi2
        have hcap2 := hB.cap
        by_cases hlt2 : i2 < bs.length
        ·have hb0 : bs[i2]? = some bs[i2] := List.getElem?_eq_getElem hlt2
         generalize bs[i2] = b at hb0
         have hblow := hI.flow b (by have := List.mem_of_getElem? hb0; rw [hbst] at this; exact List.mem_of_mem_take this)
         have hxI : (ints .i64 bs)[i2]? = some (.int .i64 b) := by simp [ints,hb0]
         have hbagR : ∀ w rs,St W F2 (pts t10 (.cells #[.slice aw2 ws2.length cw2] 291) :: own 237 2 aw2 cw2 (ws2.flatMap Wr.cells) :: bag X3 :: rs) w → Rd w (row fa (ints .i64 bs)) := fun w rs h => (h.rd (r := bag X3) (by simp)).bag (hB.sub _ hX2b)
         have hfaE : ∃ b off,fa = some ⟨b,off,none⟩ := (hbagR _ _ hS).base (by intro e; rw [e] at hxI; simp at hxI)
         repeat (first|(refine G_id ?_;first|refine Zah ?_|refine Zac rfl rfl ?_)|(refine X_id ?_;first|refine X_yl (Zad rfl rfl) rfl rfl ?_|refine X_yl (Za7 rfl rfl rfl (by omega)) rfl rfl ?_|refine X_yl (Zau rfl rfl rfl (by omega) (by omega) (by first|assumption|exact ⟨_,_,rfl⟩)) rfl rfl ?_)|(refine C_id ?_;first|refine Zaj ?_|refine Zaa ?_|refine Zat ?_|refine Zav ?_|refine Zam rfl ?_)|(refine E_id ?_;first|refine Zae ?_))
         refine X_yl (Zap rfl rfl ((hbagR _ _ hS).cellX (by omega) hxI)) rfl rfl ?_
         repeat (first|(refine G_id ?_;first|refine Zah ?_|refine Zac rfl rfl ?_)|(refine X_id ?_;first|refine X_yl (Zab rfl rfl) rfl rfl ?_)|(refine E_id ?_;first|refine Zae ?_))
         refine Zco (.s 0 (.s 1 (.s 2 (.s 4 (.s 5 (.s 6 (.s 7 (.s 8 (.s 9 (.s 10 (.s 11 (.s 12 (.s 13 (.s 14 (.s 15 (.s 16 (.s 17 (.h 3 (.h 18 .nil .no) .no)))))))))))))))))) mixed (by kernel_rfl) rfl ?_
         have hS := hS.drew
         repeat (first|(refine Zbm ?_;first|refine Zai rfl rfl (fun _ => Zad rfl rfl) rfl rfl ?_|refine Zai rfl rfl (fun _ => Zaf rfl rfl rfl) rfl rfl ?_|refine Zai rfl rfl (fun _ => Zby rfl rfl) rfl rfl ?_|refine Zai rfl rfl (fun _ => Zbo rfl rfl rfl (w64 (by omega) (by omega))) rfl rfl ?_|refine Zai rfl rfl (fun _ => Zfk rfl rfl rfl (w64 (by omega) (by omega))) rfl rfl ?_|refine Zbq (fun w' => w'.cell? _ = some _) rfl rfl hS.cell (fun _ hc => Zap rfl rfl hc) rfl rfl ?_))
         refine Zai rfl rfl (fun _ => Yl_minI rfl rfl rfl) rfl rfl ?_
         obtain ⟨hN,hhN⟩ : ∃ hN : Nat,hN = min (64 * (i2 + 1)) x.c.nd.data.length := ⟨_,rfl⟩
         have hmin : min (64 * ((i2 : Int) + 1)) (x.c.nd.data.length : Nat) = (hN : Nat) := by omega
         rw [hmin]
         have hnb : 64 * i2 ≤ hN := by
          have : 64 * i2 < x.c.nd.data.length := by rw [hbsl] at hlt2; unfold nblk at hlt2; omega
          omega
         refine Zai rfl rfl (fun _ => Zcx (l := 64 * i2) (h := hN) rfl rfl rfl rfl (.inr ⟨_,_,rfl,by omega,by omega,by omega⟩) (.inr ⟨_,_,rfl,by omega,by omega,by omega⟩)) rfl rfl ?_
         repeat (first|(refine X_id ?_;first|(refine Zal 180 rfl rfl rfl rfl rfl (tblock_ tp lp n r b _ (hTo.rd hS) (by omega) hblow.1 (by omega)) ?_;rintro _ _ ⟨rfl,rfl⟩))|(refine Zbm ?_;first|refine Za9 rfl rfl ?_)|(refine Za3 ?_;first|refine And.intro (by repeat (first|exact trivial|refine And.intro (.inl (by decide +kernel)) ?_|refine And.intro (.inr (by first|assumption|exact hS.cell|exact Zan (by assumption)|exact hS.cellI (by omega)|exact hS.cellIP (by omega)|exact hS.cellsN|exact ((hr.rd hS).cellX (by omega) hx)|exact ((hr2.rd hS).cellX (by omega) hx2)|exact hS.cellB (by omega)|exact hS.cellBA (by omega)|exact (hb.rd hS).cellB' (by omega)|exact (hb2.rd hS).cellB' (by omega)|exact (hg.rd hS).cellI (by omega)|exact (hg2.rd hS).cellI (by omega)|exact ((hr.rd hS).cellF (by first|omega|(dsimp only;omega)) hx)|exact ((hr2.rd hS).cellF (by first|omega|(dsimp only;omega)) hx2)|exact hS.cellO 0 (by omega)|exact hS.cellO 1 (by omega)|exact hS.cellIA (by omega)|exact (hg.rd hS).cellIA (by omega)|exact (hg2.rd hS).cellIA (by omega)|exact Zan (hc.rd hS).pts|exact hb.rd hS|exact (hr.rd hS).cellsF7 (by first|omega|(dsimp only;omega)) hst4 rfl|exact (hr2.rd hS).cellsF7 (by first|omega|(dsimp only;omega)) hst4 rfl|exact hS.cellO 4 (by omega)|exact hS.cellO 5 (by omega)|exact hS.cellO 6 (by omega)|exact hS.cellO 7 (by omega)|exact hS.cellO 8 (by omega)|exact hS.cellO 9 (by omega)|exact hS.cellO 10 (by omega)|exact hS.cellO 11 (by omega)|exact hS.cellO 12 (by omega)|exact hS.cellO 13 (by omega)|exact hS.cellO 2 (by omega)|exact hS.cellO 3 (by omega))) ?_)) ?_))
         obtain ⟨_,hc3,hr3,hw3,hbk3⟩ := hS.call [true,true,false,false,false,false]
         have hdb := ((hr3 (bag X3) (by simp)).bag (hB.sub _ hX2c)).subBytes (l := 64 * i2) (h := hN) (c := dc) (by omega) hnb
         refine X_call (first := []) (captured := [.pointer (some ⟨t10,0,none⟩)]) rfl rfl rfl rfl rfl (put_n t10 aw2 cw2 ws2 (1 + (n : Int) + b) (sub da (64 * i2) 1 dc) (hN - 64 * i2) (dc - 64 * i2) ((x.c.nd.data.drop (64 * i2)).take (hN - 64 * i2)) _ _ hdb (by rw [List.length_take,List.length_drop]; omega) hcap2 (by omega) hc3) ?_
         rintro _ w ⟨rfl,aw3,cw3,q,hcw3,hS⟩
         replace hS := hbk3 hS
         clear hc3 hr3 hw3 hbk3
         rw [chunk_of _ _ _ hhN] at hS
         repeat (first|(refine G_id ?_;first|refine Zah ?_|refine Zac rfl rfl ?_)|(refine X_id ?_;first|refine X_yl (Zad rfl rfl) rfl rfl ?_|refine X_yl (Zbo rfl rfl rfl (w64 (by omega) (by omega))) rfl rfl ?_)|(refine C_id ?_;first|refine Zaa ?_)|(refine E_id ?_;first|refine Zae ?_|refine Zbh ?_)|(refine Zbm ?_;first|refine Zbv ?_)|(refine Za3 ?_;first|refine And.intro (by repeat (first|exact trivial|refine And.intro (.inl (by decide +kernel)) ?_|refine And.intro (.inr (by first|assumption|exact hS.cell|exact Zan (by assumption)|exact hS.cellI (by omega)|exact hS.cellIP (by omega)|exact hS.cellsN|exact ((hr.rd hS).cellX (by omega) hx)|exact ((hr2.rd hS).cellX (by omega) hx2)|exact hS.cellB (by omega)|exact hS.cellBA (by omega)|exact (hb.rd hS).cellB' (by omega)|exact (hb2.rd hS).cellB' (by omega)|exact (hg.rd hS).cellI (by omega)|exact (hg2.rd hS).cellI (by omega)|exact ((hr.rd hS).cellF (by first|omega|(dsimp only;omega)) hx)|exact ((hr2.rd hS).cellF (by first|omega|(dsimp only;omega)) hx2)|exact hS.cellO 0 (by omega)|exact hS.cellO 1 (by omega)|exact hS.cellIA (by omega)|exact (hg.rd hS).cellIA (by omega)|exact (hg2.rd hS).cellIA (by omega)|exact Zan (hc.rd hS).pts|exact hb.rd hS|exact (hr.rd hS).cellsF7 (by first|omega|(dsimp only;omega)) hst4 rfl|exact (hr2.rd hS).cellsF7 (by first|omega|(dsimp only;omega)) hst4 rfl|exact hS.cellO 4 (by omega)|exact hS.cellO 5 (by omega)|exact hS.cellO 6 (by omega)|exact hS.cellO 7 (by omega)|exact hS.cellO 8 (by omega)|exact hS.cellO 9 (by omega)|exact hS.cellO 10 (by omega)|exact hS.cellO 11 (by omega)|exact hS.cellO 12 (by omega)|exact hS.cellO 13 (by omega)|exact hS.cellO 2 (by omega)|exact hS.cellO 3 (by omega))) ?_)) ?_))
         have hS := (hS.pick [2,2,0,0,0,0,0]).bagAdd (fun _ h => h)
         have hS := hS.pick [1,1,0,0,0,0]
         refine Zbu (α := Nat × Option Addr × Nat × List Wr × List RowD) (z := (i2,aw2,cw2,ws2,X3)) (i2 + 1,aw3,cw3,ws2 ++ [putW (1 + (n : Int) + b) q ((x.c.nd.data.drop (64 * i2)).take (hN - 64 * i2))],(some ⟨q,0,none⟩,bv (chunkB x.c.nd.data i2)) :: X3) ⟨rfl,rfl,rfl,rfl,rfl,rfl,rfl,rfl,rfl,rfl,rfl,rfl,rfl,trivial⟩ ⟨by simp only; omega,⟨?_,by simp only [List.length_append,List.length_cons,List.length_nil]; exact hcw3,fun v hv => ?_,fun y hy => List.mem_cons_of_mem _ (hB.sub y hy)⟩,?_⟩ (by simp only; omega)
         ·simp only
          rw [List.map_append,hB.data,blockW_take hb0,List.append_assoc]
          congr 2
          simp [Wr.data,chunk_of _ _ _ hhN]
         ·rcases List.mem_append.1 hv with hv | hv
          ·exact List.mem_cons_of_mem _ (hB.wX v hv)
          ·rw [List.mem_singleton] at hv
           rw [hv]
           simp only [chunk_of _ _ _ hhN]
           exact List.mem_cons_self ..
         ·simp only [List.length_append,List.length_cons,List.length_nil]
          exact hS
        ·obtain rfl : i2 = bs.length := by omega
         repeat (first|(refine G_id ?_;first|refine Zah ?_|refine Zac rfl rfl ?_)|(refine X_id ?_;first|refine X_yl (Za8 rfl rfl rfl (by omega)) rfl rfl ?_)|(refine C_id ?_;first|refine Zaj ?_|refine Zaa ?_|refine Zb2 ?_|refine Zak rfl ?_)|(refine E_id ?_;first|refine Zae ?_|refine Zaw ?_|refine Za1 ?_))
         exact E_mid (aw2,cw2,ws2,X3) ⟨rfl,rfl,rfl,rfl,rfl,rfl,rfl,rfl,rfl,rfl,trivial⟩ ⟨hB,hS⟩
       ·clear hS
        rintro ⟨aw2,cw2,ws2,X3⟩ w ⟨hB,hS⟩
        simp only at hB hS ⊢
        have hwl2 := hB.len (Nat.le_refl _)
        have hcap2 := hB.cap
        repeat (first|(refine C_id ?_;first|refine Zaj ?_))
        refine Zco (.s 0 (.s 1 (.s 2 (.s 3 (.s 4 (.h 5 (.h 6 .nil .no) .no)))))) mixed (by kernel_rfl) rfl ?_
        have hS := hS.drew
        repeat (first|(refine Zbm ?_;first|refine Zai rfl rfl (fun _ => Zad rfl rfl) rfl rfl ?_|refine Zai rfl rfl (fun _ => Zaf rfl rfl rfl) rfl rfl ?_|refine Zai rfl rfl (fun _ => Zbo rfl rfl rfl (w64 (by omega) (by omega))) rfl rfl ?_|refine Zbq (fun w' => w'.cell? _ = some _) rfl rfl hS.cell (fun _ hc => Zap rfl rfl hc) rfl rfl ?_|refine Zbq (fun w' => Zfe w' _ _ _) rfl rfl hS.cellsN (fun _ hc => Zbf rfl rfl hc) rfl rfl ?_|refine Za9 rfl rfl ?_))
        refine Zal _ rfl rfl rfl rfl rfl (sector_ ⟨x.c.nd,bs⟩ da dc fa bs.length _ ((hS.rd (r := bag X3) (by simp)).bag (hB.sub _ hX2b)) (by simp only; omega) (by simp only; omega)) ?_
        rintro _ w ⟨q1,rfl,hS'⟩
        replace hS := hS.plus hS'
        clear hS'
        repeat (first|(refine Zbm ?_;first|refine Za9 rfl rfl ?_)|(refine Za3 ?_;first|refine And.intro (by repeat (first|exact trivial|refine And.intro (.inl (by decide +kernel)) ?_|refine And.intro (.inr (by first|assumption|exact hS.cell|exact Zan (by assumption)|exact hS.cellI (by omega)|exact hS.cellIP (by omega)|exact hS.cellsN|exact ((hr.rd hS).cellX (by omega) hx)|exact ((hr2.rd hS).cellX (by omega) hx2)|exact hS.cellB (by omega)|exact hS.cellBA (by omega)|exact (hb.rd hS).cellB' (by omega)|exact (hb2.rd hS).cellB' (by omega)|exact (hg.rd hS).cellI (by omega)|exact (hg2.rd hS).cellI (by omega)|exact ((hr.rd hS).cellF (by first|omega|(dsimp only;omega)) hx)|exact ((hr2.rd hS).cellF (by first|omega|(dsimp only;omega)) hx2)|exact hS.cellO 0 (by omega)|exact hS.cellO 1 (by omega)|exact hS.cellIA (by omega)|exact (hg.rd hS).cellIA (by omega)|exact (hg2.rd hS).cellIA (by omega)|exact Zan (hc.rd hS).pts|exact hb.rd hS|exact (hr.rd hS).cellsF7 (by first|omega|(dsimp only;omega)) hst4 rfl|exact (hr2.rd hS).cellsF7 (by first|omega|(dsimp only;omega)) hst4 rfl|exact hS.cellO 4 (by omega)|exact hS.cellO 5 (by omega)|exact hS.cellO 6 (by omega)|exact hS.cellO 7 (by omega)|exact hS.cellO 8 (by omega)|exact hS.cellO 9 (by omega)|exact hS.cellO 10 (by omega)|exact hS.cellO 11 (by omega)|exact hS.cellO 12 (by omega)|exact hS.cellO 13 (by omega)|exact hS.cellO 2 (by omega)|exact hS.cellO 3 (by omega))) ?_)) ?_))
        obtain ⟨_,hc3,hr3,hw3,hbk3⟩ := hS.call [false,true,true,false,false,false,false]
        refine X_call (first := []) (captured := [.pointer (some ⟨t10,0,none⟩)]) rfl rfl rfl rfl rfl (put_n t10 aw2 cw2 ws2 (1 + x.c.no) (some ⟨q1,0,none⟩) 64 64 (stoB ⟨x.c.nd,bs⟩) _ _ (hr3 (bytes (some ⟨q1,0,none⟩) (stoB ⟨x.c.nd,bs⟩)) (by simp)) (Ze1 _) hcap2 (by omega) hc3) ?_
        rintro _ w ⟨rfl,aw3,cw3,q,hcw3,hS⟩
        replace hS := hbk3 hS
        clear hc3 hr3 hw3 hbk3
        rw [fullB_64 (Ze1 _)] at hS
        have hS := hS.took (out := [mapq (Value.int .i64) r2 (AV.vals Az),bytes (some ⟨q,0,none⟩) (stoB ⟨x.c.nd,bs⟩),bag X3,pts t10 (.cells #[.slice aw3 (ws2.length + 1) cw3] 291),own 237 2 aw3 cw3 ((ws2 ++ [putW (1 + x.c.no) q (stoB ⟨x.c.nd,bs⟩)]).flatMap Wr.cells),pts t15 (.cells (stoV ⟨x.c.nd,bs⟩ da dc fa bs.length).toArray 305),pts t13 (.cells (List.toArray [.int .i64 x.c.no,.int .i64 x.c.nd.st.kind,.int .i64 x.c.nd.st.mode,.int .i64 x.c.nd.st.owner,.int .i64 x.c.nd.st.group,.slice x.a x.c.nd.data.length x.k,.bool false]) 244)])
        repeat (first|(refine G_id ?_;first|refine Zac rfl rfl ?_)|(refine X_id ?_;first|refine X_yl (Zad rfl rfl) rfl rfl ?_|refine X_yl (Zaf rfl rfl rfl) rfl rfl ?_|refine X_yl (Zap rfl rfl hS.cell) rfl rfl ?_|refine X_yl (Zbf rfl rfl hS.cellsN) rfl rfl ?_)|(refine C_id ?_;first|refine Zaa ?_)|(refine E_id ?_;first|refine Zae ?_)|(refine Zbm ?_;first|refine Zbv ?_)|(refine Za3 ?_;first|refine And.intro (by repeat (first|exact trivial|refine And.intro (.inl (by decide +kernel)) ?_|refine And.intro (.inr (by first|assumption|exact hS.cell|exact Zan (by assumption)|exact hS.cellI (by omega)|exact hS.cellIP (by omega)|exact hS.cellsN|exact ((hr.rd hS).cellX (by omega) hx)|exact ((hr2.rd hS).cellX (by omega) hx2)|exact hS.cellB (by omega)|exact hS.cellBA (by omega)|exact (hb.rd hS).cellB' (by omega)|exact (hb2.rd hS).cellB' (by omega)|exact (hg.rd hS).cellI (by omega)|exact (hg2.rd hS).cellI (by omega)|exact ((hr.rd hS).cellF (by first|omega|(dsimp only;omega)) hx)|exact ((hr2.rd hS).cellF (by first|omega|(dsimp only;omega)) hx2)|exact hS.cellO 0 (by omega)|exact hS.cellO 1 (by omega)|exact hS.cellIA (by omega)|exact (hg.rd hS).cellIA (by omega)|exact (hg2.rd hS).cellIA (by omega)|exact Zan (hc.rd hS).pts|exact hb.rd hS|exact (hr.rd hS).cellsF7 (by first|omega|(dsimp only;omega)) hst4 rfl|exact (hr2.rd hS).cellsF7 (by first|omega|(dsimp only;omega)) hst4 rfl|exact hS.cellO 4 (by omega)|exact hS.cellO 5 (by omega)|exact hS.cellO 6 (by omega)|exact hS.cellO 7 (by omega)|exact hS.cellO 8 (by omega)|exact hS.cellO 9 (by omega)|exact hS.cellO 10 (by omega)|exact hS.cellO 11 (by omega)|exact hS.cellO 12 (by omega)|exact hS.cellO 13 (by omega)|exact hS.cellO 2 (by omega)|exact hS.cellO 3 (by omega))) ?_)) ?_))
        refine X_mapUpdateQ (mk := Value.int .i64) (k := x.c.no) (v := SV.val ⟨⟨x.c.nd,bs⟩,da,dc,fa,bs.length⟩) rfl rfl rfl rfl rfl hS (fun w hS => ?_)
        rw [setM_A] at hS
        repeat (first|(refine G_id ?_;first|refine Zah ?_|refine Zac rfl rfl ?_)|(refine X_id ?_;first|refine X_yl (Zad rfl rfl) rfl rfl ?_|refine X_yl (Zbo rfl rfl rfl (w64 (by omega) (by omega))) rfl rfl ?_)|(refine C_id ?_;first|refine Zaa ?_)|(refine E_id ?_;first|refine Zae ?_|refine Zbh ?_))
        have hS := (hS.pick [1,1,1,1,0]).bagAdd (fun _ h => h)
        have hS := hS.pick [1,1,0,0]
        have hbt : (Zdm n bs x.c.nd.data).take bs.length = Zdm n bs x.c.nd.data := List.take_of_length_le (by simp [Zdm])
        refine Zbu (α := ApZ) (z := ⟨i,Az,fa,fc,fl,aw,cw,ws,X⟩) (⟨i + 1,setA x.c.no ⟨⟨x.c.nd,bs⟩,da,dc,fa,bs.length⟩ Az,sub fa bs.length 1 fc,fc - bs.length,fl.drop bs.length,aw3,cw3,ws2 ++ [putW (1 + x.c.no) q (stoB ⟨x.c.nd,bs⟩)],(some ⟨q,0,none⟩,bv (stoB ⟨x.c.nd,bs⟩)) :: X3⟩ : ApZ) ⟨rfl,rfl,by simp only; rw [List.length_drop]; rfl,rfl,rfl,rfl,rfl,rfl,trivial⟩
         ⟨⟨by simp only; omega,?_,List.mem_cons_of_mem _ (hB.sub _ hX2a),by simp only [List.length_drop]; omega,by simp only [List.length_append,List.length_cons,List.length_nil]; exact hcw3,fun v hv => ?_,fun y hy => ?_,?_,fun b hb => hI.flow b (List.mem_of_mem_drop hb)⟩,?_⟩ (by simp only; omega)
        ·simp only
         rw [hrun,hstep,List.map_append,hB.data,hbt,List.append_assoc,show AV.ents (setA x.c.no (⟨⟨x.c.nd,bs⟩,da,dc,fa,bs.length⟩ : SV) Az) = setA x.c.no ⟨x.c.nd,bs⟩ (AV.ents Az) from (setA_map SV.s).symm]
         have : Zd7 (stoB ⟨x.c.nd,bs⟩) = stoB ⟨x.c.nd,bs⟩ := fullB_64 (Ze1 _)
         simp [Wr.data,this]
        ·rcases List.mem_append.1 hv with hv | hv
         ·exact List.mem_cons_of_mem _ (hB.wX v hv)
         ·rw [List.mem_singleton] at hv
          rw [hv]
          have : Zd7 (stoB ⟨x.c.nd,bs⟩) = stoB ⟨x.c.nd,bs⟩ := fullB_64 (Ze1 _)
          simp only [this]
          exact List.mem_cons_self ..
        ·rcases mem_setA hy with rfl | hy
         ·exact .inr ⟨List.mem_cons_of_mem _ (hB.sub _ hX2c),List.mem_cons_of_mem _ (hB.sub _ hX2b)⟩
         ·exact (hI.aX y hy).imp id fun h => ⟨List.mem_cons_of_mem _ (hB.sub _ (hsubX _ h.1)),List.mem_cons_of_mem _ (hB.sub _ (hsubX _ h.2))⟩
        ·have := hI.wl
         simp only [List.length_append,List.length_cons,List.length_nil] at this ⊢
         omega
        ·simp only [List.length_append,List.length_cons,List.length_nil]
         exact hS
    ·rw [hdp] at hxs
     repeat (first|(refine G_id ?_;first|refine Zah ?_|refine Zac rfl rfl ?_)|(refine X_id ?_;first|refine X_yl (Zad rfl rfl) rfl rfl ?_|refine X_yl (Zaf rfl rfl rfl) rfl rfl ?_|refine X_yl (Za7 rfl rfl rfl (by omega)) rfl rfl ?_|refine X_yl (Zau rfl rfl rfl (by omega) (by omega) (by first|assumption|exact ⟨_,_,rfl⟩)) rfl rfl ?_|refine X_yl (Zbo rfl rfl rfl (w64 (by omega) (by omega))) rfl rfl ?_|refine X_yl (Zap rfl rfl hS.cell) rfl rfl ?_|refine X_yl (Zbf rfl rfl ((hr.rd hS).cellsX (by omega) hxs rfl)) rfl rfl ?_|refine Za2 rfl rfl rfl rfl hS (fun _ hS _ => ?_)|refine Zbc rfl rfl rfl hS (fun _ _ hS _ => ?_))|(refine C_id ?_;first|refine Zaj ?_|refine Zaa ?_|refine Zat ?_|refine Zav ?_|refine Zam rfl ?_)|(refine E_id ?_;first|refine Zae ?_))
     obtain ⟨_,hc3,hr3,hw3,hbk3⟩ := hS.call [false,true,true,false,false]
     refine X_call (first := []) (captured := [.pointer (some ⟨t10,0,none⟩)]) rfl rfl rfl rfl rfl (put_n t10 aw cw ws (1 + x.c.no) none 0 0 [] _ _ (Ro_nil _ _ _) rfl hwcap (by omega) hc3) ?_
     rintro _ w ⟨rfl,aw',cw',q,hcw',hS⟩
     replace hS := hbk3 hS
     clear hc3 hr3 hw3 hbk3
     repeat (first|(refine G_id ?_;first|refine Zah ?_|refine Zac rfl rfl ?_)|(refine X_id ?_;first|refine X_yl (Zad rfl rfl) rfl rfl ?_|refine X_yl (Zbo rfl rfl rfl (w64 (by omega) (by omega))) rfl rfl ?_)|(refine C_id ?_;first|refine Zaa ?_|refine Zb2 ?_)|(refine E_id ?_;first|refine Zae ?_|refine Zaw ?_|refine Za1 ?_))
     have hS := (hS.pick [2,3,0,0,1]).bagAdd (fun _ h => h)
     have hS := hS.pick [1,1,0,0]
     refine Zbu (α := ApZ) (z := ⟨i,Az,fa,fc,fl,aw,cw,ws,X⟩) (⟨i + 1,Az,fa,fc,fl,aw',cw',ws ++ [putW (1 + x.c.no) q []],(some ⟨q,0,none⟩,bv (Zd7 [])) :: X⟩ : ApZ) ⟨rfl,rfl,rfl,rfl,rfl,rfl,rfl,rfl,trivial⟩ ⟨⟨by simp only; omega,?_,List.mem_cons_of_mem _ hI.fX,hfcap,by simp only [List.length_append,List.length_cons,List.length_nil]; exact hcw',fun v hv => ?_,fun y hy => (hI.aX y hy).imp id fun h => ⟨List.mem_cons_of_mem _ h.1,List.mem_cons_of_mem _ h.2⟩,?_,hI.flow⟩,?_⟩ (by simp only; omega)
     ·simp only
      rw [hrun]
      unfold ApS.step
      rw [if_pos hdp]
      have : Zd7 [] = zero64 := by simp [Zd7,zero64]
      simp [Wr.data,this]
     ·rcases List.mem_append.1 hv with hv | hv
      ·exact List.mem_cons_of_mem _ (hI.wX v hv)
      ·rw [List.mem_singleton] at hv; rw [hv]; exact List.mem_cons_self ..
     ·have := hI.wl
      simp only [List.length_append,List.length_cons,List.length_nil] at this ⊢
      omega
     ·simp only [List.length_append,List.length_cons,List.length_nil]
      exact hS
   ·obtain rfl : i = l.length := by omega
    repeat (first|(refine G_id ?_;first|refine Zah ?_|refine Zac rfl rfl ?_)|(refine X_id ?_;first|refine X_yl (Za8 rfl rfl rfl (by omega)) rfl rfl ?_)|(refine C_id ?_;first|refine Zaj ?_|refine Zaa ?_|refine Zb2 ?_|refine Zak rfl ?_)|(refine E_id ?_;first|refine Zae ?_|refine Zaw ?_|refine Za1 ?_))
    exact E_mid (⟨l.length,Az,fa,fc,fl,aw,cw,ws,X⟩ : ApZ) ⟨rfl,rfl,rfl,trivial⟩ ⟨⟨hcll.symm,hI⟩,hS⟩
  ·clear hS hI0 hz0
   rintro ⟨i,Az,fa,fc,fl,aw,cw,ws,X⟩ w ⟨⟨hi,hI⟩,hS⟩
   have hwl := hbound _ hI
   have hwcap := hI.wcap
   have hrun := hI.run
   simp only at hi hS hwl hwcap hrun ⊢
   rw [hi,List.take_length] at hrun
   rcases hlaw with ⟨h1,_⟩ | ⟨z',h1,h2,h3,h4,h5⟩
   ·rw [hrun] at h1; cases h1
   ·obtain rfl : z' = ⟨AV.ents Az,fl,ws.map Wr.data⟩ := by rw [hrun] at h1; exact (Option.some.inj h1).symm
    simp only at h2 h3 h4 h5
    have hnl : (ws.map Wr.data).length = ws.length := by simp
    rw [hnl] at h2
    repeat (first|(refine C_id ?_;first|refine Zaj ?_))
    refine Zco (.s 0 (.s 1 (.s 2 (.s 3 (.s 4 (.h 5 (.s 6 .nil) .no)))))) mixed (by kernel_rfl) rfl ?_
    have hS := hS.drew
    repeat (first|(refine Zbm ?_;first|refine Zai rfl rfl (fun _ => Zad rfl rfl) rfl rfl ?_|refine Zai rfl rfl (fun _ => Zag rfl rfl) rfl rfl ?_|refine Zai rfl rfl (fun _ => Zaf rfl rfl rfl) rfl rfl ?_|refine Zbq (fun w' => w'.cell? _ = some _) rfl rfl hS.cell (fun _ hc => Zap rfl rfl hc) rfl rfl ?_|refine Za9 rfl rfl ?_|refine Zbq (fun w' => w'.cell? _ = some _) rfl rfl (Zan (hc.rd hS).pts) (fun _ hc => Zap rfl rfl hc) rfl rfl ?_))
    replace hS := hbk hS
    obtain ⟨_,hc4,hr4,hw4,hbk4⟩ := hS.call [false,false,false,false,false,false,false,true]
    refine Zal _ rfl rfl rfl rfl rfl (qcommit_ lp p j m dat aw cw ws rd fs _ _ (hG.mono hw4) ⟨(hr4 (own 237 2 aw cw (ws.flatMap Wr.cells)) (by simp)).own_row,fun v hv => (hr4 (bag X) (by simp)).bag (hI.wX v hv)⟩ (by omega) hm h4 (by rw [hE.len]; exact h5) hc4) ?_
    rintro _ w (⟨hfull,rfl,hS⟩ | ⟨hfit,rfl,hS⟩)
    ·replace hS := hbk4 hS
     clear hc4 hr4 hw4 hbk4
     have hp : putT T nb (j / 2) cl = (6,T) := by unfold putT; rw [h2,if_neg (by simp),if_pos hfull]
     rw [hp]
     repeat (first|(refine G_id ?_;first|refine Zah ?_|refine Zac rfl rfl ?_)|(refine X_id ?_;first|refine X_yl (Zad rfl rfl) rfl rfl ?_|refine X_yl (Zab rfl rfl) rfl rfl ?_|refine X_yl (Zck rfl rfl rfl (by omega)) rfl rfl ?_)|(refine C_id ?_;first|refine Zaj ?_|refine Zaa ?_|refine Za0 ?_|refine Zam rfl ?_)|(refine E_id ?_;first|refine Zae ?_|refine Zar ?_|refine Zax rfl (Zao rfl) (Ret.mk ?_))|(refine Zbm ?_;first|refine Zbv ?_|refine Zai rfl rfl (fun _ => Zab rfl rfl) rfl rfl ?_)|(refine Za3 ?_;first|refine And.intro (by repeat (first|exact trivial|refine And.intro (.inl (by decide +kernel)) ?_|refine And.intro (.inr (by first|assumption|exact hS.cell|exact Zan (by assumption)|exact hS.cellI (by omega)|exact hS.cellIP (by omega)|exact hS.cellsN|exact ((hr.rd hS).cellX (by omega) hx)|exact ((hr2.rd hS).cellX (by omega) hx2)|exact hS.cellB (by omega)|exact hS.cellBA (by omega)|exact (hb.rd hS).cellB' (by omega)|exact (hb2.rd hS).cellB' (by omega)|exact (hg.rd hS).cellI (by omega)|exact (hg2.rd hS).cellI (by omega)|exact ((hr.rd hS).cellF (by first|omega|(dsimp only;omega)) hx)|exact ((hr2.rd hS).cellF (by first|omega|(dsimp only;omega)) hx2)|exact hS.cellO 0 (by omega)|exact hS.cellO 1 (by omega)|exact hS.cellIA (by omega)|exact (hg.rd hS).cellIA (by omega)|exact (hg2.rd hS).cellIA (by omega)|exact Zan (hc.rd hS).pts|exact hb.rd hS|exact (hr.rd hS).cellsF7 (by first|omega|(dsimp only;omega)) hst4 rfl|exact (hr2.rd hS).cellsF7 (by first|omega|(dsimp only;omega)) hst4 rfl|exact hS.cellO 4 (by omega)|exact hS.cellO 5 (by omega)|exact hS.cellO 6 (by omega)|exact hS.cellO 7 (by omega)|exact hS.cellO 8 (by omega)|exact hS.cellO 9 (by omega)|exact hS.cellO 10 (by omega)|exact hS.cellO 11 (by omega)|exact hS.cellO 12 (by omega)|exact hS.cellO 13 (by omega)|exact hS.cellO 2 (by omega)|exact hS.cellO 3 (by omega))) ?_)) ?_))
     have h := hS.took (out := [tabAt tp lp n r,mapq (Value.int .i64) r A.vals,bag A.rows,qlog lp p j m dat])
     exact ⟨rfl,(h.shutItab hok).head itab_up⟩
    ·replace hS := hbk4 hS
     clear hc4 hr4 hw4 hbk4
     have hp : putT T nb (j / 2) cl = (0,tabOf (AV.ents Az) n) := by unfold putT; rw [h2,if_neg (by simp),if_neg (by simp only; omega)]
     rw [hp]
     repeat (first|(refine G_id ?_;first|refine Zah ?_|refine Zac rfl rfl ?_)|(refine X_id ?_;first|refine X_yl (Zad rfl rfl) rfl rfl ?_|refine X_yl (Zab rfl rfl) rfl rfl ?_|refine X_yl (Zag rfl rfl) rfl rfl ?_|refine X_yl (Zaf rfl rfl rfl) rfl rfl ?_|refine X_yl (Zbz rfl rfl rfl (by omega)) rfl rfl ?_|refine Za2 rfl rfl rfl rfl hS (fun _ hS _ => ?_))|(refine C_id ?_;first|refine Zaj ?_|refine Zaa ?_|refine Za0 ?_|refine Zav ?_|refine Zak rfl ?_)|(refine E_id ?_;first|refine Zae ?_|refine Zax rfl (Zao rfl) (Ret.mk ?_))|(refine Zbm ?_;first|refine Zbv ?_|refine Zai rfl rfl (fun _ => Zab rfl rfl) rfl rfl ?_)|(refine Za3 ?_;first|refine And.intro (by repeat (first|exact trivial|refine And.intro (.inl (by decide +kernel)) ?_|refine And.intro (.inr (by first|assumption|exact hS.cell|exact Zan (by assumption)|exact hS.cellI (by omega)|exact hS.cellIP (by omega)|exact hS.cellsN|exact ((hr.rd hS).cellX (by omega) hx)|exact ((hr2.rd hS).cellX (by omega) hx2)|exact hS.cellB (by omega)|exact hS.cellBA (by omega)|exact (hb.rd hS).cellB' (by omega)|exact (hb2.rd hS).cellB' (by omega)|exact (hg.rd hS).cellI (by omega)|exact (hg2.rd hS).cellI (by omega)|exact ((hr.rd hS).cellF (by first|omega|(dsimp only;omega)) hx)|exact ((hr2.rd hS).cellF (by first|omega|(dsimp only;omega)) hx2)|exact hS.cellO 0 (by omega)|exact hS.cellO 1 (by omega)|exact hS.cellIA (by omega)|exact (hg.rd hS).cellIA (by omega)|exact (hg2.rd hS).cellIA (by omega)|exact Zan (hc.rd hS).pts|exact hb.rd hS|exact (hr.rd hS).cellsF7 (by first|omega|(dsimp only;omega)) hst4 rfl|exact (hr2.rd hS).cellsF7 (by first|omega|(dsimp only;omega)) hst4 rfl|exact hS.cellO 4 (by omega)|exact hS.cellO 5 (by omega)|exact hS.cellO 6 (by omega)|exact hS.cellO 7 (by omega)|exact hS.cellO 8 (by omega)|exact hS.cellO 9 (by omega)|exact hS.cellO 10 (by omega)|exact hS.cellO 11 (by omega)|exact hS.cellO 12 (by omega)|exact hS.cellO 13 (by omega)|exact hS.cellO 2 (by omega)|exact hS.cellO 3 (by omega))) ?_)) ?_))
     have h := hS.took (out := [bag X,bag A.rows,tabAt tp lp n r2,mapq (Value.int .i64) r2 (AV.vals Az),qlog lp p j (m + 1) (Zde dat (ws.map Wr.data))])
     have h := h.bagJoin.bagSub (Y := AV.rows Az) (fun y hy => by
      obtain ⟨x,hx,hyx⟩ := List.mem_flatMap.1 hy
      rcases hI.aX x hx with hxA | ⟨e1,e2⟩
      ·exact List.mem_append_right _ (List.mem_flatMap.2 ⟨x,hxA,hyx⟩)
      ·simp only [List.mem_cons,List.not_mem_nil,or_false] at hyx
       rcases hyx with rfl | rfl
       ·exact List.mem_append_left _ e1
       ·exact List.mem_append_left _ e2)
     have h := h.pick [1,1,0,0]
     exact ⟨rfl,h.shutItab ⟨rfl,h3,hok.n1,hok.n4,hok.nb1⟩⟩
 ·have hap : applyT T nb (j / 2) cl = (checkC cl n,T) := by unfold applyT; rw [htl,if_pos h0]
  rw [hap]
  refine Zaq Tryz.func124 rfl Tryz.ntmps124 rfl ?_
  repeat (first|(refine G_id ?_;first|refine Zah ?_|refine Zac rfl rfl ?_)|(refine X_id ?_;first|refine X_yl (Zad rfl rfl) rfl rfl ?_|refine X_yl (Zab rfl rfl) rfl rfl ?_|refine X_yl (Zbd rfl rfl rfl) rfl rfl ?_)|(refine C_id ?_;first|refine Zaj ?_|refine Zaa ?_|refine Zav ?_|refine Zak rfl ?_)|(refine E_id ?_;first|refine Zae ?_))
  refine Zbn _ rfl rfl rfl rfl rfl hS (hck _ _ hS) ?_
  rintro _ w rfl hS
  repeat (first|(refine G_id ?_;first|refine Zah ?_|refine Zac rfl rfl ?_)|(refine X_id ?_;first|refine X_yl (Zad rfl rfl) rfl rfl ?_|refine X_yl (Zab rfl rfl) rfl rfl ?_|refine X_yl (Zck rfl rfl rfl (by omega)) rfl rfl ?_)|(refine C_id ?_;first|refine Zaj ?_|refine Zaa ?_|refine Za0 ?_|refine Zam rfl ?_)|(refine E_id ?_;first|refine Zae ?_|refine Zar ?_|refine Zax rfl (Zao rfl) (Ret.mk ?_)))
  exact ⟨rfl,((hbk hS).shutItab hok).head itab_up⟩
end
end Cr
namespace Cr
open Go Go.Proofs
set_option maxRecDepth 100000
set_option maxHeartbeats 8000000
attribute [local irreducible] Calls

end Cr
namespace Cr
open Go Go.Proofs
set_option maxRecDepth 100000
set_option maxHeartbeats 16000000
attribute [local irreducible] Calls

theorem fullB_nil : Zd7 [] = zero64 := by simp [Zd7,zero64]
theorem zero64_length : zero64.length = 64 := by simp [zero64]
theorem enc_new (rd fs : List Int) {dat : List (List UInt8)} {n nb : Nat} (hd : dat.length = 1 + n + nb) (hz : ∀ i,i < n → dat.getD (1 + i) [] = zero64) : Enc rd fs (Zde dat [(0,Zdr rd fs n)]) n nb [] := by
 have hg : ∀ k,k < dat.length → (Zde dat [(0,Zdr rd fs n)]).getD k [] = if k = 0 then Zdr rd fs n else dat.getD k [] := fun k hk => by
  rw [Zej _ _ _ hk (fun v hv => by rw [List.mem_singleton] at hv; rw [hv]; exact Int.le_refl _),Ze7]
  by_cases h : k = 0
  ·subst h; simp [Zdw]
  ·rw [if_neg h,if_neg (by simp only; omega)]; simp [Zdw]
 refine ⟨by rw [Zb1]; exact hd,by rw [hg 0 (by omega),if_pos rfl],fun k hk => by simp [Zb6] at hk,by simp [Zb6],fun i hi => ?_,fun x hx => by simp at hx,fun x hx => by simp at hx,by simp [Zb4]⟩
 rw [hg _ (by omega),if_neg (by omega),hz i hi]
 rfl
theorem tab_new (n : Nat) : tabOf [] n = List.replicate n none := by
 apply List.ext_getElem
 ·simp [tabOf]
 ·intro i h1 h2
  simp [tabOf,getA]
theorem format_ (lp p j m n nb : Nat) (dat : List (List UInt8)) (rd fs : List Int) (W : World) (F : Nat → Prop) (hG : Gl W F rd fs) (hd : dat.length = 1 + n + nb) (h1 : 1 ≤ n) (h4 : n ≤ 400) (hnb : 1 ≤ nb) (hj : 2 ≤ j) (hm : (m : Int) < last)
  (h0 : dat.getD 0 [] = zero64) (hz : ∀ i,i < n → dat.getD (1 + i) [] = zero64) (hS : St W F [qlog lp p j m dat] W) :
  Calls Tryz.prog 81 #[.pointer (some ⟨lp,0,none⟩),.int .i64 (n : Nat)] W (Ret fun v w => ∃ tp,v = .tuple #[.pointer (some ⟨tp,0,none⟩),.int .i64 0] ∧ St W F [itab rd fs tp lp p j (m + 1) n nb (List.replicate n none)] w) := by
 have hqr : ∀ w rs,St W F (qlog lp p j m dat :: rs) w → Rd w (qlog lp p j m dat) := fun w rs h => h.rd (List.mem_cons_self ..)
 have hrd := fun w rs (h : St W F (qlog lp p j m dat :: rs) w) => qread_ lp p j m dat 0 w (hqr _ _ h) (by omega)
 rw [h0] at hrd
 have heq := fun w a c p h1 h2 => equal_ a (some ⟨p,0,none⟩) 64 64 c 64 zero64 zero64 w h1 h2 zero64_length zero64_length
 rw [decide_eq_true rfl] at heq
 refine Zaq Tryz.func81 rfl Tryz.ntmps81 rfl ?_
 repeat (first|(refine G_id ?_;first|refine Zah ?_|refine Zac rfl rfl ?_)|(refine X_id ?_;first|refine X_yl (Zad rfl rfl) rfl rfl ?_|refine X_yl (Zab rfl rfl) rfl rfl ?_|refine X_yl (Zbd rfl rfl rfl) rfl rfl ?_)|(refine C_id ?_;first|refine Zaj ?_|refine Zaa ?_|refine Zat ?_|refine Zak rfl ?_)|(refine E_id ?_;first|refine Zae ?_))
 refine Zbn _ rfl rfl rfl rfl rfl hS (may_ lp p j m n dat _ (hqr _ _ hS) h1 h4 (by omega)) ?_
 rintro _ w rfl hS
 repeat (first|(refine G_id ?_;first|refine Zah ?_|refine Zac rfl rfl ?_)|(refine X_id ?_;first|refine X_yl (Zad rfl rfl) rfl rfl ?_|refine X_yl (Zab rfl rfl) rfl rfl ?_|refine X_yl (Zbg rfl rfl) rfl rfl ?_)|(refine C_id ?_;first|refine Zaj ?_|refine Zaa ?_|refine Zav ?_|refine Zak rfl ?_)|(refine E_id ?_;first|refine Zae ?_|refine Zbh ?_))
 refine Zal _ rfl rfl rfl rfl rfl (hrd _ _ hS) ?_
 rintro _ w ⟨a,c,rfl,hc,hS'⟩
 replace hS := hS.plus hS'
 clear hS'
 repeat (first|(refine G_id ?_;first|refine Zah ?_|refine Zac rfl rfl ?_)|(refine X_id ?_;first|refine X_yl (Zad rfl rfl) rfl rfl ?_|refine X_yl (Zab rfl rfl) rfl rfl ?_|refine X_yl (Zbi rfl rfl) rfl rfl ?_|refine X_yl (Zbz rfl rfl rfl (by omega)) rfl rfl ?_)|(refine C_id ?_;first|refine Zaj ?_|refine Zaa ?_|refine Zav ?_|refine Zak rfl ?_)|(refine E_id ?_;first|refine Zae ?_))
 refine Zal _ rfl rfl rfl rfl rfl (filled_ none 0 [] _ (Rd_nil _ _)) ?_
 rintro _ w ⟨q,rfl,hS'⟩
 replace hS := hS.plus hS'
 clear hS'
 rw [fullB_nil] at hS
 repeat (first|(refine G_id ?_;first|refine Zah ?_|refine Zac rfl rfl ?_)|(refine X_id ?_;first|(refine Zal 119 rfl rfl rfl rfl rfl (heq _ a c q (hS.rd (by simp)) (hS.rd (by simp))) ?_;rintro _ _ ⟨rfl,rfl⟩)|refine X_yl (Zad rfl rfl) rfl rfl ?_|refine X_yl (Zbg rfl rfl) rfl rfl ?_)|(refine C_id ?_;first|refine Zaj ?_|refine Zaa ?_|refine Zav ?_|refine Zak rfl ?_)|(refine E_id ?_;first|refine Zae ?_))
 refine Zal _ rfl rfl rfl rfl rfl (tfront_ n rd fs _ (hG.mono fun r hr => (hr.rd hS).ro)) ?_
 rintro _ w ⟨q2,rfl,hS'⟩
 replace hS := hS.plus hS'
 clear hS'
 repeat (first|(refine G_id ?_;first|refine Zac rfl rfl ?_)|(refine X_id ?_;first|refine X_yl (Zcq rfl rfl rfl) rfl rfl ?_|refine Zbb rfl rfl rfl rfl rfl rfl rfl rfl hS (fun _ _ hS _ => ?_)))
 rename_i bw _ _
 obtain ⟨_,hc4,hr4,hw4,hbk4⟩ := hS.call [false,false,false,false,true]
 have hck : Zdh [((0 : Int),Zdr rd fs n)] = 0 := by
  have : (Zdr rd fs n).length = 64 := Zc3 _
  simp [Zdh,badW,Zcs,this]
 refine Zal _ rfl rfl rfl rfl rfl (qcommit_ lp p j m dat (some ⟨bw,0,none⟩) 1 [⟨0,⟨some ⟨q2,0,none⟩,64,Zdr rd fs n⟩⟩] rd fs _ _ (hG.mono hw4) ⟨?_,fun v hv => ?_⟩ (by simp) hm hck ?_ hc4) ?_
 ·have h := (hr4 (own 237 2 (some ⟨bw,0,none⟩) 1 [.int .i64 0,.slice (some ⟨q2,0,none⟩) 64 64]) (by simp)).own_row
  have e : (List.flatMap Wr.cells [⟨0,⟨some ⟨q2,0,none⟩,64,Zdr rd fs n⟩⟩]) = [.int .i64 0,.slice (some ⟨q2,0,none⟩) 64 64] := by
   have : (Zdr rd fs n).length = 64 := Zc3 _
   simp [Wr.cells,this]
  rw [e]; exact h
 ·rw [List.mem_singleton] at hv
  rw [hv]
  exact hr4 (bytes (some ⟨q2,0,none⟩) (Zdr rd fs n)) (by simp)
 ·simp [hasM,Wr.data]; omega
 rintro _ w (⟨hfull,_,_⟩ | ⟨_,rfl,hS⟩)
 ·simp only [List.length_cons,List.length_nil] at hfull; omega
 replace hS := hbk4 hS
 clear hc4 hr4 hw4 hbk4
 repeat (first|(refine G_id ?_;first|refine Zah ?_|refine Zac rfl rfl ?_)|(refine X_id ?_;first|refine X_yl (Zad rfl rfl) rfl rfl ?_|refine X_yl (Zab rfl rfl) rfl rfl ?_|refine X_yl (Zbz rfl rfl rfl (by omega)) rfl rfl ?_)|(refine C_id ?_;first|refine Zaj ?_|refine Zaa ?_|refine Zav ?_|refine Zak rfl ?_)|(refine E_id ?_;first|refine Zae ?_))
 refine X_makeMapQ (Value.int .i64) rfl rfl rfl hS (fun r w hS => ?_)
 repeat (first|(refine G_id ?_;first|refine Zah ?_|refine Zac rfl rfl ?_)|(refine X_id ?_;first|refine X_yl (Zab rfl rfl) rfl rfl ?_|refine X_yl (Zcq rfl rfl rfl) rfl rfl ?_|refine Zel rfl rfl rfl rfl hS (fun _ _ hS _ => ?_))|(refine C_id ?_;first|refine Za0 ?_)|(refine E_id ?_;first|refine Zae ?_|refine Zcy rfl (Zao rfl) (Zao rfl) (Ret.mk ?_)))
 rename_i tp _ _
 refine ⟨tp,rfl,?_⟩
 have h := (hS.bagNil).took (out := [tabAt tp lp n r,mapq (Value.int .i64) r [],bag [],qlog lp p j (m + 1) (Zde dat (List.map Wr.data [⟨0,⟨some ⟨q2,0,none⟩,64,Zdr rd fs n⟩⟩]))])
 exact St.shutItab (A := []) (dat := Zde dat [(0,Zdr rd fs n)]) ⟨tab_new n,enc_new rd fs hd hz,h1,h4,hnb⟩ h
end Cr
namespace Cr
open Go Go.Proofs
set_option maxRecDepth 100000
set_option maxHeartbeats 16000000
attribute [local irreducible] Calls

end Cr
namespace Cr
open Go Go.Proofs
set_option maxRecDepth 100000
set_option maxHeartbeats 16000000
attribute [local irreducible] Calls

theorem St.newLog {W : World} {F : Nat → Prop} {rs : List Res} {w : World} {lp p j k : Nat} (hj : j ≤ 1024) (hS : St W F (Zdl lp p 1 0 0 j 0 false :: disk p (Zcd (1 + j + k)) :: rs) w) : St W F (qlog lp p j 0 (List.replicate k zero64) :: rs) w :=
 hS.shutQlog ⟨⟨rfl,rfl,by simp [Zcd]⟩,rfl,Int.le_refl _,Int.le_refl _,hj,fun i hi => by
  rw [List.length_replicate] at hi
  simp only [Zcd,List.getD_eq_getElem?_getD,List.getElem?_replicate]
  rw [if_pos (by omega),if_pos hi]⟩
theorem zeros_get {k i : Nat} (h : i < k) : (List.replicate k zero64).getD i [] = zero64 := by
 rw [List.getD_eq_getElem?_getD,List.getElem?_replicate,if_pos h]; rfl
end Cr
namespace Cr
open Go Go.Proofs
set_option maxRecDepth 100000
set_option maxHeartbeats 16000000
attribute [local irreducible] Calls

theorem small_len {s : Sto} {nb : Nat} (h : s.ok nb) : smallI (((stoB s).drop 9).take 4) = (s.nd.data.length : Nat) := by
 have := h.len
 rw [stoB_len h,smallI_big (by omega) (by omega) (by omega)]
end Cr
namespace Cr
open Go Go.Proofs
set_option maxRecDepth 100000
set_option maxHeartbeats 16000000
attribute [local irreducible] Calls

end Cr
namespace Cr
open Go Go.Proofs
set_option maxRecDepth 100000
set_option maxHeartbeats 16000000
attribute [local irreducible] Calls

end Cr
namespace Cr
open Go
theorem St.ownBase {W : World} {F : Nat → Prop} {rs : List Res} {w : World} {T c e : Nat} {a : Option Addr} {cs : List Value} (hS : St W F (own T e a c cs :: rs) w) (hpos : cs ≠ []) : ∃ b,a = some ⟨b,0,none⟩ := by
 obtain ⟨g,⟨g1,g2,hown,hrest,hdj,hun⟩,s⟩ := hS
 obtain ⟨hle,hcm,⟨rfl,_⟩ | ⟨b',cells,hbe,rfl,hcz,ht⟩⟩ := hown
 ·rw [Nat.zero_mul] at hle
  exact absurd (List.length_eq_zero_iff.1 (by omega)) hpos
 ·exact ⟨b',hbe⟩
end Cr
namespace Go.Proofs
open Go.Shelf
def Tryz.lays189_ren : Go.Shelf.Ren := ⟨fun | 189 => 238 | 125 => 254 | 257 => 253 | 128 => 273 | 129 => 154 | 294 => 264 | 295 => 265 | 296 => 266 | 297 => 267 | 298 => 268 | 299 => 269 | 216 => 270 | 300 => 271 | 301 => 272 | 328 => 279 | 329 => 280 | 330 => 281 | 331 => 282 | 332 => 283 | 215 => 284 | 343 => 288 | n => n,fun | 28 => 303 | 3 => 3 | 46 => 97 | 0 => 0 | 51 => 90 | 53 => 55 | 4 => 4 | 183 => 378 | 182 => 377 | 131 => 50 | 5 => 5 | 9 => 9 | 218 => 389 | 222 => 393 | 228 => 401 | 229 => 402 | n => n,fun | n => n⟩
theorem Tryz.lays189 : Go.Proofs.Lays.n189 Tryz.prog Tryz.lays189_ren := {
 mixed := by kernel_rfl
 f125 := Tryz.func254.trans (congrArg some (by kernel_rfl))
 f128 := Tryz.func273.trans (congrArg some (by kernel_rfl))
 f129 := Tryz.func154.trans (congrArg some (by kernel_rfl))
 f189 := Tryz.func238.trans (congrArg some (by kernel_rfl))
 f215 := Tryz.func284.trans (congrArg some (by kernel_rfl))
 f216 := Tryz.func270.trans (congrArg some (by kernel_rfl))
 f257 := Tryz.func253.trans (congrArg some (by kernel_rfl))
 f294 := Tryz.func264.trans (congrArg some (by kernel_rfl))
 f295 := Tryz.func265.trans (congrArg some (by kernel_rfl))
 f296 := Tryz.func266.trans (congrArg some (by kernel_rfl))
 f297 := Tryz.func267.trans (congrArg some (by kernel_rfl))
 f298 := Tryz.func268.trans (congrArg some (by kernel_rfl))
 f299 := Tryz.func269.trans (congrArg some (by kernel_rfl))
 f300 := Tryz.func271.trans (congrArg some (by kernel_rfl))
 f301 := Tryz.func272.trans (congrArg some (by kernel_rfl))
 f328 := Tryz.func279.trans (congrArg some (by kernel_rfl))
 f329 := Tryz.func280.trans (congrArg some (by kernel_rfl))
 f330 := Tryz.func281.trans (congrArg some (by kernel_rfl))
 f331 := Tryz.func282.trans (congrArg some (by kernel_rfl))
 f332 := Tryz.func283.trans (congrArg some (by kernel_rfl))
 f343 := Tryz.func288.trans (congrArg some (by kernel_rfl))
 t0 := Tryz.underlying0
 a0 := Tryz.isAgg0
 z0 := Tryz.sizeOf0
 v0 := Tryz.zeroValue0
 t3 := Tryz.underlying3
 a3 := Tryz.isAgg3
 z3 := Tryz.sizeOf3
 v3 := Tryz.zeroValue3
 t4 := Tryz.underlying4
 a4 := Tryz.isAgg4
 z4 := Tryz.sizeOf4
 v4 := Tryz.zeroValue4
 t5 := Tryz.underlying5
 a5 := Tryz.isAgg5
 z5 := Tryz.sizeOf5
 v5 := Tryz.zeroValue5
 t9 := Tryz.underlying9
 a9 := Tryz.isAgg9
 z9 := Tryz.sizeOf9
 v9 := Tryz.zeroValue9
 t28 := Tryz.underlying303
 a28 := Tryz.isAgg303
 z28 := Tryz.sizeOf303
 v28 := Tryz.zeroValue303
 t46 := Tryz.underlying97
 a46 := Tryz.isAgg97
 z46 := Tryz.sizeOf97
 v46 := Tryz.zeroValue97
 t51 := Tryz.underlying90
 a51 := Tryz.isAgg90
 z51 := Tryz.sizeOf90
 v51 := Tryz.zeroValue90
 t53 := Tryz.underlying55
 a53 := Tryz.isAgg55
 z53 := Tryz.sizeOf55
 v53 := Tryz.zeroValue55
 t131 := Tryz.underlying50
 a131 := Tryz.isAgg50
 z131 := Tryz.sizeOf50
 v131 := Tryz.zeroValue50
 t182 := Tryz.underlying377
 a182 := Tryz.isAgg377
 z182 := Tryz.sizeOf377
 v182 := Tryz.zeroValue377
 t183 := Tryz.underlying378
 a183 := Tryz.isAgg378
 z183 := Tryz.sizeOf378
 v183 := Tryz.zeroValue378
 t218 := Tryz.underlying389
 a218 := Tryz.isAgg389
 z218 := Tryz.sizeOf389
 v218 := Tryz.zeroValue389
 t222 := Tryz.underlying393
 a222 := Tryz.isAgg393
 z222 := Tryz.sizeOf393
 v222 := Tryz.zeroValue393
 t228 := Tryz.underlying401
 a228 := Tryz.isAgg401
 z228 := Tryz.sizeOf401
 v228 := Tryz.zeroValue401
 t229 := Tryz.underlying402
 a229 := Tryz.isAgg402
 z229 := Tryz.sizeOf402
 v229 := Tryz.zeroValue402 }
open Go.Sort Go.RowKit in
theorem Tryz.slices_Sort_int (blk off cap : Nat) (zs : List Int) (w : World) (hH : Holds (Value.int .i64) w blk off zs.toArray) (hblk : blk < w.heap.size) (hsz : zs.length < 4611686018427387904) :
  Calls Tryz.prog 238 #[.slice (some ⟨blk,off,none⟩) zs.length cap] w fun e w' =>
   e = .returned (.tuple #[]) ∧ ∃ n os,w' = grow (putRow (Value.int .i64) (Sort.ahead w n) blk off (zs.mergeSort fun x y => decide (x ≤ y)).toArray) os := Any.slices_Sort_int Tryz.lays189 blk off cap zs w hH hblk hsz
open Go.RowKit Go.Sort in
theorem Tryz.slices_Sort_int_none (p : Option Addr) (cap : Nat) (w : World) :
  Calls Tryz.prog 238 #[.slice p 0 cap] w fun e w' => e = .returned (.tuple #[]) ∧ w' = w := Any.slices_Sort_int_none Tryz.lays189 p cap w
end Go.Proofs
