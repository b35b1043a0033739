/-
  Layer 7 (inode): Apply.
  The laws' helper Same: are bytes the same?
  Layer 7 (inode): Format; what nil tells; Same.
  The laws' helpers To of layers 6 and 7.
  The laws' helper known of layer 7: the chapter's examples.
  Layer 7 (inode): Open: a node of its sector's bytes; does a block stand in two places?
  Layer 7 (inode): does a block stand in two places? Open.
  Layer 7 (inode): Open of a log that holds a table.
  The base of a row of the run's own. Over any program.
  DERIVED: THE SHELF's CONTRACTS AT THIS DUMP, IN PLAIN WORDS (tools/lay-plain.mjs out of 'TryzShelf.lean', which tools/lay-shelf.mjs wrote): THE SAME DECLARATIONS UNDER THE SAME NAMES: 'import', 'namespace', 'open', 'def', 'theorem' AND NOTHING ELSE: no command of the shelf's: FOR A HAND-IN. Each laying: the table of numbers ('.._ren') and one theorem, a field a fact of the dump's own or the kernel's comparison; each contract: ONE APPLICATION.
-/
import Derived.Test.YtooeiknmpndcgaaGreatDoorTrl15
import Derived.Test.YtooeiknmpndcgaaGreatDoorTrl10
import Derived.Test.YtooeiknmpndcgaaGreatDoorTrl5
import Derived.Shelf.Small.Strs
import Derived.Shelf.Strconv.Itoa0
import Derived.Shelf.Strconv.Itoa1
import Derived.Shelf.LaysM
import Derived.Shelf.Strconv.Itoa2
import Derived.Shelf.Strings.Search1
import Derived.Shelf.Strings.Search2
import Derived.Shelf.Strings.Search3
import Derived.Shelf.Strings.Count
import Derived.Shelf.Strings.Shaped
import Derived.Shelf.Sort.Plain
import Derived.Shelf.Unicode.DecodeSlow
import Derived.Shelf.Slices.In.SortNone
import Derived.Test.YtooeiknmpndcgaaGreatDoorProg
namespace Cr
open Go Go.Proofs
set_option maxRecDepth 100000
set_option maxHeartbeats 16000000
attribute [local irreducible] Calls

def delAV (A : AV) (l : List Chg) : AV := l.foldl (fun A c => delA c.no A) A
theorem delAV_snoc {A : AV} {l : List Chg} {i : Nat} {c : Chg} (h : l[i]? = some c) : delAV A (l.take (i + 1)) = delA c.no (delAV A (l.take i)) := by
 unfold delAV
 rw [List.take_add_one, h]
 simp
theorem delAV_ents : ∀ (l : List Chg) (A : AV), AV.ents (delAV A l) = delAll A.ents l
 | [], _ => rfl
 | c :: l, A => by
  have ih := delAV_ents l (delA c.no A)
  have e : delAV A (c :: l) = delAV (delA c.no A) l := rfl
  have e2 : delAll A.ents (c :: l) = delAll (delA c.no A.ents) l := rfl
  rw [e, e2, ih]
  congr 1
  exact (delA_map SV.s).symm
theorem delAV_sub : ∀ (l : List Chg) (A : AV), (delAV A l).Sublist A
 | [], _ => List.Sublist.refl _
 | c :: l, A => (delAV_sub l (delA c.no A)).trans delA_sub
theorem run_snoc (n : Nat) : ∀ (l : List Chg) (z : ApS) (c : Chg), z.run n (l ++ [c]) = (z.run n l).bind fun z => z.step n c
 | [], z, c => by simp [ApS.run]
 | x :: l, z, c => by
  simp only [List.cons_append, ApS.run]
  cases z.step n x with
  | none => rfl
  | some z2 => exact run_snoc n l z2 c
theorem run_none (n : Nat) : ∀ (l m : List Chg) (z : ApS), z.run n l = none → z.run n (l ++ m) = none
 | [], _, _, h => by cases h
 | x :: l, m, z, h => by
  simp only [List.cons_append, ApS.run] at h ⊢
  cases hs : z.step n x with
  | none => rfl
  | some z2 =>
   rw [hs] at h
   exact run_none n l m z2 h
structure ApZ where
 i : Nat
 A : AV
 fa : Option Addr
 fc : Nat
 fl : List Int
 aw : Option Addr
 cw : Nat
 ws : List Wr
 X : List RowD
structure ApI (A0 : AV) (n nb : Nat) (cl : List Chg) (z : ApZ) : Prop where
 hi : z.i ≤ cl.length
 run : (ApS.start A0.ents nb cl).run n (cl.take z.i) = some ⟨z.A.ents, z.fl, z.ws.map Wr.data⟩
 fX : (z.fa, ints .i64 z.fl) ∈ z.X
 fcap : z.fl.length ≤ z.fc
 wcap : z.ws.length ≤ z.cw
 wX : ∀ v ∈ z.ws, (v.x.a, bv v.x.s) ∈ z.X
 aX : ∀ x ∈ z.A, x ∈ A0 ∨ ((x.2.da, bv x.2.s.nd.data) ∈ z.X ∧ (x.2.ba, ints .i64 x.2.s.blocks) ∈ z.X)
 wl : z.ws.length ≤ 9 * z.i
 flow : ∀ b ∈ z.fl, 0 ≤ b ∧ b < nb
theorem Yl_minI {P : Program} {o : Oper} {σ : Env} {w : World} {x y : Operand} {ts : Array TypeId} {a b : Int} (ho : o.op = .call { callee := .builtin .min, args := #[x, y], argTypes := ts }) (hx : ev σ x = some (.int .i64 a)) (hy : ev σ y = some (.int .i64 b)) : Yl P o σ w (.int .i64 (min a b)) := ⟨fun N ds f ha => by
 simp [execOp, ho, resolve, invoke, builtin, ha.eval hx, ha.eval hy, Builtin.min_, Builtin.min2]
 split <;> omega⟩
theorem put_n (t10 : Nat) (aw : Option Addr) (cw : Nat) (ws : List Wr) (no : Int) (ba : Option Addr) (bn bc : Nat) (s : List UInt8) (W : World) (F : Nat → Prop) (hb : Ro W F (bytes ba s)) (hn : s.length = bn) (hcw : ws.length ≤ cw) (hl : ws.length ≤ 1048576)
  (hS : St W F [pts t10 (.cells #[.slice aw ws.length cw] 176), own 178 2 aw cw (ws.flatMap Wr.cells)] W) :
  Calls Tryz.prog 91 #[.int .i64 no, .slice ba bn bc, .pointer (some ⟨t10, 0, none⟩)] W (Ret fun v w => v = .tuple #[] ∧ ∃ aw' cw' q, ws.length + 1 ≤ cw' ∧
   St W F [pts t10 (.cells #[.slice aw' (ws.length + 1) cw'] 176), own 178 2 aw' cw' ((ws ++ [putW no q s]).flatMap Wr.cells), bytes (some ⟨q, 0, none⟩) (fullB s)] w) := by
 subst hn
 exact put_ t10 aw cw ws no ba bc s W F hb hcw hl hS
theorem chunk_of (d : List UInt8) (i h : Nat) (hh : h = min (64 * (i + 1)) d.length) : fullB ((d.drop (64 * i)).take (h - 64 * i)) = chunkB d i := by
 unfold chunkB
 congr 1
 subst hh
 by_cases h1 : 64 * (i + 1) ≤ d.length
 ·rw [Nat.min_eq_left h1, show 64 * (i + 1) - 64 * i = 64 by omega]
 ·rw [Nat.min_eq_right (by omega), List.take_of_length_le (by rw [List.length_drop]; exact Nat.le_refl _), List.take_of_length_le (by rw [List.length_drop]; omega)]
theorem blockW_take {n : Nat} {bs : List Int} {d : List UInt8} {i : Nat} {b : Int} (h : bs[i]? = some b) : (blockW n bs d).take (i + 1) = (blockW n bs d).take i ++ [(1 + (n : Int) + b, chunkB d i)] := by
 have hi := (List.getElem?_eq_some_iff.1 h).1
 rw [List.take_add_one]
 congr 1
 unfold blockW
 rw [List.getElem?_map, List.getElem?_range hi]
 simp [List.getD_eq_getElem?_getD, h]
theorem row_take {a : Option Addr} {cs : List Value} (k : Nat) : ∀ h, row a cs h → ∃ h', row a (cs.take k) h' ∧ ∀ b o, h' b = some o → h b = some o := fun h hh => by
 have := row_sub (a := a) (cs := cs) (cs' := cs.take k) (l := 0) (e := 1) (c := 1) (fun j v hv => by
  rw [List.getElem?_take] at hv
  split at hv
  ·simpa using hv
  ·cases hv) (by omega) h hh
 rwa [sub_zero] at this
theorem row_drop {a : Option Addr} {cs : List Value} {k c : Nat} (hc : cs.length ≤ c) (hk : k ≤ cs.length) : ∀ h, row a cs h → ∃ h', row (sub a k 1 c) (cs.drop k) h' ∧ ∀ b o, h' b = some o → h b = some o :=
 row_sub (fun j v hv => by rw [List.getElem?_drop] at hv; rw [Nat.mul_one]; exact hv) (fun e => List.drop_eq_nil_of_le (by omega))
theorem mem_setA {β : Type} {k : Int} {v : β} {y : Int × β} : ∀ {A : List (Int × β)}, y ∈ setA k v A → y = (k, v) ∨ y ∈ A
 | [], h => by simp [setA] at h; exact .inl h
 | x :: A, h => by
  unfold setA at h
  split at h
  ·rcases List.mem_cons.1 h with h | h
   ·exact .inl h
   ·exact .inr (List.mem_cons_of_mem _ h)
  ·rcases List.mem_cons.1 h with h | h
   ·exact .inr (h ▸ List.mem_cons_self ..)
   ·exact (mem_setA h).imp id (List.mem_cons_of_mem _)
theorem fullB_64 {s : List UInt8} (h : s.length = 64) : fullB s = s := by rw [fullB_eq (by omega), h]; simp
structure BlI (n : Nat) (bs : List Int) (d : List UInt8) (ws : List Wr) (X : List RowD) (i cw' : Nat) (ws' : List Wr) (X' : List RowD) : Prop where
 data : ws'.map Wr.data = ws.map Wr.data ++ (blockW n bs d).take i
 cap : ws'.length ≤ cw'
 wX : ∀ v ∈ ws', (v.x.a, bv v.x.s) ∈ X'
 sub : ∀ r ∈ X, r ∈ X'
theorem BlI.len {n : Nat} {bs : List Int} {d : List UInt8} {ws : List Wr} {X : List RowD} {i cw' : Nat} {ws' : List Wr} {X' : List RowD} (h : BlI n bs d ws X i cw' ws' X') (hi : i ≤ bs.length) : ws'.length = ws.length + i := by
 have := congrArg List.length h.data
 simp only [List.length_map, List.length_append, List.length_take, blockW, List.length_range] at this
 omega
section
variable {rd fs : List Int} {tp lp p j m n nb : Nat} {T : Tb}
theorem qlog_up {dat : List (List UInt8)} : ∀ h, qlog lp p j m dat h → qlog lp p j (m + 1) dat h := fun h ⟨D, done, hq, hs⟩ => ⟨D, done, ⟨hq.q, hq.line, hq.d0, by have := hq.dm; omega, hq.jl, hq.at_⟩, hs⟩
theorem itab_up : ∀ h, itab rd fs tp lp p j m n nb T h → itab rd fs tp lp p j (m + 1) n nb T h := fun _ ⟨r, A, dat, hok, hs⟩ =>
 ⟨r, A, dat, hok, Sep.mono_tail (fun _ h => Sep.mono_tail (fun _ h => Sep.mono_tail (fun _ h => Sep.mono_head qlog_up h) h) h) hs⟩
theorem apply_ (a : Option Addr) (c : Nat) (l : List ChgA) (W : World) (F : Nat → Prop) (hG : Gl W F rd fs) (hC : Chgs W F a l) (hl : l.length ≤ 1000) (hlc : l.length ≤ c) (hm : (m : Int) < last) (hS : St W F [itab rd fs tp lp p j m n nb T] W) :
  Calls Tryz.prog 42 #[.pointer (some ⟨tp, 0, none⟩), .slice a l.length c] W (Ret fun v w => v = .int .i64 (applyT T nb (j / 2) (l.map ChgA.c)).1 ∧ St W F [itab rd fs tp lp p j (m + 1) n nb (applyT T nb (j / 2) (l.map ChgA.c)).2] w) := by
 obtain ⟨r, A, dat, hok, hS⟩ := hS.openItab
 have hE := hok.enc
 have htl := hok.tlen
 have hn4 := hok.n4
 obtain ⟨cl, hcl⟩ : ∃ cl, cl = l.map ChgA.c := ⟨_, rfl⟩
 have hcll : cl.length = l.length := by rw [hcl]; simp
 have hget : ∀ {i : Nat} {x : ChgA}, l[i]? = some x → cl[i]? = some x.c := fun {i x} h => by rw [hcl]; simp [h]
 rw [← hcl]
 obtain ⟨F2, hS2, hro, hw, hbk⟩ := hS.call []
 clear hS
 have hS := hS2
 clear hS2
 have hTo := hro (tabAt tp lp n r) (by simp)
 have hmo := hro (mapq (Value.int .i64) r A.vals) (by simp)
 have hbo := hro (bag A.rows) (by simp)
 have hqo := hro (qlog lp p j m dat) (by simp)
 have hC2 := hC.mono hw
 have hG2 := hG.mono hw
 have hql := (qlen (hqo.rd hS)).1
 have hdl := hE.len
 have hc := hTo
 have hC0 : ∀ w rs, St W F2 rs w → Chgs w noF a l := fun w rs h => ⟨(hC2.row.rd h).ro, fun x hx => ((hC2.all x hx).rd h).ro⟩
 have hck := fun w rs (h : St W F2 rs w) => check_c tp lp n r a c l w (hTo.rd h) (hC0 w rs h) (by omega) hlc (by omega)
 rw [← hcl] at hck
 by_cases h0 : checkC cl n = 0
 ·have hR := right_of h0
  have hap : applyT T nb (j / 2) cl = putT T nb (j / 2) cl := by unfold applyT; rw [htl, if_neg (by simp [h0])]
  rw [hap]
  rw [h0] at hck
  have hlaw := apply_law hE hR
  rw [hok.tab] at hlaw
  refine calls_C Tryz.func42 rfl Tryz.ntmps42 rfl ?_
  repeat (first | (refine G_id ?_; first | refine G_nil ?_ | refine G_plain rfl rfl ?_) | (refine X_id ?_; first | refine X_yl (Yl_move rfl rfl) rfl rfl ?_ | refine X_yl (Yl_assign rfl rfl) rfl rfl ?_ | refine X_yl (Yl_eqlNil_some rfl rfl rfl) rfl rfl ?_) | (refine C_id ?_; first | refine C_seq ?_ | refine C_region ?_ | refine C_skip ?_ | refine C_cond_f rfl ?_) | (refine E_id ?_; first | refine E_code ?_))
  refine X_callq _ rfl rfl rfl rfl rfl hS (hck _ _ hS) ?_
  rintro _ w rfl hS
  repeat (first | (refine G_id ?_; first | refine G_nil ?_ | refine G_plain rfl rfl ?_) | (refine X_id ?_; first | refine X_yl (Yl_move rfl rfl) rfl rfl ?_ | refine X_yl (Yl_assign rfl rfl) rfl rfl ?_ | refine X_yl (Yl_nilCheck rfl rfl) rfl rfl ?_ | refine X_yl (Yl_fieldAddr0 rfl rfl rfl) rfl rfl ?_ | refine X_yl (Yl_neq_f rfl rfl rfl (by omega)) rfl rfl ?_ | refine X_yl (Yl_load rfl rfl (cell_at (hc.rd hS).pts)) rfl rfl ?_) | (refine C_id ?_; first | refine C_seq ?_ | refine C_region ?_ | refine C_skip ?_ | refine C_cond_f rfl ?_) | (refine E_id ?_; first | refine E_code ?_))
  refine X_callg _ rfl rfl rfl rfl rfl (mclone_ r A.vals _ (hmo.rd hS)) ?_
  rintro _ w ⟨r2, rfl, hS'⟩
  replace hS := hS.plus hS'
  clear hS'
  repeat (first | (refine G_id ?_; first | refine G_nil ?_ | refine G_plain rfl rfl ?_) | (refine X_id ?_; first | refine X_yl (Yl_move rfl rfl) rfl rfl ?_ | refine X_yl (Yl_assign rfl rfl) rfl rfl ?_ | refine X_yl (Yl_len rfl rfl) rfl rfl ?_) | (refine C_id ?_; first | refine C_seq ?_ | refine C_region ?_ | refine C_block ?_) | (refine E_id ?_; first | refine E_code ?_))
  refine C_joinB (α := Unit) (fun _ => [(0, .pointer (some ⟨tp, 0, none⟩)), (1, .slice a l.length c), (6, .map (some r2))]) (fun _ w => St W F2 [mapq (Value.int .i64) r2 (AV.vals (delAV A cl))] w) ?_ ?_
  ·refine C_loop (α := Nat) (fun i => [(0, .pointer (some ⟨tp, 0, none⟩)), (1, .slice a l.length c), (6, .map (some r2)), (32, .slice a l.length c), (33, .int .i64 (l.length : Nat)), (34, .int .i64 (i : Nat))])
    (fun i w => i ≤ l.length ∧ St W F2 [mapq (Value.int .i64) r2 (AV.vals (delAV A (cl.take i)))] w) (fun i => l.length - i) 0 ⟨rfl, rfl, rfl, rfl, rfl, rfl, trivial⟩ ⟨Nat.zero_le _, hS⟩ ?_
   clear hS
   rintro i w ⟨hi, hS⟩
   by_cases hlt : i < l.length
   ·have hx0 : l[i]? = some l[i] := List.getElem?_eq_getElem (by omega)
    generalize l[i] = x at hx0
    have hr := hC2.row
    have hxs : ((l.flatMap ChgA.cells).drop (i * 7)).take 7 = [.int .i64 x.c.no, .int .i64 x.c.nd.st.kind, .int .i64 x.c.nd.st.mode, .int .i64 x.c.nd.st.owner, .int .i64 x.c.nd.st.group, .slice x.a x.c.nd.data.length x.k, .bool x.c.drop] := chg_seg hx0
    obtain ⟨xb, xo, hxa⟩ := (hr.rd hS).base (by intro e; rw [e] at hxs; simp at hxs)
    rw [hxa] at hr ⊢
    repeat (first | (refine G_id ?_; first | refine G_nil ?_ | refine G_plain rfl rfl ?_) | (refine X_id ?_; first | refine X_yl (Yl_move rfl rfl) rfl rfl ?_ | refine X_yl (Yl_fieldAddr0 rfl rfl rfl) rfl rfl ?_ | refine X_yl (Yl_lss_t rfl rfl rfl (by omega)) rfl rfl ?_ | refine X_yl (Yl_indexAddr rfl rfl rfl (by omega) (by omega) (by first | assumption | exact ⟨_, _, rfl⟩)) rfl rfl ?_ | refine X_yl (Yl_load rfl rfl hS.cell) rfl rfl ?_ | refine X_yl (Yl_loadN rfl rfl ((hr.rd hS).cellsX (by omega) hxs rfl)) rfl rfl ?_ | refine X_store rfl rfl rfl rfl hS (fun _ hS _ => ?_) | refine X_alloc rfl rfl rfl hS (fun _ _ hS _ => ?_)) | (refine C_id ?_; first | refine C_seq ?_ | refine C_region ?_ | refine C_block ?_ | refine C_skip ?_ | refine C_cond_t rfl ?_) | (refine E_id ?_; first | refine E_code ?_))
    have hS := hS.pick [1, 0]
    refine X_mapDelete0 (mk := Value.int .i64) (k := x.c.no) rfl rfl rfl rfl hS (fun w hS => ?_)
    repeat (first | (refine G_id ?_; first | refine G_nil ?_ | refine G_plain rfl rfl ?_) | (refine X_id ?_; first | refine X_yl (Yl_move rfl rfl) rfl rfl ?_ | refine X_yl (Yl_add rfl rfl rfl (w64 (by omega) (by omega))) rfl rfl ?_) | (refine C_id ?_; first | refine C_region ?_) | (refine E_id ?_; first | refine E_code ?_ | refine E_blk_n ?_))
    refine E_round (i + 1) ⟨rfl, rfl, rfl, rfl, rfl, rfl, trivial⟩ ⟨by omega, ?_⟩ (by omega)
    rw [delAV_snoc (hget hx0), ← delM_A]
    exact hS.pick [0]
   ·obtain rfl : i = l.length := by omega
    rw [List.take_of_length_le (by omega)] at hS
    repeat (first | (refine G_id ?_; first | refine G_nil ?_ | refine G_plain rfl rfl ?_) | (refine X_id ?_; first | refine X_yl (Yl_lss_f rfl rfl rfl (by omega)) rfl rfl ?_) | (refine C_id ?_; first | refine C_seq ?_ | refine C_region ?_ | refine C_exit ?_ | refine C_cond_f rfl ?_) | (refine E_id ?_; first | refine E_code ?_ | refine E_then_exit ?_ | refine E_blk_same ?_))
    exact E_mid () ⟨rfl, rfl, rfl, trivial⟩ hS
  clear hS
  rintro _ w hS
  have hsub := delAV_sub cl A
  have hents := delAV_ents cl A
  repeat (first | (refine G_id ?_; first | refine G_plain rfl rfl ?_) | (refine X_id ?_; first | refine X_yl (Yl_move rfl rfl) rfl rfl ?_) | (refine C_id ?_; first | refine C_seq ?_ | refine C_region ?_))
  refine X_callg _ rfl rfl rfl rfl rfl (free_ tp lp n r r2 p j m nb (delAV A cl) dat _ (hTo.rd hS) (hqo.rd hS) hE.len (hS.rd (List.mem_cons_self ..)) (fun x hx => (hbo.rd hS).bag (AV.row_b (hsub.mem hx))) (fun x hx => by
   have h1 := (hE.ok _ (AV.mem_ents (hsub.mem hx))).cnt
   have h2 := nblk_le (hE.ok _ (AV.mem_ents (hsub.mem hx))).len
   simp only at h1 h2
   omega) ((by rw [← keys_ents]; exact hE.nodup : (keysA A).Nodup).sublist (hsub.map _))) ?_
  rintro _ w ⟨fa, fc, rfl, hfc, hS'⟩
  replace hS := (hS.plus hS').toBag own_to_row
  clear hS'
  repeat (first | (refine G_id ?_; first | refine G_nil ?_ | refine G_plain rfl rfl ?_) | (refine X_id ?_; first | refine X_yl (Yl_move rfl rfl) rfl rfl ?_ | refine X_yl (Yl_assign rfl rfl) rfl rfl ?_ | refine X_yl (Yl_len rfl rfl) rfl rfl ?_ | refine X_yl (Yl_makeFunc rfl rfl rfl) rfl rfl ?_ | refine X_alloc rfl rfl rfl hS (fun _ _ hS _ => ?_)) | (refine C_id ?_; first | refine C_seq ?_ | refine C_region ?_ | refine C_block ?_) | (refine E_id ?_; first | refine E_code ?_))
  rename_i t10 _ _
  have hS := hS.own_none 178 2 none
  have hS := hS.pick [1, 0, 0, 0]
  obtain ⟨z0, hz0⟩ : ∃ z0 : ApZ, z0 = ⟨0, delAV A cl, fa, fc, freeL (AV.ents (delAV A cl)) nb, none, 0, [], [(fa, ints .i64 (freeL (AV.ents (delAV A cl)) nb))]⟩ := ⟨_, rfl⟩
  have hI0 : ApI A n nb cl z0 := by
   subst hz0
   refine ⟨Nat.zero_le _, ?_, List.mem_singleton.2 rfl, hfc, Nat.le_refl _, fun v hv => (by cases hv), fun x hx => .inl (hsub.mem hx), Nat.le_refl _, fun b hb => (freeL_mem.1 hb).1⟩
   simp only [List.take_zero, ApS.run, ApS.start, hents]
   rfl
  have hbound : ∀ z, ApI A n nb cl z → z.ws.length ≤ 9000 := fun z hz => by have h1 := hz.wl; have h2 := hz.hi; omega
  refine C_joinB (α := ApZ) (fun z => [(0, .pointer (some ⟨tp, 0, none⟩)), (6, .map (some r2)), (10, .pointer (some ⟨t10, 0, none⟩))]) (fun z w => (z.i = cl.length ∧ ApI A n nb cl z) ∧ St W F2 [pts t10 (.cells #[.slice z.aw z.ws.length z.cw] 176), own 178 2 z.aw z.cw (z.ws.flatMap Wr.cells), bag z.X, mapq (Value.int .i64) r2 (AV.vals z.A)] w) ?_ ?_
  ·refine C_loop (α := ApZ) (fun z => [(0, .pointer (some ⟨tp, 0, none⟩)), (6, .map (some r2)), (9, .slice z.fa z.fl.length z.fc), (10, .pointer (some ⟨t10, 0, none⟩)), (11, .func (.func 91) #[] #[.pointer (some ⟨t10, 0, none⟩)]), (46, .slice a l.length c), (47, .int .i64 (l.length : Nat)), (48, .int .i64 (z.i : Nat))])
    (fun z w => ApI A n nb cl z ∧ St W F2 [pts t10 (.cells #[.slice z.aw z.ws.length z.cw] 176), own 178 2 z.aw z.cw (z.ws.flatMap Wr.cells), bag z.X, mapq (Value.int .i64) r2 (AV.vals z.A)] w) (fun z => l.length - z.i) z0 (by subst hz0; exact ⟨rfl, rfl, rfl, rfl, rfl, rfl, rfl, rfl, trivial⟩) (by subst hz0; exact ⟨hI0, hS⟩) ?_
   clear hS hI0 hz0
   rintro ⟨i, Az, fa, fc, fl, aw, cw, ws, X⟩ w ⟨hI, hS⟩
   have hwl := hbound _ hI
   have hii := hI.hi
   have hfcap := hI.fcap
   have hwcap := hI.wcap
   simp only at hS hwl hii hfcap hwcap ⊢
   by_cases hlt : i < l.length
   ·have hx0 : l[i]? = some l[i] := List.getElem?_eq_getElem (by omega)
    generalize l[i] = x at hx0
    have hgx := hget hx0
    have hr := hC2.row
    have hxs : ((l.flatMap ChgA.cells).drop (i * 7)).take 7 = [.int .i64 x.c.no, .int .i64 x.c.nd.st.kind, .int .i64 x.c.nd.st.mode, .int .i64 x.c.nd.st.owner, .int .i64 x.c.nd.st.group, .slice x.a x.c.nd.data.length x.k, .bool x.c.drop] := chg_seg hx0
    have hlow := hR.low _ (List.mem_of_getElem? hgx)
    have hrun : (ApS.start A.ents nb cl).run n (cl.take (i + 1)) = ApS.step n ⟨AV.ents Az, fl, ws.map Wr.data⟩ x.c := by
     rw [List.take_add_one, hgx]
     show (ApS.start A.ents nb cl).run n (cl.take i ++ [x.c]) = _
     rw [run_snoc, hI.run]
     rfl
    obtain ⟨xb, xo, hxa⟩ := (hr.rd hS).base (by intro e; rw [e] at hxs; simp at hxs)
    rw [hxa] at hr ⊢
    cases hdp : x.c.drop
    ·rw [hdp] at hxs
     have hokc := hR.ok _ (List.mem_of_getElem? hgx) hdp
     have hb8 := nblk_le hokc.2
     have hokl := hokc.2
     have hdata := hC2.all x (List.mem_of_getElem? hx0)
     by_cases hk : fl.length < nblk x.c.nd.data.length
     ·have hnone : ApS.step n ⟨AV.ents Az, fl, ws.map Wr.data⟩ x.c = none := by unfold ApS.step; rw [if_neg (by simp [hdp]), if_pos hk]
      have hall : (ApS.start A.ents nb cl).run n cl = none := by
       have := run_none n (cl.take (i + 1)) (cl.drop (i + 1)) _ (hrun.trans hnone)
       rwa [List.take_append_drop] at this
      have hbad : (runT T nb cl).2.2 = true := by
       rcases hlaw with ⟨_, h⟩ | ⟨z, h1, _⟩
       ·exact h
       ·rw [hall] at h1; cases h1
      have hp : putT T nb (j / 2) cl = (6, T) := by unfold putT; rw [if_pos hbad]
      rw [hp]
      repeat (first | (refine G_id ?_; first | refine G_nil ?_ | refine G_plain rfl rfl ?_) | (refine X_id ?_; first | (refine X_callg 93 rfl rfl rfl rfl rfl (iblocks_ _ _ (by omega)) ?_; rintro _ _ ⟨rfl, rfl⟩) | refine X_yl (Yl_move rfl rfl) rfl rfl ?_ | refine X_yl (Yl_assign rfl rfl) rfl rfl ?_ | refine X_yl (Yl_fieldAddr0 rfl rfl rfl) rfl rfl ?_ | refine X_yl (Yl_fieldAddr rfl rfl rfl) rfl rfl ?_ | refine X_yl (Yl_len rfl rfl) rfl rfl ?_ | refine X_yl (Yl_lss_t rfl rfl rfl (by omega)) rfl rfl ?_ | refine X_yl (Yl_gtr_t rfl rfl rfl (by omega)) rfl rfl ?_ | refine X_yl (Yl_indexAddr rfl rfl rfl (by omega) (by omega) (by first | assumption | exact ⟨_, _, rfl⟩)) rfl rfl ?_ | refine X_yl (Yl_load rfl rfl hS.cell) rfl rfl ?_ | refine X_yl (Yl_loadN rfl rfl ((hr.rd hS).cellsX (by omega) hxs rfl)) rfl rfl ?_ | refine X_store rfl rfl rfl rfl hS (fun _ hS _ => ?_) | refine X_alloc rfl rfl rfl hS (fun _ _ hS _ => ?_)) | (refine C_id ?_; first | refine C_seq ?_ | refine C_region ?_ | refine C_block ?_ | refine C_ret ?_ | refine C_skip ?_ | refine C_cond_t rfl ?_ | refine C_cond_f rfl ?_) | (refine E_id ?_; first | refine E_code ?_ | refine E_then_ret ?_ | refine E_blk_ret ?_ | refine E_ret1 rfl (Rv_tmp rfl) (Ret.mk ?_)))
      exact ⟨rfl, ((hbk hS.drops).shutItab hok).head itab_up⟩
     ·obtain ⟨bs, hbs⟩ : ∃ bs, bs = fl.take (nblk x.c.nd.data.length) := ⟨_, rfl⟩
      have hbsl : bs.length = nblk x.c.nd.data.length := by rw [hbs, List.length_take]; omega
      have hbfl : bs.length ≤ fl.length := by omega
      have hbst : bs = fl.take bs.length := by rw [hbsl]; exact hbs
      have hstep : ApS.step n ⟨AV.ents Az, fl, ws.map Wr.data⟩ x.c = some ⟨setA x.c.no ⟨x.c.nd, bs⟩ (AV.ents Az), fl.drop bs.length, ws.map Wr.data ++ (blockW n bs x.c.nd.data ++ [(1 + x.c.no, stoB ⟨x.c.nd, bs⟩)])⟩ := by
       unfold ApS.step
       rw [if_neg (by simp [hdp]), if_neg hk, ← hbs, ← hbsl]
      have hib : ∀ w, Calls Tryz.prog 93 #[.int .i64 (x.c.nd.data.length : Nat)] w (Ret fun v w' => v = .int .i64 (bs.length : Nat) ∧ w = w') := fun w => by rw [hbsl]; exact iblocks_ _ _ (by omega)
      repeat (first | (refine G_id ?_; first | refine G_nil ?_ | refine G_plain rfl rfl ?_) | (refine X_id ?_; first | (refine X_callg 93 rfl rfl rfl rfl rfl (hib _) ?_; rintro _ _ ⟨rfl, rfl⟩) | refine X_yl (Yl_move rfl rfl) rfl rfl ?_ | refine X_yl (Yl_assign rfl rfl) rfl rfl ?_ | refine X_yl (Yl_fieldAddr0 rfl rfl rfl) rfl rfl ?_ | refine X_yl (Yl_fieldAddr rfl rfl rfl) rfl rfl ?_ | refine X_yl (Yl_len rfl rfl) rfl rfl ?_ | refine X_yl (Yl_lss_t rfl rfl rfl (by omega)) rfl rfl ?_ | refine X_yl (Yl_gtr_f rfl rfl rfl (by omega)) rfl rfl ?_ | refine X_yl (Yl_indexAddr rfl rfl rfl (by omega) (by omega) (by first | assumption | exact ⟨_, _, rfl⟩)) rfl rfl ?_ | refine X_yl (Yl_load rfl rfl hS.cell) rfl rfl ?_ | refine X_yl (Yl_loadN rfl rfl ((hr.rd hS).cellsX (by omega) hxs rfl)) rfl rfl ?_ | refine X_store rfl rfl rfl rfl hS (fun _ hS _ => ?_) | refine X_alloc rfl rfl rfl hS (fun _ _ hS _ => ?_)) | (refine C_id ?_; first | refine C_seq ?_ | refine C_region ?_ | refine C_block ?_ | refine C_skip ?_ | refine C_cond_t rfl ?_ | refine C_cond_f rfl ?_) | (refine E_id ?_; first | refine E_code ?_))
      rename_i t13 _ _ _ _ _
      refine C_join (α := Nat × Option Addr × Nat) (fun y => [(0, .pointer (some ⟨tp, 0, none⟩)), (6, .map (some r2)), (9, .slice fa fl.length fc), (10, .pointer (some ⟨t10, 0, none⟩)), (11, .func (.func 91) #[] #[.pointer (some ⟨t10, 0, none⟩)]), (13, .pointer (some ⟨t13, 0, none⟩)), (14, .int .i64 (bs.length : Nat)), (15, .pointer (some ⟨y.1, 0, none⟩)), (46, .slice (some ⟨xb, xo, none⟩) l.length c), (47, .int .i64 (l.length : Nat)), (48, .int .i64 (i : Nat))])
       (fun y w => x.c.nd.data.length ≤ y.2.2 ∧ St W F2 [pts y.1 (.cells (stoV ⟨x.c.nd, bs⟩ y.2.1 y.2.2 fa bs.length).toArray 167), own 5 1 y.2.1 y.2.2 (bv x.c.nd.data), pts t13 (.cells (List.toArray [.int .i64 x.c.no, .int .i64 x.c.nd.st.kind, .int .i64 x.c.nd.st.mode, .int .i64 x.c.nd.st.owner, .int .i64 x.c.nd.st.group, .slice x.a x.c.nd.data.length x.k, .bool false]) 91),
        pts t10 (.cells #[.slice aw ws.length cw] 176), own 178 2 aw cw (ws.flatMap Wr.cells), bag X, mapq (Value.int .i64) r2 (AV.vals Az)] w) ?_ ?_
      ·skip
       refine C_ord (.s 0 (.s 1 (.s 2 (.s 3 (.s 4 (.s 5 (.s 8 (.s 9 (.s 10 (.s 11 (.h 6 (.s 7 (.s 12 (.h 13 (.h 14 .nil .no) .no))) (.h 13 (.h 6 (.s 7 (.s 12 (.h 14 .nil .no))) .no) .no)))))))))))) mixed (by kernel_rfl) rfl ?_
       have hS := hS.drew
       repeat (first | (refine GO_id ?_; first | refine GO_pure rfl rfl (fun _ => Yl_move rfl rfl) rfl rfl ?_ | refine GO_pure rfl rfl (fun _ => Yl_fieldAddr0 rfl rfl rfl) rfl rfl ?_ | refine GO_pure rfl rfl (fun _ => Yl_fieldAddr rfl rfl rfl) rfl rfl ?_ | refine GO_read (fun w' => w'.cell? _ = some _) rfl rfl hS.cell (fun _ hc => Yl_load rfl rfl hc) rfl rfl ?_ | refine GO_read (fun w' => CellsN w' _ _ _) rfl rfl hS.cellsN (fun _ hc => Yl_loadN rfl rfl hc) rfl rfl ?_))
       refine GO_pure rfl rfl (fun _ => Yl_slice3 (l := 0) (h := bs.length) (k := bs.length) rfl rfl rfl rfl rfl ⟨_, _, rfl, by omega, by omega, by omega⟩ ⟨_, _, rfl, by omega, by omega, by omega⟩ (.inl ⟨rfl, rfl⟩)) rfl rfl ?_
       rw [sub_zero, Nat.sub_zero]
       refine GO_alt ?_ ?_
       ·repeat (first | (refine GO_id ?_; first | refine GO_hard rfl rfl ?_))
        refine X_callg _ rfl rfl rfl rfl rfl (bclone_ x.a x.c.nd.data.length x.k x.c.nd.data _ (hdata.rd hS) rfl (by omega)) ?_
        rintro _ w ⟨da, dc, rfl, _, hdc, hS'⟩
        replace hS := hS.plus hS'
        clear hS'
        repeat (first | (refine X_id ?_; first | refine X_store rfl rfl rfl rfl hS (fun _ hS _ => ?_) | refine X_alloc rfl rfl rfl hS (fun _ _ hS _ => ?_)) | (refine GO_id ?_; first | refine GO_nil ?_ | refine GO_pure rfl rfl (fun _ => Yl_build rfl rfl rfl) rfl rfl ?_ | refine GO_hard rfl rfl ?_) | (refine Keep_id ?_; first | refine And.intro (by repeat (first | exact trivial | refine And.intro (.inl (by decide +kernel)) ?_ | refine And.intro (.inr (by first | assumption | exact hS.cell | exact cell_at (by assumption) | exact hS.cellI (by omega) | exact hS.cellIP (by omega) | exact hS.cellsN | exact ((hr.rd hS).cellX (by omega) hx) | exact ((hr2.rd hS).cellX (by omega) hx2) | exact hS.cellB (by omega) | exact hS.cellBA (by omega) | exact (hb.rd hS).cellB' (by omega) | exact (hb2.rd hS).cellB' (by omega) | exact (hg.rd hS).cellI (by omega) | exact (hg2.rd hS).cellI (by omega) | exact ((hr.rd hS).cellF (by first | omega | (dsimp only; omega)) hx) | exact ((hr2.rd hS).cellF (by first | omega | (dsimp only; omega)) hx2) | exact hS.cellO 0 (by omega) | exact hS.cellO 1 (by omega) | exact hS.cellIA (by omega) | exact (hg.rd hS).cellIA (by omega) | exact (hg2.rd hS).cellIA (by omega) | exact cell_at (hc.rd hS).pts | exact hb.rd hS | exact (hr.rd hS).cellsF7 (by first | omega | (dsimp only; omega)) hst4 rfl | exact (hr2.rd hS).cellsF7 (by first | omega | (dsimp only; omega)) hst4 rfl | exact hS.cellO 4 (by omega) | exact hS.cellO 5 (by omega) | exact hS.cellO 6 (by omega) | exact hS.cellO 7 (by omega) | exact hS.cellO 8 (by omega) | exact hS.cellO 9 (by omega) | exact hS.cellO 10 (by omega) | exact hS.cellO 11 (by omega) | exact hS.cellO 12 (by omega) | exact hS.cellO 13 (by omega) | exact hS.cellO 2 (by omega) | exact hS.cellO 3 (by omega))) ?_)) ?_))
        rename_i t15 _ _ _ _ _
        exact E_mid (t15, da, dc) ⟨rfl, rfl, rfl, rfl, rfl, rfl, rfl, rfl, rfl, rfl, rfl, trivial⟩ ⟨hdc, hS.took⟩
       ·repeat (first | (refine X_id ?_; first | refine X_alloc rfl rfl rfl hS (fun _ _ hS _ => ?_)) | (refine GO_id ?_; first | refine GO_hard rfl rfl ?_) | (refine Keep_id ?_; first | refine And.intro (by repeat (first | exact trivial | refine And.intro (.inl (by decide +kernel)) ?_ | refine And.intro (.inr (by first | assumption | exact hS.cell | exact cell_at (by assumption) | exact hS.cellI (by omega) | exact hS.cellIP (by omega) | exact hS.cellsN | exact ((hr.rd hS).cellX (by omega) hx) | exact ((hr2.rd hS).cellX (by omega) hx2) | exact hS.cellB (by omega) | exact hS.cellBA (by omega) | exact (hb.rd hS).cellB' (by omega) | exact (hb2.rd hS).cellB' (by omega) | exact (hg.rd hS).cellI (by omega) | exact (hg2.rd hS).cellI (by omega) | exact ((hr.rd hS).cellF (by first | omega | (dsimp only; omega)) hx) | exact ((hr2.rd hS).cellF (by first | omega | (dsimp only; omega)) hx2) | exact hS.cellO 0 (by omega) | exact hS.cellO 1 (by omega) | exact hS.cellIA (by omega) | exact (hg.rd hS).cellIA (by omega) | exact (hg2.rd hS).cellIA (by omega) | exact cell_at (hc.rd hS).pts | exact hb.rd hS | exact (hr.rd hS).cellsF7 (by first | omega | (dsimp only; omega)) hst4 rfl | exact (hr2.rd hS).cellsF7 (by first | omega | (dsimp only; omega)) hst4 rfl | exact hS.cellO 4 (by omega) | exact hS.cellO 5 (by omega) | exact hS.cellO 6 (by omega) | exact hS.cellO 7 (by omega) | exact hS.cellO 8 (by omega) | exact hS.cellO 9 (by omega) | exact hS.cellO 10 (by omega) | exact hS.cellO 11 (by omega) | exact hS.cellO 12 (by omega) | exact hS.cellO 13 (by omega) | exact hS.cellO 2 (by omega) | exact hS.cellO 3 (by omega))) ?_)) ?_))
        refine X_callg _ rfl rfl rfl rfl rfl (bclone_ x.a x.c.nd.data.length x.k x.c.nd.data _ (hdata.rd hS) rfl (by omega)) ?_
        rintro _ w ⟨da, dc, rfl, _, hdc, hS'⟩
        replace hS := hS.plus hS'
        clear hS'
        repeat (first | (refine X_id ?_; first | refine X_store rfl rfl rfl rfl hS (fun _ hS _ => ?_)) | (refine GO_id ?_; first | refine GO_nil ?_ | refine GO_pure rfl rfl (fun _ => Yl_build rfl rfl rfl) rfl rfl ?_ | refine GO_hard rfl rfl ?_) | (refine Keep_id ?_; first | refine And.intro (by repeat (first | exact trivial | refine And.intro (.inl (by decide +kernel)) ?_ | refine And.intro (.inr (by first | assumption | exact hS.cell | exact cell_at (by assumption) | exact hS.cellI (by omega) | exact hS.cellIP (by omega) | exact hS.cellsN | exact ((hr.rd hS).cellX (by omega) hx) | exact ((hr2.rd hS).cellX (by omega) hx2) | exact hS.cellB (by omega) | exact hS.cellBA (by omega) | exact (hb.rd hS).cellB' (by omega) | exact (hb2.rd hS).cellB' (by omega) | exact (hg.rd hS).cellI (by omega) | exact (hg2.rd hS).cellI (by omega) | exact ((hr.rd hS).cellF (by first | omega | (dsimp only; omega)) hx) | exact ((hr2.rd hS).cellF (by first | omega | (dsimp only; omega)) hx2) | exact hS.cellO 0 (by omega) | exact hS.cellO 1 (by omega) | exact hS.cellIA (by omega) | exact (hg.rd hS).cellIA (by omega) | exact (hg2.rd hS).cellIA (by omega) | exact cell_at (hc.rd hS).pts | exact hb.rd hS | exact (hr.rd hS).cellsF7 (by first | omega | (dsimp only; omega)) hst4 rfl | exact (hr2.rd hS).cellsF7 (by first | omega | (dsimp only; omega)) hst4 rfl | exact hS.cellO 4 (by omega) | exact hS.cellO 5 (by omega) | exact hS.cellO 6 (by omega) | exact hS.cellO 7 (by omega) | exact hS.cellO 8 (by omega) | exact hS.cellO 9 (by omega) | exact hS.cellO 10 (by omega) | exact hS.cellO 11 (by omega) | exact hS.cellO 12 (by omega) | exact hS.cellO 13 (by omega) | exact hS.cellO 2 (by omega) | exact hS.cellO 3 (by omega))) ?_)) ?_))
        rename_i t15 _ _ _ _ _ _
        exact E_mid (t15, da, dc) ⟨rfl, rfl, rfl, rfl, rfl, rfl, rfl, rfl, rfl, rfl, rfl, trivial⟩ ⟨hdc, hS.took⟩
      ·clear hS
       rintro ⟨t15, da, dc⟩ w ⟨hdc, hS⟩
       simp only at hdc hS ⊢
       have hS := (hS.pick [1, 4, 0, 0, 0, 0, 0]).bagAdd own_to_row
       have hS := hS.bagPart (List.mem_cons_of_mem _ hI.fX) (row_take bs.length)
       have hbi : (ints .i64 fl).take bs.length = ints .i64 bs := by rw [hbst]; simp [ints, List.map_take]
       simp only [hbi] at hS
       have hS := hS.bagPart (List.mem_cons_of_mem _ (List.mem_cons_of_mem _ hI.fX)) (row_drop (k := bs.length) (c := fc) (by simp only [ints_length]; exact hfcap) (by simp only [ints_length]; exact hbfl))
       have hfi : (ints .i64 fl).drop bs.length = ints .i64 (fl.drop bs.length) := by simp [ints, List.map_drop]
       simp only [hfi] at hS
       obtain ⟨X2, hX2⟩ : ∃ X2, X2 = (sub fa bs.length 1 fc, ints .i64 (fl.drop bs.length)) :: (fa, ints .i64 bs) :: (da, bv x.c.nd.data) :: X := ⟨_, rfl⟩
       rw [← hX2] at hS
       repeat (first | (refine G_id ?_; first | refine G_plain rfl rfl ?_) | (refine X_id ?_; first | refine X_yl (Yl_move rfl rfl) rfl rfl ?_) | (refine C_id ?_; first | refine C_seq ?_ | refine C_region ?_))
       refine X_yl (Yl_slice (l := bs.length) (h := fl.length) rfl rfl rfl rfl (.inl ⟨rfl, rfl⟩) (.inr ⟨_, _, rfl, by omega, by omega, by omega⟩)) rfl rfl ?_
       repeat (first | (refine G_id ?_; first | refine G_nil ?_ | refine G_plain rfl rfl ?_) | (refine X_id ?_; first | refine X_yl (Yl_move rfl rfl) rfl rfl ?_ | refine X_yl (Yl_assign rfl rfl) rfl rfl ?_ | refine X_yl (Yl_fieldAddr0 rfl rfl rfl) rfl rfl ?_ | refine X_yl (Yl_len rfl rfl) rfl rfl ?_ | refine X_yl (Yl_load rfl rfl hS.cell) rfl rfl ?_) | (refine C_id ?_; first | refine C_seq ?_ | refine C_region ?_ | refine C_block ?_) | (refine E_id ?_; first | refine E_code ?_))
       have hsubX : ∀ y ∈ X, y ∈ X2 := fun y hy => by rw [hX2]; exact List.mem_cons_of_mem _ (List.mem_cons_of_mem _ (List.mem_cons_of_mem _ hy))
       have hX2a : (sub fa bs.length 1 fc, ints .i64 (fl.drop bs.length)) ∈ X2 := by rw [hX2]; exact List.mem_cons_self ..
       have hX2b : (fa, ints .i64 bs) ∈ X2 := by rw [hX2]; exact List.mem_cons_of_mem _ (List.mem_cons_self ..)
       have hX2c : (da, bv x.c.nd.data) ∈ X2 := by rw [hX2]; exact List.mem_cons_of_mem _ (List.mem_cons_of_mem _ (List.mem_cons_self ..))
       refine C_joinB (α := Option Addr × Nat × List Wr × List RowD) (fun _ => [(0, .pointer (some ⟨tp, 0, none⟩)), (6, .map (some r2)), (9, .slice (sub fa bs.length 1 fc) (fl.length - bs.length) (fc - bs.length)), (10, .pointer (some ⟨t10, 0, none⟩)), (11, .func (.func 91) #[] #[.pointer (some ⟨t10, 0, none⟩)]), (13, .pointer (some ⟨t13, 0, none⟩)), (15, .pointer (some ⟨t15, 0, none⟩)), (46, .slice (some ⟨xb, xo, none⟩) l.length c), (47, .int .i64 (l.length : Nat)), (48, .int .i64 (i : Nat))])
        (fun y w => BlI n bs x.c.nd.data ws X2 bs.length y.2.1 y.2.2.1 y.2.2.2 ∧ St W F2 [pts t10 (.cells #[.slice y.1 y.2.2.1.length y.2.1] 176), own 178 2 y.1 y.2.1 (y.2.2.1.flatMap Wr.cells), bag y.2.2.2, pts t15 (.cells (stoV ⟨x.c.nd, bs⟩ da dc fa bs.length).toArray 167), pts t13 (.cells (List.toArray [.int .i64 x.c.no, .int .i64 x.c.nd.st.kind, .int .i64 x.c.nd.st.mode, .int .i64 x.c.nd.st.owner, .int .i64 x.c.nd.st.group, .slice x.a x.c.nd.data.length x.k, .bool false]) 91), mapq (Value.int .i64) r2 (AV.vals Az)] w) ?_ ?_
       ·refine C_loop (α := Nat × Option Addr × Nat × List Wr × List RowD) (fun y => [(0, .pointer (some ⟨tp, 0, none⟩)), (6, .map (some r2)), (9, .slice (sub fa bs.length 1 fc) (fl.length - bs.length) (fc - bs.length)), (10, .pointer (some ⟨t10, 0, none⟩)), (11, .func (.func 91) #[] #[.pointer (some ⟨t10, 0, none⟩)]), (13, .pointer (some ⟨t13, 0, none⟩)), (15, .pointer (some ⟨t15, 0, none⟩)), (46, .slice (some ⟨xb, xo, none⟩) l.length c), (47, .int .i64 (l.length : Nat)), (48, .int .i64 (i : Nat)), (85, .slice fa bs.length bs.length), (86, .int .i64 (bs.length : Nat)), (87, .int .i64 (y.1 : Nat))])
         (fun y w => y.1 ≤ bs.length ∧ BlI n bs x.c.nd.data ws X2 y.1 y.2.2.1 y.2.2.2.1 y.2.2.2.2 ∧ St W F2 [pts t10 (.cells #[.slice y.2.1 y.2.2.2.1.length y.2.2.1] 176), own 178 2 y.2.1 y.2.2.1 (y.2.2.2.1.flatMap Wr.cells), bag y.2.2.2.2, pts t15 (.cells (stoV ⟨x.c.nd, bs⟩ da dc fa bs.length).toArray 167), pts t13 (.cells (List.toArray [.int .i64 x.c.no, .int .i64 x.c.nd.st.kind, .int .i64 x.c.nd.st.mode, .int .i64 x.c.nd.st.owner, .int .i64 x.c.nd.st.group, .slice x.a x.c.nd.data.length x.k, .bool false]) 91), mapq (Value.int .i64) r2 (AV.vals Az)] w)
         (fun y => bs.length - y.1) (0, aw, cw, ws, X2) ⟨rfl, rfl, rfl, rfl, rfl, rfl, rfl, rfl, rfl, rfl, rfl, rfl, rfl, trivial⟩ ⟨Nat.zero_le _, ⟨by simp, hwcap, fun v hv => hsubX _ (hI.wX v hv), fun _ h => h⟩, hS.took⟩ ?_
        clear hS
        rintro ⟨i2, aw2, cw2, ws2, X3⟩ w ⟨hi2, hB, hS⟩
        simp only at hi2 hB hS ⊢
        have hwl2 := hB.len hi2
        have hcap2 := hB.cap
        by_cases hlt2 : i2 < bs.length
        ·have hb0 : bs[i2]? = some bs[i2] := List.getElem?_eq_getElem hlt2
         generalize bs[i2] = b at hb0
         have hblow := hI.flow b (by have := List.mem_of_getElem? hb0; rw [hbst] at this; exact List.mem_of_mem_take this)
         have hxI : (ints .i64 bs)[i2]? = some (.int .i64 b) := by simp [ints, hb0]
         have hbagR : ∀ w rs, St W F2 (pts t10 (.cells #[.slice aw2 ws2.length cw2] 176) :: own 178 2 aw2 cw2 (ws2.flatMap Wr.cells) :: bag X3 :: rs) w → Rd w (row fa (ints .i64 bs)) := fun w rs h => (h.rd (r := bag X3) (by simp)).bag (hB.sub _ hX2b)
         have hfaE : ∃ b off, fa = some ⟨b, off, none⟩ := (hbagR _ _ hS).base (by intro e; rw [e] at hxI; simp at hxI)
         repeat (first | (refine G_id ?_; first | refine G_nil ?_ | refine G_plain rfl rfl ?_) | (refine X_id ?_; first | refine X_yl (Yl_move rfl rfl) rfl rfl ?_ | refine X_yl (Yl_lss_t rfl rfl rfl (by omega)) rfl rfl ?_ | refine X_yl (Yl_indexAddr rfl rfl rfl (by omega) (by omega) (by first | assumption | exact ⟨_, _, rfl⟩)) rfl rfl ?_) | (refine C_id ?_; first | refine C_seq ?_ | refine C_region ?_ | refine C_block ?_ | refine C_skip ?_ | refine C_cond_t rfl ?_) | (refine E_id ?_; first | refine E_code ?_))
         refine X_yl (Yl_load rfl rfl ((hbagR _ _ hS).cellX (by omega) hxI)) rfl rfl ?_
         repeat (first | (refine G_id ?_; first | refine G_nil ?_ | refine G_plain rfl rfl ?_) | (refine X_id ?_; first | refine X_yl (Yl_assign rfl rfl) rfl rfl ?_) | (refine E_id ?_; first | refine E_code ?_))
         refine C_ord (.s 0 (.s 1 (.s 2 (.s 4 (.s 5 (.s 6 (.s 7 (.s 8 (.s 9 (.s 10 (.s 11 (.s 12 (.s 13 (.s 14 (.s 15 (.s 16 (.s 17 (.h 3 (.h 18 .nil .no) .no)))))))))))))))))) mixed (by kernel_rfl) rfl ?_
         have hS := hS.drew
         repeat (first | (refine GO_id ?_; first | refine GO_pure rfl rfl (fun _ => Yl_move rfl rfl) rfl rfl ?_ | refine GO_pure rfl rfl (fun _ => Yl_fieldAddr0 rfl rfl rfl) rfl rfl ?_ | refine GO_pure rfl rfl (fun _ => Yl_len rfl rfl) rfl rfl ?_ | refine GO_pure rfl rfl (fun _ => Yl_add rfl rfl rfl (w64 (by omega) (by omega))) rfl rfl ?_ | refine GO_pure rfl rfl (fun _ => Yl_mul rfl rfl rfl (w64 (by omega) (by omega))) rfl rfl ?_ | refine GO_read (fun w' => w'.cell? _ = some _) rfl rfl hS.cell (fun _ hc => Yl_load rfl rfl hc) rfl rfl ?_))
         refine GO_pure rfl rfl (fun _ => Yl_minI rfl rfl rfl) rfl rfl ?_
         obtain ⟨hN, hhN⟩ : ∃ hN : Nat, hN = min (64 * (i2 + 1)) x.c.nd.data.length := ⟨_, rfl⟩
         have hmin : min (64 * ((i2 : Int) + 1)) (x.c.nd.data.length : Nat) = (hN : Nat) := by omega
         rw [hmin]
         have hnb : 64 * i2 ≤ hN := by
          have : 64 * i2 < x.c.nd.data.length := by rw [hbsl] at hlt2; unfold nblk at hlt2; omega
          omega
         refine GO_pure rfl rfl (fun _ => Yl_slice (l := 64 * i2) (h := hN) rfl rfl rfl rfl (.inr ⟨_, _, rfl, by omega, by omega, by omega⟩) (.inr ⟨_, _, rfl, by omega, by omega, by omega⟩)) rfl rfl ?_
         repeat (first | (refine X_id ?_; first | (refine X_callg 94 rfl rfl rfl rfl rfl (tblock_ tp lp n r b _ (hTo.rd hS) (by omega) hblow.1 (by omega)) ?_; rintro _ _ ⟨rfl, rfl⟩)) | (refine GO_id ?_; first | refine GO_hard rfl rfl ?_) | (refine Keep_id ?_; first | refine And.intro (by repeat (first | exact trivial | refine And.intro (.inl (by decide +kernel)) ?_ | refine And.intro (.inr (by first | assumption | exact hS.cell | exact cell_at (by assumption) | exact hS.cellI (by omega) | exact hS.cellIP (by omega) | exact hS.cellsN | exact ((hr.rd hS).cellX (by omega) hx) | exact ((hr2.rd hS).cellX (by omega) hx2) | exact hS.cellB (by omega) | exact hS.cellBA (by omega) | exact (hb.rd hS).cellB' (by omega) | exact (hb2.rd hS).cellB' (by omega) | exact (hg.rd hS).cellI (by omega) | exact (hg2.rd hS).cellI (by omega) | exact ((hr.rd hS).cellF (by first | omega | (dsimp only; omega)) hx) | exact ((hr2.rd hS).cellF (by first | omega | (dsimp only; omega)) hx2) | exact hS.cellO 0 (by omega) | exact hS.cellO 1 (by omega) | exact hS.cellIA (by omega) | exact (hg.rd hS).cellIA (by omega) | exact (hg2.rd hS).cellIA (by omega) | exact cell_at (hc.rd hS).pts | exact hb.rd hS | exact (hr.rd hS).cellsF7 (by first | omega | (dsimp only; omega)) hst4 rfl | exact (hr2.rd hS).cellsF7 (by first | omega | (dsimp only; omega)) hst4 rfl | exact hS.cellO 4 (by omega) | exact hS.cellO 5 (by omega) | exact hS.cellO 6 (by omega) | exact hS.cellO 7 (by omega) | exact hS.cellO 8 (by omega) | exact hS.cellO 9 (by omega) | exact hS.cellO 10 (by omega) | exact hS.cellO 11 (by omega) | exact hS.cellO 12 (by omega) | exact hS.cellO 13 (by omega) | exact hS.cellO 2 (by omega) | exact hS.cellO 3 (by omega))) ?_)) ?_))
         obtain ⟨_, hc3, hr3, hw3, hbk3⟩ := hS.call [true, true, false, false, false, false]
         have hdb := ((hr3 (bag X3) (by simp)).bag (hB.sub _ hX2c)).subBytes (l := 64 * i2) (h := hN) (c := dc) (by omega) hnb
         refine X_call (first := []) (captured := [.pointer (some ⟨t10, 0, none⟩)]) rfl rfl rfl rfl rfl (put_n t10 aw2 cw2 ws2 (1 + (n : Int) + b) (sub da (64 * i2) 1 dc) (hN - 64 * i2) (dc - 64 * i2) ((x.c.nd.data.drop (64 * i2)).take (hN - 64 * i2)) _ _ hdb (by rw [List.length_take, List.length_drop]; omega) hcap2 (by omega) hc3) ?_
         rintro _ w ⟨rfl, aw3, cw3, q, hcw3, hS⟩
         replace hS := hbk3 hS
         clear hc3 hr3 hw3 hbk3
         rw [chunk_of _ _ _ hhN] at hS
         repeat (first | (refine G_id ?_; first | refine G_nil ?_ | refine G_plain rfl rfl ?_) | (refine X_id ?_; first | refine X_yl (Yl_move rfl rfl) rfl rfl ?_ | refine X_yl (Yl_add rfl rfl rfl (w64 (by omega) (by omega))) rfl rfl ?_) | (refine C_id ?_; first | refine C_region ?_) | (refine E_id ?_; first | refine E_code ?_ | refine E_blk_n ?_) | (refine GO_id ?_; first | refine GO_nil ?_) | (refine Keep_id ?_; first | refine And.intro (by repeat (first | exact trivial | refine And.intro (.inl (by decide +kernel)) ?_ | refine And.intro (.inr (by first | assumption | exact hS.cell | exact cell_at (by assumption) | exact hS.cellI (by omega) | exact hS.cellIP (by omega) | exact hS.cellsN | exact ((hr.rd hS).cellX (by omega) hx) | exact ((hr2.rd hS).cellX (by omega) hx2) | exact hS.cellB (by omega) | exact hS.cellBA (by omega) | exact (hb.rd hS).cellB' (by omega) | exact (hb2.rd hS).cellB' (by omega) | exact (hg.rd hS).cellI (by omega) | exact (hg2.rd hS).cellI (by omega) | exact ((hr.rd hS).cellF (by first | omega | (dsimp only; omega)) hx) | exact ((hr2.rd hS).cellF (by first | omega | (dsimp only; omega)) hx2) | exact hS.cellO 0 (by omega) | exact hS.cellO 1 (by omega) | exact hS.cellIA (by omega) | exact (hg.rd hS).cellIA (by omega) | exact (hg2.rd hS).cellIA (by omega) | exact cell_at (hc.rd hS).pts | exact hb.rd hS | exact (hr.rd hS).cellsF7 (by first | omega | (dsimp only; omega)) hst4 rfl | exact (hr2.rd hS).cellsF7 (by first | omega | (dsimp only; omega)) hst4 rfl | exact hS.cellO 4 (by omega) | exact hS.cellO 5 (by omega) | exact hS.cellO 6 (by omega) | exact hS.cellO 7 (by omega) | exact hS.cellO 8 (by omega) | exact hS.cellO 9 (by omega) | exact hS.cellO 10 (by omega) | exact hS.cellO 11 (by omega) | exact hS.cellO 12 (by omega) | exact hS.cellO 13 (by omega) | exact hS.cellO 2 (by omega) | exact hS.cellO 3 (by omega))) ?_)) ?_))
         have hS := (hS.pick [2, 2, 0, 0, 0, 0, 0]).bagAdd (fun _ h => h)
         have hS := hS.pick [1, 1, 0, 0, 0, 0]
         refine E_round (α := Nat × Option Addr × Nat × List Wr × List RowD) (z := (i2, aw2, cw2, ws2, X3)) (i2 + 1, aw3, cw3, ws2 ++ [putW (1 + (n : Int) + b) q ((x.c.nd.data.drop (64 * i2)).take (hN - 64 * i2))], (some ⟨q, 0, none⟩, bv (chunkB x.c.nd.data i2)) :: X3) ⟨rfl, rfl, rfl, rfl, rfl, rfl, rfl, rfl, rfl, rfl, rfl, rfl, rfl, trivial⟩ ⟨by simp only; omega, ⟨?_, by simp only [List.length_append, List.length_cons, List.length_nil]; exact hcw3, fun v hv => ?_, fun y hy => List.mem_cons_of_mem _ (hB.sub y hy)⟩, ?_⟩ (by simp only; omega)
         ·simp only
          rw [List.map_append, hB.data, blockW_take hb0, List.append_assoc]
          congr 2
          simp [Wr.data, chunk_of _ _ _ hhN]
         ·rcases List.mem_append.1 hv with hv | hv
          ·exact List.mem_cons_of_mem _ (hB.wX v hv)
          ·rw [List.mem_singleton] at hv
           rw [hv]
           simp only [chunk_of _ _ _ hhN]
           exact List.mem_cons_self ..
         ·simp only [List.length_append, List.length_cons, List.length_nil]
          exact hS
        ·obtain rfl : i2 = bs.length := by omega
         repeat (first | (refine G_id ?_; first | refine G_nil ?_ | refine G_plain rfl rfl ?_) | (refine X_id ?_; first | refine X_yl (Yl_lss_f rfl rfl rfl (by omega)) rfl rfl ?_) | (refine C_id ?_; first | refine C_seq ?_ | refine C_region ?_ | refine C_exit ?_ | refine C_cond_f rfl ?_) | (refine E_id ?_; first | refine E_code ?_ | refine E_then_exit ?_ | refine E_blk_same ?_))
         exact E_mid (aw2, cw2, ws2, X3) ⟨rfl, rfl, rfl, rfl, rfl, rfl, rfl, rfl, rfl, rfl, trivial⟩ ⟨hB, hS⟩
       ·clear hS
        rintro ⟨aw2, cw2, ws2, X3⟩ w ⟨hB, hS⟩
        simp only at hB hS ⊢
        have hwl2 := hB.len (Nat.le_refl _)
        have hcap2 := hB.cap
        repeat (first | (refine C_id ?_; first | refine C_seq ?_))
        refine C_ord (.s 0 (.s 1 (.s 2 (.s 3 (.s 4 (.h 5 (.h 6 .nil .no) .no)))))) mixed (by kernel_rfl) rfl ?_
        have hS := hS.drew
        repeat (first | (refine GO_id ?_; first | refine GO_pure rfl rfl (fun _ => Yl_move rfl rfl) rfl rfl ?_ | refine GO_pure rfl rfl (fun _ => Yl_fieldAddr0 rfl rfl rfl) rfl rfl ?_ | refine GO_pure rfl rfl (fun _ => Yl_add rfl rfl rfl (w64 (by omega) (by omega))) rfl rfl ?_ | refine GO_read (fun w' => w'.cell? _ = some _) rfl rfl hS.cell (fun _ hc => Yl_load rfl rfl hc) rfl rfl ?_ | refine GO_read (fun w' => CellsN w' _ _ _) rfl rfl hS.cellsN (fun _ hc => Yl_loadN rfl rfl hc) rfl rfl ?_ | refine GO_hard rfl rfl ?_))
        refine X_callg _ rfl rfl rfl rfl rfl (sector_ ⟨x.c.nd, bs⟩ da dc fa bs.length _ ((hS.rd (r := bag X3) (by simp)).bag (hB.sub _ hX2b)) (by simp only; omega) (by simp only; omega)) ?_
        rintro _ w ⟨q1, rfl, hS'⟩
        replace hS := hS.plus hS'
        clear hS'
        repeat (first | (refine GO_id ?_; first | refine GO_hard rfl rfl ?_) | (refine Keep_id ?_; first | refine And.intro (by repeat (first | exact trivial | refine And.intro (.inl (by decide +kernel)) ?_ | refine And.intro (.inr (by first | assumption | exact hS.cell | exact cell_at (by assumption) | exact hS.cellI (by omega) | exact hS.cellIP (by omega) | exact hS.cellsN | exact ((hr.rd hS).cellX (by omega) hx) | exact ((hr2.rd hS).cellX (by omega) hx2) | exact hS.cellB (by omega) | exact hS.cellBA (by omega) | exact (hb.rd hS).cellB' (by omega) | exact (hb2.rd hS).cellB' (by omega) | exact (hg.rd hS).cellI (by omega) | exact (hg2.rd hS).cellI (by omega) | exact ((hr.rd hS).cellF (by first | omega | (dsimp only; omega)) hx) | exact ((hr2.rd hS).cellF (by first | omega | (dsimp only; omega)) hx2) | exact hS.cellO 0 (by omega) | exact hS.cellO 1 (by omega) | exact hS.cellIA (by omega) | exact (hg.rd hS).cellIA (by omega) | exact (hg2.rd hS).cellIA (by omega) | exact cell_at (hc.rd hS).pts | exact hb.rd hS | exact (hr.rd hS).cellsF7 (by first | omega | (dsimp only; omega)) hst4 rfl | exact (hr2.rd hS).cellsF7 (by first | omega | (dsimp only; omega)) hst4 rfl | exact hS.cellO 4 (by omega) | exact hS.cellO 5 (by omega) | exact hS.cellO 6 (by omega) | exact hS.cellO 7 (by omega) | exact hS.cellO 8 (by omega) | exact hS.cellO 9 (by omega) | exact hS.cellO 10 (by omega) | exact hS.cellO 11 (by omega) | exact hS.cellO 12 (by omega) | exact hS.cellO 13 (by omega) | exact hS.cellO 2 (by omega) | exact hS.cellO 3 (by omega))) ?_)) ?_))
        obtain ⟨_, hc3, hr3, hw3, hbk3⟩ := hS.call [false, true, true, false, false, false, false]
        refine X_call (first := []) (captured := [.pointer (some ⟨t10, 0, none⟩)]) rfl rfl rfl rfl rfl (put_n t10 aw2 cw2 ws2 (1 + x.c.no) (some ⟨q1, 0, none⟩) 64 64 (stoB ⟨x.c.nd, bs⟩) _ _ (hr3 (bytes (some ⟨q1, 0, none⟩) (stoB ⟨x.c.nd, bs⟩)) (by simp)) (stoB_length _) hcap2 (by omega) hc3) ?_
        rintro _ w ⟨rfl, aw3, cw3, q, hcw3, hS⟩
        replace hS := hbk3 hS
        clear hc3 hr3 hw3 hbk3
        rw [fullB_64 (stoB_length _)] at hS
        have hS := hS.took (out := [mapq (Value.int .i64) r2 (AV.vals Az), bytes (some ⟨q, 0, none⟩) (stoB ⟨x.c.nd, bs⟩), bag X3, pts t10 (.cells #[.slice aw3 (ws2.length + 1) cw3] 176), own 178 2 aw3 cw3 ((ws2 ++ [putW (1 + x.c.no) q (stoB ⟨x.c.nd, bs⟩)]).flatMap Wr.cells), pts t15 (.cells (stoV ⟨x.c.nd, bs⟩ da dc fa bs.length).toArray 167), pts t13 (.cells (List.toArray [.int .i64 x.c.no, .int .i64 x.c.nd.st.kind, .int .i64 x.c.nd.st.mode, .int .i64 x.c.nd.st.owner, .int .i64 x.c.nd.st.group, .slice x.a x.c.nd.data.length x.k, .bool false]) 91)])
        repeat (first | (refine G_id ?_; first | refine G_plain rfl rfl ?_) | (refine X_id ?_; first | refine X_yl (Yl_move rfl rfl) rfl rfl ?_ | refine X_yl (Yl_fieldAddr0 rfl rfl rfl) rfl rfl ?_ | refine X_yl (Yl_load rfl rfl hS.cell) rfl rfl ?_ | refine X_yl (Yl_loadN rfl rfl hS.cellsN) rfl rfl ?_) | (refine C_id ?_; first | refine C_region ?_) | (refine E_id ?_; first | refine E_code ?_) | (refine GO_id ?_; first | refine GO_nil ?_) | (refine Keep_id ?_; first | refine And.intro (by repeat (first | exact trivial | refine And.intro (.inl (by decide +kernel)) ?_ | refine And.intro (.inr (by first | assumption | exact hS.cell | exact cell_at (by assumption) | exact hS.cellI (by omega) | exact hS.cellIP (by omega) | exact hS.cellsN | exact ((hr.rd hS).cellX (by omega) hx) | exact ((hr2.rd hS).cellX (by omega) hx2) | exact hS.cellB (by omega) | exact hS.cellBA (by omega) | exact (hb.rd hS).cellB' (by omega) | exact (hb2.rd hS).cellB' (by omega) | exact (hg.rd hS).cellI (by omega) | exact (hg2.rd hS).cellI (by omega) | exact ((hr.rd hS).cellF (by first | omega | (dsimp only; omega)) hx) | exact ((hr2.rd hS).cellF (by first | omega | (dsimp only; omega)) hx2) | exact hS.cellO 0 (by omega) | exact hS.cellO 1 (by omega) | exact hS.cellIA (by omega) | exact (hg.rd hS).cellIA (by omega) | exact (hg2.rd hS).cellIA (by omega) | exact cell_at (hc.rd hS).pts | exact hb.rd hS | exact (hr.rd hS).cellsF7 (by first | omega | (dsimp only; omega)) hst4 rfl | exact (hr2.rd hS).cellsF7 (by first | omega | (dsimp only; omega)) hst4 rfl | exact hS.cellO 4 (by omega) | exact hS.cellO 5 (by omega) | exact hS.cellO 6 (by omega) | exact hS.cellO 7 (by omega) | exact hS.cellO 8 (by omega) | exact hS.cellO 9 (by omega) | exact hS.cellO 10 (by omega) | exact hS.cellO 11 (by omega) | exact hS.cellO 12 (by omega) | exact hS.cellO 13 (by omega) | exact hS.cellO 2 (by omega) | exact hS.cellO 3 (by omega))) ?_)) ?_))
        refine X_mapUpdateQ (mk := Value.int .i64) (k := x.c.no) (v := SV.val ⟨⟨x.c.nd, bs⟩, da, dc, fa, bs.length⟩) rfl rfl rfl rfl rfl hS (fun w hS => ?_)
        rw [setM_A] at hS
        repeat (first | (refine G_id ?_; first | refine G_nil ?_ | refine G_plain rfl rfl ?_) | (refine X_id ?_; first | refine X_yl (Yl_move rfl rfl) rfl rfl ?_ | refine X_yl (Yl_add rfl rfl rfl (w64 (by omega) (by omega))) rfl rfl ?_) | (refine C_id ?_; first | refine C_region ?_) | (refine E_id ?_; first | refine E_code ?_ | refine E_blk_n ?_))
        have hS := (hS.pick [1, 1, 1, 1, 0]).bagAdd (fun _ h => h)
        have hS := hS.pick [1, 1, 0, 0]
        have hbt : (blockW n bs x.c.nd.data).take bs.length = blockW n bs x.c.nd.data := List.take_of_length_le (by simp [blockW])
        refine E_round (α := ApZ) (z := ⟨i, Az, fa, fc, fl, aw, cw, ws, X⟩) (⟨i + 1, setA x.c.no ⟨⟨x.c.nd, bs⟩, da, dc, fa, bs.length⟩ Az, sub fa bs.length 1 fc, fc - bs.length, fl.drop bs.length, aw3, cw3, ws2 ++ [putW (1 + x.c.no) q (stoB ⟨x.c.nd, bs⟩)], (some ⟨q, 0, none⟩, bv (stoB ⟨x.c.nd, bs⟩)) :: X3⟩ : ApZ) ⟨rfl, rfl, by simp only; rw [List.length_drop]; rfl, rfl, rfl, rfl, rfl, rfl, trivial⟩
         ⟨⟨by simp only; omega, ?_, List.mem_cons_of_mem _ (hB.sub _ hX2a), by simp only [List.length_drop]; omega, by simp only [List.length_append, List.length_cons, List.length_nil]; exact hcw3, fun v hv => ?_, fun y hy => ?_, ?_, fun b hb => hI.flow b (List.mem_of_mem_drop hb)⟩, ?_⟩ (by simp only; omega)
        ·simp only
         rw [hrun, hstep, List.map_append, hB.data, hbt, List.append_assoc, show AV.ents (setA x.c.no (⟨⟨x.c.nd, bs⟩, da, dc, fa, bs.length⟩ : SV) Az) = setA x.c.no ⟨x.c.nd, bs⟩ (AV.ents Az) from (setA_map SV.s).symm]
         have : fullB (stoB ⟨x.c.nd, bs⟩) = stoB ⟨x.c.nd, bs⟩ := fullB_64 (stoB_length _)
         simp [Wr.data, this]
        ·rcases List.mem_append.1 hv with hv | hv
         ·exact List.mem_cons_of_mem _ (hB.wX v hv)
         ·rw [List.mem_singleton] at hv
          rw [hv]
          have : fullB (stoB ⟨x.c.nd, bs⟩) = stoB ⟨x.c.nd, bs⟩ := fullB_64 (stoB_length _)
          simp only [this]
          exact List.mem_cons_self ..
        ·rcases mem_setA hy with rfl | hy
         ·exact .inr ⟨List.mem_cons_of_mem _ (hB.sub _ hX2c), List.mem_cons_of_mem _ (hB.sub _ hX2b)⟩
         ·exact (hI.aX y hy).imp id fun h => ⟨List.mem_cons_of_mem _ (hB.sub _ (hsubX _ h.1)), List.mem_cons_of_mem _ (hB.sub _ (hsubX _ h.2))⟩
        ·have := hI.wl
         simp only [List.length_append, List.length_cons, List.length_nil] at this ⊢
         omega
        ·simp only [List.length_append, List.length_cons, List.length_nil]
         exact hS
    ·rw [hdp] at hxs
     repeat (first | (refine G_id ?_; first | refine G_nil ?_ | refine G_plain rfl rfl ?_) | (refine X_id ?_; first | refine X_yl (Yl_move rfl rfl) rfl rfl ?_ | refine X_yl (Yl_fieldAddr0 rfl rfl rfl) rfl rfl ?_ | refine X_yl (Yl_lss_t rfl rfl rfl (by omega)) rfl rfl ?_ | refine X_yl (Yl_indexAddr rfl rfl rfl (by omega) (by omega) (by first | assumption | exact ⟨_, _, rfl⟩)) rfl rfl ?_ | refine X_yl (Yl_add rfl rfl rfl (w64 (by omega) (by omega))) rfl rfl ?_ | refine X_yl (Yl_load rfl rfl hS.cell) rfl rfl ?_ | refine X_yl (Yl_loadN rfl rfl ((hr.rd hS).cellsX (by omega) hxs rfl)) rfl rfl ?_ | refine X_store rfl rfl rfl rfl hS (fun _ hS _ => ?_) | refine X_alloc rfl rfl rfl hS (fun _ _ hS _ => ?_)) | (refine C_id ?_; first | refine C_seq ?_ | refine C_region ?_ | refine C_block ?_ | refine C_skip ?_ | refine C_cond_t rfl ?_) | (refine E_id ?_; first | refine E_code ?_))
     obtain ⟨_, hc3, hr3, hw3, hbk3⟩ := hS.call [false, true, true, false, false]
     refine X_call (first := []) (captured := [.pointer (some ⟨t10, 0, none⟩)]) rfl rfl rfl rfl rfl (put_n t10 aw cw ws (1 + x.c.no) none 0 0 [] _ _ (Ro_nil _ _ _) rfl hwcap (by omega) hc3) ?_
     rintro _ w ⟨rfl, aw', cw', q, hcw', hS⟩
     replace hS := hbk3 hS
     clear hc3 hr3 hw3 hbk3
     repeat (first | (refine G_id ?_; first | refine G_nil ?_ | refine G_plain rfl rfl ?_) | (refine X_id ?_; first | refine X_yl (Yl_move rfl rfl) rfl rfl ?_ | refine X_yl (Yl_add rfl rfl rfl (w64 (by omega) (by omega))) rfl rfl ?_) | (refine C_id ?_; first | refine C_region ?_ | refine C_exit ?_) | (refine E_id ?_; first | refine E_code ?_ | refine E_then_exit ?_ | refine E_blk_same ?_))
     have hS := (hS.pick [2, 3, 0, 0, 1]).bagAdd (fun _ h => h)
     have hS := hS.pick [1, 1, 0, 0]
     refine E_round (α := ApZ) (z := ⟨i, Az, fa, fc, fl, aw, cw, ws, X⟩) (⟨i + 1, Az, fa, fc, fl, aw', cw', ws ++ [putW (1 + x.c.no) q []], (some ⟨q, 0, none⟩, bv (fullB [])) :: X⟩ : ApZ) ⟨rfl, rfl, rfl, rfl, rfl, rfl, rfl, rfl, trivial⟩ ⟨⟨by simp only; omega, ?_, List.mem_cons_of_mem _ hI.fX, hfcap, by simp only [List.length_append, List.length_cons, List.length_nil]; exact hcw', fun v hv => ?_, fun y hy => (hI.aX y hy).imp id fun h => ⟨List.mem_cons_of_mem _ h.1, List.mem_cons_of_mem _ h.2⟩, ?_, hI.flow⟩, ?_⟩ (by simp only; omega)
     ·simp only
      rw [hrun]
      unfold ApS.step
      rw [if_pos hdp]
      have : fullB [] = zero64 := by simp [fullB, zero64]
      simp [Wr.data, this]
     ·rcases List.mem_append.1 hv with hv | hv
      ·exact List.mem_cons_of_mem _ (hI.wX v hv)
      ·rw [List.mem_singleton] at hv; rw [hv]; exact List.mem_cons_self ..
     ·have := hI.wl
      simp only [List.length_append, List.length_cons, List.length_nil] at this ⊢
      omega
     ·simp only [List.length_append, List.length_cons, List.length_nil]
      exact hS
   ·obtain rfl : i = l.length := by omega
    repeat (first | (refine G_id ?_; first | refine G_nil ?_ | refine G_plain rfl rfl ?_) | (refine X_id ?_; first | refine X_yl (Yl_lss_f rfl rfl rfl (by omega)) rfl rfl ?_) | (refine C_id ?_; first | refine C_seq ?_ | refine C_region ?_ | refine C_exit ?_ | refine C_cond_f rfl ?_) | (refine E_id ?_; first | refine E_code ?_ | refine E_then_exit ?_ | refine E_blk_same ?_))
    exact E_mid (⟨l.length, Az, fa, fc, fl, aw, cw, ws, X⟩ : ApZ) ⟨rfl, rfl, rfl, trivial⟩ ⟨⟨hcll.symm, hI⟩, hS⟩
  ·clear hS hI0 hz0
   rintro ⟨i, Az, fa, fc, fl, aw, cw, ws, X⟩ w ⟨⟨hi, hI⟩, hS⟩
   have hwl := hbound _ hI
   have hwcap := hI.wcap
   have hrun := hI.run
   simp only at hi hS hwl hwcap hrun ⊢
   rw [hi, List.take_length] at hrun
   rcases hlaw with ⟨h1, _⟩ | ⟨z', h1, h2, h3, h4, h5⟩
   ·rw [hrun] at h1; cases h1
   ·obtain rfl : z' = ⟨AV.ents Az, fl, ws.map Wr.data⟩ := by rw [hrun] at h1; exact (Option.some.inj h1).symm
    simp only at h2 h3 h4 h5
    have hnl : (ws.map Wr.data).length = ws.length := by simp
    rw [hnl] at h2
    repeat (first | (refine C_id ?_; first | refine C_seq ?_))
    refine C_ord (.s 0 (.s 1 (.s 2 (.s 3 (.s 4 (.h 5 (.s 6 .nil) .no)))))) mixed (by kernel_rfl) rfl ?_
    have hS := hS.drew
    repeat (first | (refine GO_id ?_; first | refine GO_pure rfl rfl (fun _ => Yl_move rfl rfl) rfl rfl ?_ | refine GO_pure rfl rfl (fun _ => Yl_nilCheck rfl rfl) rfl rfl ?_ | refine GO_pure rfl rfl (fun _ => Yl_fieldAddr0 rfl rfl rfl) rfl rfl ?_ | refine GO_read (fun w' => w'.cell? _ = some _) rfl rfl hS.cell (fun _ hc => Yl_load rfl rfl hc) rfl rfl ?_ | refine GO_hard rfl rfl ?_ | refine GO_read (fun w' => w'.cell? _ = some _) rfl rfl (cell_at (hc.rd hS).pts) (fun _ hc => Yl_load rfl rfl hc) rfl rfl ?_))
    replace hS := hbk hS
    obtain ⟨_, hc4, hr4, hw4, hbk4⟩ := hS.call [false, false, false, false, false, false, false, true]
    refine X_callg _ rfl rfl rfl rfl rfl (qcommit_ lp p j m dat aw cw ws rd fs _ _ (hG.mono hw4) ⟨(hr4 (own 178 2 aw cw (ws.flatMap Wr.cells)) (by simp)).own_row, fun v hv => (hr4 (bag X) (by simp)).bag (hI.wX v hv)⟩ (by omega) hm h4 (by rw [hE.len]; exact h5) hc4) ?_
    rintro _ w (⟨hfull, rfl, hS⟩ | ⟨hfit, rfl, hS⟩)
    ·replace hS := hbk4 hS
     clear hc4 hr4 hw4 hbk4
     have hp : putT T nb (j / 2) cl = (6, T) := by unfold putT; rw [h2, if_neg (by simp), if_pos hfull]
     rw [hp]
     repeat (first | (refine G_id ?_; first | refine G_nil ?_ | refine G_plain rfl rfl ?_) | (refine X_id ?_; first | refine X_yl (Yl_move rfl rfl) rfl rfl ?_ | refine X_yl (Yl_assign rfl rfl) rfl rfl ?_ | refine X_yl (Yl_neq_t rfl rfl rfl (by omega)) rfl rfl ?_) | (refine C_id ?_; first | refine C_seq ?_ | refine C_region ?_ | refine C_ret ?_ | refine C_cond_t rfl ?_) | (refine E_id ?_; first | refine E_code ?_ | refine E_then_ret ?_ | refine E_ret1 rfl (Rv_tmp rfl) (Ret.mk ?_)) | (refine GO_id ?_; first | refine GO_nil ?_ | refine GO_pure rfl rfl (fun _ => Yl_assign rfl rfl) rfl rfl ?_) | (refine Keep_id ?_; first | refine And.intro (by repeat (first | exact trivial | refine And.intro (.inl (by decide +kernel)) ?_ | refine And.intro (.inr (by first | assumption | exact hS.cell | exact cell_at (by assumption) | exact hS.cellI (by omega) | exact hS.cellIP (by omega) | exact hS.cellsN | exact ((hr.rd hS).cellX (by omega) hx) | exact ((hr2.rd hS).cellX (by omega) hx2) | exact hS.cellB (by omega) | exact hS.cellBA (by omega) | exact (hb.rd hS).cellB' (by omega) | exact (hb2.rd hS).cellB' (by omega) | exact (hg.rd hS).cellI (by omega) | exact (hg2.rd hS).cellI (by omega) | exact ((hr.rd hS).cellF (by first | omega | (dsimp only; omega)) hx) | exact ((hr2.rd hS).cellF (by first | omega | (dsimp only; omega)) hx2) | exact hS.cellO 0 (by omega) | exact hS.cellO 1 (by omega) | exact hS.cellIA (by omega) | exact (hg.rd hS).cellIA (by omega) | exact (hg2.rd hS).cellIA (by omega) | exact cell_at (hc.rd hS).pts | exact hb.rd hS | exact (hr.rd hS).cellsF7 (by first | omega | (dsimp only; omega)) hst4 rfl | exact (hr2.rd hS).cellsF7 (by first | omega | (dsimp only; omega)) hst4 rfl | exact hS.cellO 4 (by omega) | exact hS.cellO 5 (by omega) | exact hS.cellO 6 (by omega) | exact hS.cellO 7 (by omega) | exact hS.cellO 8 (by omega) | exact hS.cellO 9 (by omega) | exact hS.cellO 10 (by omega) | exact hS.cellO 11 (by omega) | exact hS.cellO 12 (by omega) | exact hS.cellO 13 (by omega) | exact hS.cellO 2 (by omega) | exact hS.cellO 3 (by omega))) ?_)) ?_))
     have h := hS.took (out := [tabAt tp lp n r, mapq (Value.int .i64) r A.vals, bag A.rows, qlog lp p j m dat])
     exact ⟨rfl, (h.shutItab hok).head itab_up⟩
    ·replace hS := hbk4 hS
     clear hc4 hr4 hw4 hbk4
     have hp : putT T nb (j / 2) cl = (0, tabOf (AV.ents Az) n) := by unfold putT; rw [h2, if_neg (by simp), if_neg (by simp only; omega)]
     rw [hp]
     repeat (first | (refine G_id ?_; first | refine G_nil ?_ | refine G_plain rfl rfl ?_) | (refine X_id ?_; first | refine X_yl (Yl_move rfl rfl) rfl rfl ?_ | refine X_yl (Yl_assign rfl rfl) rfl rfl ?_ | refine X_yl (Yl_nilCheck rfl rfl) rfl rfl ?_ | refine X_yl (Yl_fieldAddr0 rfl rfl rfl) rfl rfl ?_ | refine X_yl (Yl_neq_f rfl rfl rfl (by omega)) rfl rfl ?_ | refine X_store rfl rfl rfl rfl hS (fun _ hS _ => ?_)) | (refine C_id ?_; first | refine C_seq ?_ | refine C_region ?_ | refine C_ret ?_ | refine C_skip ?_ | refine C_cond_f rfl ?_) | (refine E_id ?_; first | refine E_code ?_ | refine E_ret1 rfl (Rv_tmp rfl) (Ret.mk ?_)) | (refine GO_id ?_; first | refine GO_nil ?_ | refine GO_pure rfl rfl (fun _ => Yl_assign rfl rfl) rfl rfl ?_) | (refine Keep_id ?_; first | refine And.intro (by repeat (first | exact trivial | refine And.intro (.inl (by decide +kernel)) ?_ | refine And.intro (.inr (by first | assumption | exact hS.cell | exact cell_at (by assumption) | exact hS.cellI (by omega) | exact hS.cellIP (by omega) | exact hS.cellsN | exact ((hr.rd hS).cellX (by omega) hx) | exact ((hr2.rd hS).cellX (by omega) hx2) | exact hS.cellB (by omega) | exact hS.cellBA (by omega) | exact (hb.rd hS).cellB' (by omega) | exact (hb2.rd hS).cellB' (by omega) | exact (hg.rd hS).cellI (by omega) | exact (hg2.rd hS).cellI (by omega) | exact ((hr.rd hS).cellF (by first | omega | (dsimp only; omega)) hx) | exact ((hr2.rd hS).cellF (by first | omega | (dsimp only; omega)) hx2) | exact hS.cellO 0 (by omega) | exact hS.cellO 1 (by omega) | exact hS.cellIA (by omega) | exact (hg.rd hS).cellIA (by omega) | exact (hg2.rd hS).cellIA (by omega) | exact cell_at (hc.rd hS).pts | exact hb.rd hS | exact (hr.rd hS).cellsF7 (by first | omega | (dsimp only; omega)) hst4 rfl | exact (hr2.rd hS).cellsF7 (by first | omega | (dsimp only; omega)) hst4 rfl | exact hS.cellO 4 (by omega) | exact hS.cellO 5 (by omega) | exact hS.cellO 6 (by omega) | exact hS.cellO 7 (by omega) | exact hS.cellO 8 (by omega) | exact hS.cellO 9 (by omega) | exact hS.cellO 10 (by omega) | exact hS.cellO 11 (by omega) | exact hS.cellO 12 (by omega) | exact hS.cellO 13 (by omega) | exact hS.cellO 2 (by omega) | exact hS.cellO 3 (by omega))) ?_)) ?_))
     have h := hS.took (out := [bag X, bag A.rows, tabAt tp lp n r2, mapq (Value.int .i64) r2 (AV.vals Az), qlog lp p j (m + 1) (layOn dat (ws.map Wr.data))])
     have h := h.bagJoin.bagSub (Y := AV.rows Az) (fun y hy => by
      obtain ⟨x, hx, hyx⟩ := List.mem_flatMap.1 hy
      rcases hI.aX x hx with hxA | ⟨e1, e2⟩
      ·exact List.mem_append_right _ (List.mem_flatMap.2 ⟨x, hxA, hyx⟩)
      ·simp only [List.mem_cons, List.not_mem_nil, or_false] at hyx
       rcases hyx with rfl | rfl
       ·exact List.mem_append_left _ e1
       ·exact List.mem_append_left _ e2)
     have h := h.pick [1, 1, 0, 0]
     exact ⟨rfl, h.shutItab ⟨rfl, h3, hok.n1, hok.n4, hok.nb1⟩⟩
 ·have hap : applyT T nb (j / 2) cl = (checkC cl n, T) := by unfold applyT; rw [htl, if_pos h0]
  rw [hap]
  refine calls_C Tryz.func42 rfl Tryz.ntmps42 rfl ?_
  repeat (first | (refine G_id ?_; first | refine G_nil ?_ | refine G_plain rfl rfl ?_) | (refine X_id ?_; first | refine X_yl (Yl_move rfl rfl) rfl rfl ?_ | refine X_yl (Yl_assign rfl rfl) rfl rfl ?_ | refine X_yl (Yl_eqlNil_some rfl rfl rfl) rfl rfl ?_) | (refine C_id ?_; first | refine C_seq ?_ | refine C_region ?_ | refine C_skip ?_ | refine C_cond_f rfl ?_) | (refine E_id ?_; first | refine E_code ?_))
  refine X_callq _ rfl rfl rfl rfl rfl hS (hck _ _ hS) ?_
  rintro _ w rfl hS
  repeat (first | (refine G_id ?_; first | refine G_nil ?_ | refine G_plain rfl rfl ?_) | (refine X_id ?_; first | refine X_yl (Yl_move rfl rfl) rfl rfl ?_ | refine X_yl (Yl_assign rfl rfl) rfl rfl ?_ | refine X_yl (Yl_neq_t rfl rfl rfl (by omega)) rfl rfl ?_) | (refine C_id ?_; first | refine C_seq ?_ | refine C_region ?_ | refine C_ret ?_ | refine C_cond_t rfl ?_) | (refine E_id ?_; first | refine E_code ?_ | refine E_then_ret ?_ | refine E_ret1 rfl (Rv_tmp rfl) (Ret.mk ?_)))
  exact ⟨rfl, ((hbk hS).shutItab hok).head itab_up⟩
end
end Cr
namespace Cr
open Go Go.Proofs
set_option maxRecDepth 100000
set_option maxHeartbeats 8000000
attribute [local irreducible] Calls

end Cr
namespace Cr
open Go Go.Proofs
set_option maxRecDepth 100000
set_option maxHeartbeats 16000000
attribute [local irreducible] Calls

theorem fullB_nil : fullB [] = zero64 := by simp [fullB, zero64]
theorem zero64_length : zero64.length = 64 := by simp [zero64]
theorem enc_new (rd fs : List Int) {dat : List (List UInt8)} {n nb : Nat} (hd : dat.length = 1 + n + nb) (hz : ∀ i, i < n → dat.getD (1 + i) [] = zero64) : Enc rd fs (layOn dat [(0, tfrontB rd fs n)]) n nb [] := by
 have hg : ∀ k, k < dat.length → (layOn dat [(0, tfrontB rd fs n)]).getD k [] = if k = 0 then tfrontB rd fs n else dat.getD k [] := fun k hk => by
  rw [layOn_get _ _ _ hk (fun v hv => by rw [List.mem_singleton] at hv; rw [hv]; exact Int.le_refl _), lastOf_cons]
  by_cases h : k = 0
  ·subst h; simp [lastOf]
  ·rw [if_neg h, if_neg (by simp only; omega)]; simp [lastOf]
 refine ⟨by rw [layOn_length]; exact hd, by rw [hg 0 (by omega), if_pos rfl], fun k hk => by simp [keysA] at hk, by simp [keysA], fun i hi => ?_, fun x hx => by simp at hx, fun x hx => by simp at hx, by simp [blocksOf]⟩
 rw [hg _ (by omega), if_neg (by omega), hz i hi]
 rfl
theorem tab_new (n : Nat) : tabOf [] n = List.replicate n none := by
 apply List.ext_getElem
 ·simp [tabOf]
 ·intro i h1 h2
  simp [tabOf, getA]
theorem format_ (lp p j m n nb : Nat) (dat : List (List UInt8)) (rd fs : List Int) (W : World) (F : Nat → Prop) (hG : Gl W F rd fs) (hd : dat.length = 1 + n + nb) (h1 : 1 ≤ n) (h4 : n ≤ 400) (hnb : 1 ≤ nb) (hj : 2 ≤ j) (hm : (m : Int) < last)
  (h0 : dat.getD 0 [] = zero64) (hz : ∀ i, i < n → dat.getD (1 + i) [] = zero64) (hS : St W F [qlog lp p j m dat] W) :
  Calls Tryz.prog 82 #[.pointer (some ⟨lp, 0, none⟩), .int .i64 (n : Nat)] W (Ret fun v w => ∃ tp, v = .tuple #[.pointer (some ⟨tp, 0, none⟩), .int .i64 0] ∧ St W F [itab rd fs tp lp p j (m + 1) n nb (List.replicate n none)] w) := by
 have hqr : ∀ w rs, St W F (qlog lp p j m dat :: rs) w → Rd w (qlog lp p j m dat) := fun w rs h => h.rd (List.mem_cons_self ..)
 have hrd := fun w rs (h : St W F (qlog lp p j m dat :: rs) w) => qread_ lp p j m dat 0 w (hqr _ _ h) (by omega)
 rw [h0] at hrd
 have heq := fun w a c p h1 h2 => equal_ a (some ⟨p, 0, none⟩) 64 64 c 64 zero64 zero64 w h1 h2 zero64_length zero64_length
 rw [decide_eq_true rfl] at heq
 refine calls_C Tryz.func82 rfl Tryz.ntmps82 rfl ?_
 repeat (first | (refine G_id ?_; first | refine G_nil ?_ | refine G_plain rfl rfl ?_) | (refine X_id ?_; first | refine X_yl (Yl_move rfl rfl) rfl rfl ?_ | refine X_yl (Yl_assign rfl rfl) rfl rfl ?_ | refine X_yl (Yl_eqlNil_some rfl rfl rfl) rfl rfl ?_) | (refine C_id ?_; first | refine C_seq ?_ | refine C_region ?_ | refine C_block ?_ | refine C_cond_f rfl ?_) | (refine E_id ?_; first | refine E_code ?_))
 refine X_callq _ rfl rfl rfl rfl rfl hS (may_ lp p j m n dat _ (hqr _ _ hS) h1 h4 (by omega)) ?_
 rintro _ w rfl hS
 repeat (first | (refine G_id ?_; first | refine G_nil ?_ | refine G_plain rfl rfl ?_) | (refine X_id ?_; first | refine X_yl (Yl_move rfl rfl) rfl rfl ?_ | refine X_yl (Yl_assign rfl rfl) rfl rfl ?_ | refine X_yl (Yl_not_t rfl rfl) rfl rfl ?_) | (refine C_id ?_; first | refine C_seq ?_ | refine C_region ?_ | refine C_skip ?_ | refine C_cond_f rfl ?_) | (refine E_id ?_; first | refine E_code ?_ | refine E_blk_n ?_))
 refine X_callg _ rfl rfl rfl rfl rfl (hrd _ _ hS) ?_
 rintro _ w ⟨a, c, rfl, hc, hS'⟩
 replace hS := hS.plus hS'
 clear hS'
 repeat (first | (refine G_id ?_; first | refine G_nil ?_ | refine G_plain rfl rfl ?_) | (refine X_id ?_; first | refine X_yl (Yl_move rfl rfl) rfl rfl ?_ | refine X_yl (Yl_assign rfl rfl) rfl rfl ?_ | refine X_yl (Yl_extract rfl rfl) rfl rfl ?_ | refine X_yl (Yl_neq_f rfl rfl rfl (by omega)) rfl rfl ?_) | (refine C_id ?_; first | refine C_seq ?_ | refine C_region ?_ | refine C_skip ?_ | refine C_cond_f rfl ?_) | (refine E_id ?_; first | refine E_code ?_))
 refine X_callg _ rfl rfl rfl rfl rfl (filled_ none 0 [] _ (Rd_nil _ _)) ?_
 rintro _ w ⟨q, rfl, hS'⟩
 replace hS := hS.plus hS'
 clear hS'
 rw [fullB_nil] at hS
 repeat (first | (refine G_id ?_; first | refine G_nil ?_ | refine G_plain rfl rfl ?_) | (refine X_id ?_; first | (refine X_callg 100 rfl rfl rfl rfl rfl (heq _ a c q (hS.rd (by simp)) (hS.rd (by simp))) ?_; rintro _ _ ⟨rfl, rfl⟩) | refine X_yl (Yl_move rfl rfl) rfl rfl ?_ | refine X_yl (Yl_not_t rfl rfl) rfl rfl ?_) | (refine C_id ?_; first | refine C_seq ?_ | refine C_region ?_ | refine C_skip ?_ | refine C_cond_f rfl ?_) | (refine E_id ?_; first | refine E_code ?_))
 refine X_callg _ rfl rfl rfl rfl rfl (tfront_ n rd fs _ (hG.mono fun r hr => (hr.rd hS).ro)) ?_
 rintro _ w ⟨q2, rfl, hS'⟩
 replace hS := hS.plus hS'
 clear hS'
 repeat (first | (refine G_id ?_; first | refine G_plain rfl rfl ?_) | (refine X_id ?_; first | refine X_yl (Yl_build rfl rfl rfl) rfl rfl ?_ | refine X_buildSlice rfl rfl rfl rfl rfl rfl rfl rfl hS (fun _ _ hS _ => ?_)))
 rename_i bw _ _
 obtain ⟨_, hc4, hr4, hw4, hbk4⟩ := hS.call [false, false, false, false, true]
 have hck : checkM [((0 : Int), tfrontB rd fs n)] = 0 := by
  have : (tfrontB rd fs n).length = 64 := fullB_length _
  simp [checkM, badW, twiceTo, this]
 refine X_callg _ rfl rfl rfl rfl rfl (qcommit_ lp p j m dat (some ⟨bw, 0, none⟩) 1 [⟨0, ⟨some ⟨q2, 0, none⟩, 64, tfrontB rd fs n⟩⟩] rd fs _ _ (hG.mono hw4) ⟨?_, fun v hv => ?_⟩ (by simp) hm hck ?_ hc4) ?_
 ·have h := (hr4 (own 178 2 (some ⟨bw, 0, none⟩) 1 [.int .i64 0, .slice (some ⟨q2, 0, none⟩) 64 64]) (by simp)).own_row
  have e : (List.flatMap Wr.cells [⟨0, ⟨some ⟨q2, 0, none⟩, 64, tfrontB rd fs n⟩⟩]) = [.int .i64 0, .slice (some ⟨q2, 0, none⟩) 64 64] := by
   have : (tfrontB rd fs n).length = 64 := fullB_length _
   simp [Wr.cells, this]
  rw [e]; exact h
 ·rw [List.mem_singleton] at hv
  rw [hv]
  exact hr4 (bytes (some ⟨q2, 0, none⟩) (tfrontB rd fs n)) (by simp)
 ·simp [hasM, Wr.data]; omega
 rintro _ w (⟨hfull, _, _⟩ | ⟨_, rfl, hS⟩)
 ·simp only [List.length_cons, List.length_nil] at hfull; omega
 replace hS := hbk4 hS
 clear hc4 hr4 hw4 hbk4
 repeat (first | (refine G_id ?_; first | refine G_nil ?_ | refine G_plain rfl rfl ?_) | (refine X_id ?_; first | refine X_yl (Yl_move rfl rfl) rfl rfl ?_ | refine X_yl (Yl_assign rfl rfl) rfl rfl ?_ | refine X_yl (Yl_neq_f rfl rfl rfl (by omega)) rfl rfl ?_) | (refine C_id ?_; first | refine C_seq ?_ | refine C_region ?_ | refine C_skip ?_ | refine C_cond_f rfl ?_) | (refine E_id ?_; first | refine E_code ?_))
 refine X_makeMapQ (Value.int .i64) rfl rfl rfl hS (fun r w hS => ?_)
 repeat (first | (refine G_id ?_; first | refine G_nil ?_ | refine G_plain rfl rfl ?_) | (refine X_id ?_; first | refine X_yl (Yl_assign rfl rfl) rfl rfl ?_ | refine X_yl (Yl_build rfl rfl rfl) rfl rfl ?_ | refine X_box rfl rfl rfl rfl hS (fun _ _ hS _ => ?_)) | (refine C_id ?_; first | refine C_ret ?_) | (refine E_id ?_; first | refine E_code ?_ | refine E_ret2 rfl (Rv_tmp rfl) (Rv_tmp rfl) (Ret.mk ?_)))
 rename_i tp _ _
 refine ⟨tp, rfl, ?_⟩
 have h := (hS.bagNil).took (out := [tabAt tp lp n r, mapq (Value.int .i64) r [], bag [], qlog lp p j (m + 1) (layOn dat (List.map Wr.data [⟨0, ⟨some ⟨q2, 0, none⟩, 64, tfrontB rd fs n⟩⟩]))])
 exact St.shutItab (A := []) (dat := layOn dat [(0, tfrontB rd fs n)]) ⟨tab_new n, enc_new rd fs hd hz, h1, h4, hnb⟩ h
end Cr
namespace Cr
open Go Go.Proofs
set_option maxRecDepth 100000
set_option maxHeartbeats 16000000
attribute [local irreducible] Calls

end Cr
namespace Cr
open Go Go.Proofs
set_option maxRecDepth 100000
set_option maxHeartbeats 16000000
attribute [local irreducible] Calls

theorem St.newLog {W : World} {F : Nat → Prop} {rs : List Res} {w : World} {lp p j k : Nat} (hj : j ≤ 1024) (hS : St W F (logAt lp p 1 0 0 j 0 false :: disk p (newDisk (1 + j + k)) :: rs) w) : St W F (qlog lp p j 0 (List.replicate k zero64) :: rs) w :=
 hS.shutQlog ⟨⟨rfl, rfl, by simp [newDisk]⟩, rfl, Int.le_refl _, Int.le_refl _, hj, fun i hi => by
  rw [List.length_replicate] at hi
  simp only [newDisk, List.getD_eq_getElem?_getD, List.getElem?_replicate]
  rw [if_pos (by omega), if_pos hi]⟩
theorem zeros_get {k i : Nat} (h : i < k) : (List.replicate k zero64).getD i [] = zero64 := by
 rw [List.getD_eq_getElem?_getD, List.getElem?_replicate, if_pos h]; rfl
end Cr
namespace Cr
open Go Go.Proofs
set_option maxRecDepth 100000
set_option maxHeartbeats 16000000
attribute [local irreducible] Calls

end Cr
namespace Cr
open Go Go.Proofs
set_option maxRecDepth 100000
set_option maxHeartbeats 16000000
attribute [local irreducible] Calls

end Cr
namespace Cr
open Go Go.Proofs
set_option maxRecDepth 100000
set_option maxHeartbeats 16000000
attribute [local irreducible] Calls

theorem perm_get {β : Type} : ∀ {A B : List (Int × β)}, (keysA A).Nodup → (keysA B).Nodup → (∀ k, getA k A = getA k B) → A.Perm B
 | [], B, _, _, h => by
  cases B with
  | nil => exact List.Perm.refl _
  | cons y B => have := h y.1; simp [getA] at this
 | x :: A, B, hA, hB, h => by
  have hA' : x.1 ∉ keysA A ∧ (keysA A).Nodup := List.nodup_cons.1 hA
  have hx : x ∈ B := getA_mem (by rw [← h x.1]; simp [getA])
  obtain ⟨u, v, rfl⟩ := List.append_of_mem hx
  have hp : (u ++ x :: v).Perm (x :: (u ++ v)) := List.perm_middle
  have hB' : x.1 ∉ keysA (u ++ v) ∧ (keysA (u ++ v)).Nodup := List.nodup_cons.1 ((hp.map (fun x : Int × β => x.1)).nodup_iff.1 hB)
  refine (List.Perm.cons x (perm_get hA'.2 hB'.2 fun k => ?_)).trans hp.symm
  by_cases hk : k = x.1
  ·rw [hk, getA_none.2 hA'.1, getA_none.2 hB'.1]
  ·have := h k
   rw [getA_append] at this ⊢
   simp only [getA, if_neg hk] at this
   exact this
end Cr
namespace Cr
open Go
theorem St.ownBase {W : World} {F : Nat → Prop} {rs : List Res} {w : World} {T c e : Nat} {a : Option Addr} {cs : List Value} (hS : St W F (own T e a c cs :: rs) w) (hpos : cs ≠ []) : ∃ b, a = some ⟨b, 0, none⟩ := by
 obtain ⟨g, ⟨g1, g2, hown, hrest, hdj, hun⟩, s⟩ := hS
 obtain ⟨hle, hcm, ⟨rfl, _⟩ | ⟨b', cells, hbe, rfl, hcz, ht⟩⟩ := hown
 ·rw [Nat.zero_mul] at hle
  exact absurd (List.length_eq_zero_iff.1 (by omega)) hpos
 ·exact ⟨b', hbe⟩
end Cr
namespace Go.Proofs
open Go.Shelf
def Tryz.lays189_ren : Go.Shelf.Ren := ⟨fun | 189 => 182 | 125 => 210 | 257 => 209 | 128 => 240 | 129 => 241 | 294 => 231 | 295 => 232 | 296 => 233 | 297 => 234 | 298 => 235 | 299 => 236 | 216 => 237 | 300 => 238 | 301 => 239 | 328 => 265 | 329 => 266 | 330 => 267 | 331 => 268 | 332 => 269 | 215 => 270 | 343 => 288 | n => n, fun | 28 => 165 | 3 => 3 | 46 => 263 | 0 => 0 | 51 => 220 | 53 => 278 | 4 => 4 | 183 => 337 | 182 => 336 | 131 => 130 | 5 => 5 | 9 => 9 | 218 => 361 | 222 => 365 | 228 => 385 | 229 => 386 | n => n, fun | n => n⟩
theorem Tryz.lays189 : Go.Proofs.Lays.n189 Tryz.prog Tryz.lays189_ren := {
 mixed := by kernel_rfl
 f125 := Tryz.func210.trans (congrArg some (by kernel_rfl))
 f128 := Tryz.func240.trans (congrArg some (by kernel_rfl))
 f129 := Tryz.func241.trans (congrArg some (by kernel_rfl))
 f189 := Tryz.func182.trans (congrArg some (by kernel_rfl))
 f215 := Tryz.func270.trans (congrArg some (by kernel_rfl))
 f216 := Tryz.func237.trans (congrArg some (by kernel_rfl))
 f257 := Tryz.func209.trans (congrArg some (by kernel_rfl))
 f294 := Tryz.func231.trans (congrArg some (by kernel_rfl))
 f295 := Tryz.func232.trans (congrArg some (by kernel_rfl))
 f296 := Tryz.func233.trans (congrArg some (by kernel_rfl))
 f297 := Tryz.func234.trans (congrArg some (by kernel_rfl))
 f298 := Tryz.func235.trans (congrArg some (by kernel_rfl))
 f299 := Tryz.func236.trans (congrArg some (by kernel_rfl))
 f300 := Tryz.func238.trans (congrArg some (by kernel_rfl))
 f301 := Tryz.func239.trans (congrArg some (by kernel_rfl))
 f328 := Tryz.func265.trans (congrArg some (by kernel_rfl))
 f329 := Tryz.func266.trans (congrArg some (by kernel_rfl))
 f330 := Tryz.func267.trans (congrArg some (by kernel_rfl))
 f331 := Tryz.func268.trans (congrArg some (by kernel_rfl))
 f332 := Tryz.func269.trans (congrArg some (by kernel_rfl))
 f343 := Tryz.func288.trans (congrArg some (by kernel_rfl))
 t0 := Tryz.underlying0
 a0 := Tryz.isAgg0
 z0 := Tryz.sizeOf0
 v0 := Tryz.zeroValue0
 t3 := Tryz.underlying3
 a3 := Tryz.isAgg3
 z3 := Tryz.sizeOf3
 v3 := Tryz.zeroValue3
 t4 := Tryz.underlying4
 a4 := Tryz.isAgg4
 z4 := Tryz.sizeOf4
 v4 := Tryz.zeroValue4
 t5 := Tryz.underlying5
 a5 := Tryz.isAgg5
 z5 := Tryz.sizeOf5
 v5 := Tryz.zeroValue5
 t9 := Tryz.underlying9
 a9 := Tryz.isAgg9
 z9 := Tryz.sizeOf9
 v9 := Tryz.zeroValue9
 t28 := Tryz.underlying165
 a28 := Tryz.isAgg165
 z28 := Tryz.sizeOf165
 v28 := Tryz.zeroValue165
 t46 := Tryz.underlying263
 a46 := Tryz.isAgg263
 z46 := Tryz.sizeOf263
 v46 := Tryz.zeroValue263
 t51 := Tryz.underlying220
 a51 := Tryz.isAgg220
 z51 := Tryz.sizeOf220
 v51 := Tryz.zeroValue220
 t53 := Tryz.underlying278
 a53 := Tryz.isAgg278
 z53 := Tryz.sizeOf278
 v53 := Tryz.zeroValue278
 t131 := Tryz.underlying130
 a131 := Tryz.isAgg130
 z131 := Tryz.sizeOf130
 v131 := Tryz.zeroValue130
 t182 := Tryz.underlying336
 a182 := Tryz.isAgg336
 z182 := Tryz.sizeOf336
 v182 := Tryz.zeroValue336
 t183 := Tryz.underlying337
 a183 := Tryz.isAgg337
 z183 := Tryz.sizeOf337
 v183 := Tryz.zeroValue337
 t218 := Tryz.underlying361
 a218 := Tryz.isAgg361
 z218 := Tryz.sizeOf361
 v218 := Tryz.zeroValue361
 t222 := Tryz.underlying365
 a222 := Tryz.isAgg365
 z222 := Tryz.sizeOf365
 v222 := Tryz.zeroValue365
 t228 := Tryz.underlying385
 a228 := Tryz.isAgg385
 z228 := Tryz.sizeOf385
 v228 := Tryz.zeroValue385
 t229 := Tryz.underlying386
 a229 := Tryz.isAgg386
 z229 := Tryz.sizeOf386
 v229 := Tryz.zeroValue386 }
open Go.Sort Go.RowKit in
theorem Tryz.slices_Sort_int (blk off cap : Nat) (zs : List Int) (w : World) (hH : Holds (Value.int .i64) w blk off zs.toArray) (hblk : blk < w.heap.size) (hsz : zs.length < 4611686018427387904) :
  Calls Tryz.prog 182 #[.slice (some ⟨blk, off, none⟩) zs.length cap] w fun e w' =>
   e = .returned (.tuple #[]) ∧ ∃ n os, w' = grow (putRow (Value.int .i64) (Sort.ahead w n) blk off (zs.mergeSort fun x y => decide (x ≤ y)).toArray) os := Any.slices_Sort_int Tryz.lays189 blk off cap zs w hH hblk hsz
open Go.RowKit Go.Sort in
theorem Tryz.slices_Sort_int_none (p : Option Addr) (cap : Nat) (w : World) :
  Calls Tryz.prog 182 #[.slice p 0 cap] w fun e w' => e = .returned (.tuple #[]) ∧ w' = w := Any.slices_Sort_int_none Tryz.lays189 p cap w
end Go.Proofs
