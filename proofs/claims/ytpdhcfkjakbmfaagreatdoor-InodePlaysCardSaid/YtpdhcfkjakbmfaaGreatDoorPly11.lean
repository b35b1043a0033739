/-
  Layer 7 (inode): Apply.
  The laws' helper Same: are bytes the same?
  Layer 7 (inode): Format; what nil tells; Same.
  The laws' helpers To of layers 6 and 7.
  The laws' helper known of layer 7: the chapter's examples.
  Layer 7's node as an argument, opened.
  Operations on strings: sums, lengths, pieces, bytes of a string. Over any program.
-/
import Derived.Test.YtpdhcfkjakbmfaaGreatDoorPly10
import Derived.Test.YtpdhcfkjakbmfaaGreatDoorPly6
import Derived.Test.YtpdhcfkjakbmfaaGreatDoorPly4
import Derived.OpenShut
import Derived.Lib.ConvBytes
import Derived.Laws.Concat
namespace Cr
open Go Go.Proofs
set_option maxRecDepth 100000
set_option maxHeartbeats 16000000
attribute [local irreducible] Calls

def delAV (A : AV) (l : List Chg) : AV := l.foldl (fun A c => delA c.no A) A
theorem delAV_snoc {A : AV} {l : List Chg} {i : Nat} {c : Chg} (h : l[i]? = some c) : delAV A (l.take (i + 1)) = delA c.no (delAV A (l.take i)) := by
  unfold delAV
  rw [List.take_add_one, h]
  simp
theorem delAV_ents : ∀ (l : List Chg) (A : AV), AV.ents (delAV A l) = delAll A.ents l
  | [], _ => rfl
  | c :: l, A => by
    have ih := delAV_ents l (delA c.no A)
    have e : delAV A (c :: l) = delAV (delA c.no A) l := rfl
    have e2 : delAll A.ents (c :: l) = delAll (delA c.no A.ents) l := rfl
    rw [e, e2, ih]
    congr 1
    exact (delA_map SV.s).symm
theorem delAV_sub : ∀ (l : List Chg) (A : AV), (delAV A l).Sublist A
  | [], _ => List.Sublist.refl _
  | c :: l, A => (delAV_sub l (delA c.no A)).trans delA_sub
theorem run_snoc (n : Nat) : ∀ (l : List Chg) (z : ApS) (c : Chg), z.run n (l ++ [c]) = (z.run n l).bind fun z => z.step n c
  | [], z, c => by simp [ApS.run]
  | x :: l, z, c => by
    simp only [List.cons_append, ApS.run]
    cases z.step n x with
    | none => rfl
    | some z2 => exact run_snoc n l z2 c
theorem run_none (n : Nat) : ∀ (l m : List Chg) (z : ApS), z.run n l = none → z.run n (l ++ m) = none
  | [], _, _, h => by cases h
  | x :: l, m, z, h => by
    simp only [List.cons_append, ApS.run] at h ⊢
    cases hs : z.step n x with
    | none => rfl
    | some z2 =>
      rw [hs] at h
      exact run_none n l m z2 h
/-- Where the loop over the changes stands. -/
structure ApZ where
  i : Nat
  A : AV
  fa : Option Addr
  fc : Nat
  fl : List Int
  aw : Option Addr
  cw : Nat
  ws : List Wr
  X : List RowD
structure ApI (A0 : AV) (n nb : Nat) (cl : List Chg) (z : ApZ) : Prop where
  hi : z.i ≤ cl.length
  run : (ApS.start A0.ents nb cl).run n (cl.take z.i) = some ⟨z.A.ents, z.fl, z.ws.map Wr.data⟩
  fX : (z.fa, ints .i64 z.fl) ∈ z.X
  fcap : z.fl.length ≤ z.fc
  wcap : z.ws.length ≤ z.cw
  wX : ∀ v ∈ z.ws, (v.x.a, bv v.x.s) ∈ z.X
  aX : ∀ x ∈ z.A, x ∈ A0 ∨ ((x.2.da, bv x.2.s.nd.data) ∈ z.X ∧ (x.2.ba, ints .i64 x.2.s.blocks) ∈ z.X)
  wl : z.ws.length ≤ 9 * z.i
  flow : ∀ b ∈ z.fl, 0 ≤ b ∧ b < nb
theorem Yl_minI {P : Program} {o : Oper} {σ : Env} {w : World} {x y : Operand} {ts : Array TypeId} {a b : Int} (ho : o.op = .call { callee := .builtin .min, args := #[x, y], argTypes := ts }) (hx : ev σ x = some (.int .i64 a)) (hy : ev σ y = some (.int .i64 b)) : Yl P o σ w (.int .i64 (min a b)) := ⟨fun N ds f ha => by
  simp [execOp, ho, resolve, invoke, builtin, ha.eval hx, ha.eval hy, Builtin.min_, Builtin.min2]
  split <;> omega⟩
theorem put_n (t10 : Nat) (aw : Option Addr) (cw : Nat) (ws : List Wr) (no : Int) (ba : Option Addr) (bn bc : Nat) (s : List UInt8) (W : World) (F : Nat → Prop) (hb : Ro W F (bytes ba s)) (hn : s.length = bn) (hcw : ws.length ≤ cw) (hl : ws.length ≤ 1048576)
    (hS : St W F [pts t10 (.cells #[.slice aw ws.length cw] 77), own 80 2 aw cw (ws.flatMap Wr.cells)] W) :
    Calls Tryz.prog 22 #[.int .i64 no, .slice ba bn bc, .pointer (some ⟨t10, 0, none⟩)] W (Ret fun v w => v = .tuple #[] ∧ ∃ aw' cw' q, ws.length + 1 ≤ cw' ∧
      St W F [pts t10 (.cells #[.slice aw' (ws.length + 1) cw'] 77), own 80 2 aw' cw' ((ws ++ [putW no q s]).flatMap Wr.cells), bytes (some ⟨q, 0, none⟩) (fullB s)] w) := by
  subst hn
  exact put_ t10 aw cw ws no ba bc s W F hb hcw hl hS
theorem chunk_of (d : List UInt8) (i h : Nat) (hh : h = min (64 * (i + 1)) d.length) : fullB ((d.drop (64 * i)).take (h - 64 * i)) = chunkB d i := by
  unfold chunkB
  congr 1
  subst hh
  by_cases h1 : 64 * (i + 1) ≤ d.length
  · rw [Nat.min_eq_left h1, show 64 * (i + 1) - 64 * i = 64 by omega]
  · rw [Nat.min_eq_right (by omega), List.take_of_length_le (by rw [List.length_drop]; exact Nat.le_refl _), List.take_of_length_le (by rw [List.length_drop]; omega)]
theorem blockW_take {n : Nat} {bs : List Int} {d : List UInt8} {i : Nat} {b : Int} (h : bs[i]? = some b) : (blockW n bs d).take (i + 1) = (blockW n bs d).take i ++ [(1 + (n : Int) + b, chunkB d i)] := by
  have hi := (List.getElem?_eq_some_iff.1 h).1
  rw [List.take_add_one]
  congr 1
  unfold blockW
  rw [List.getElem?_map, List.getElem?_range hi]
  simp [List.getD_eq_getElem?_getD, h]
theorem row_take {a : Option Addr} {cs : List Value} (k : Nat) : ∀ h, row a cs h → ∃ h', row a (cs.take k) h' ∧ ∀ b o, h' b = some o → h b = some o := fun h hh => by
  have := row_sub (a := a) (cs := cs) (cs' := cs.take k) (l := 0) (e := 1) (c := 1) (fun j v hv => by
    rw [List.getElem?_take] at hv
    split at hv
    · simpa using hv
    · cases hv) (by omega) h hh
  rwa [sub_zero] at this
theorem row_drop {a : Option Addr} {cs : List Value} {k c : Nat} (hc : cs.length ≤ c) (hk : k ≤ cs.length) : ∀ h, row a cs h → ∃ h', row (sub a k 1 c) (cs.drop k) h' ∧ ∀ b o, h' b = some o → h b = some o :=
  row_sub (fun j v hv => by rw [List.getElem?_drop] at hv; rw [Nat.mul_one]; exact hv) (fun e => List.drop_eq_nil_of_le (by omega))
theorem mem_setA {β : Type} {k : Int} {v : β} {y : Int × β} : ∀ {A : List (Int × β)}, y ∈ setA k v A → y = (k, v) ∨ y ∈ A
  | [], h => by simp [setA] at h; exact .inl h
  | x :: A, h => by
    unfold setA at h
    split at h
    · rcases List.mem_cons.1 h with h | h
      · exact .inl h
      · exact .inr (List.mem_cons_of_mem _ h)
    · rcases List.mem_cons.1 h with h | h
      · exact .inr (h ▸ List.mem_cons_self ..)
      · exact (mem_setA h).imp id (List.mem_cons_of_mem _)
theorem fullB_64 {s : List UInt8} (h : s.length = 64) : fullB s = s := by rw [fullB_eq (by omega), h]; simp
/-- Where the loop over a node's blocks stands. -/
structure BlI (n : Nat) (bs : List Int) (d : List UInt8) (ws : List Wr) (X : List RowD) (i cw' : Nat) (ws' : List Wr) (X' : List RowD) : Prop where
  data : ws'.map Wr.data = ws.map Wr.data ++ (blockW n bs d).take i
  cap : ws'.length ≤ cw'
  wX : ∀ v ∈ ws', (v.x.a, bv v.x.s) ∈ X'
  sub : ∀ r ∈ X, r ∈ X'
theorem BlI.len {n : Nat} {bs : List Int} {d : List UInt8} {ws : List Wr} {X : List RowD} {i cw' : Nat} {ws' : List Wr} {X' : List RowD} (h : BlI n bs d ws X i cw' ws' X') (hi : i ≤ bs.length) : ws'.length = ws.length + i := by
  have := congrArg List.length h.data
  simp only [List.length_map, List.length_append, List.length_take, blockW, List.length_range] at this
  omega
section
variable {rd fs : List Int} {tp lp p j m n nb : Nat} {T : Tb}
theorem TabOk.up {A : AV} {dat : List (List UInt8)} (h : TabOk rd fs n nb T A dat) : TabOk rd fs n nb T A dat := h
theorem qlog_up {dat : List (List UInt8)} : ∀ h, qlog lp p j m dat h → qlog lp p j (m + 1) dat h := fun h ⟨D, done, hq, hs⟩ => ⟨D, done, ⟨hq.q, hq.line, hq.d0, by have := hq.dm; omega, hq.jl, hq.at_⟩, hs⟩
theorem itab_up : ∀ h, itab rd fs tp lp p j m n nb T h → itab rd fs tp lp p j (m + 1) n nb T h := fun _ ⟨r, A, dat, hok, hs⟩ =>
  ⟨r, A, dat, hok, Sep.mono_tail (fun _ h => Sep.mono_tail (fun _ h => Sep.mono_tail (fun _ h => Sep.mono_head qlog_up h) h) h) hs⟩
theorem apply_nil (x : Value) (W : World) : Calls Tryz.prog 8 #[.pointer none, x] W (Ret fun v w => v = .int .i64 16 ∧ W = w) := by
  refine calls_C Tryz.func8 rfl Tryz.ntmps8 rfl ?_
  repeat (first | (refine G_id ?_; first | refine G_nil ?_ | refine G_plain rfl rfl ?_) | (refine X_id ?_; first | refine X_yl (Yl_move rfl rfl) rfl rfl ?_ | refine X_yl (Yl_assign rfl rfl) rfl rfl ?_ | refine X_yl (Yl_eqlNil_none rfl rfl rfl) rfl rfl ?_) | (refine C_id ?_; first | refine C_seq ?_ | refine C_region ?_ | refine C_ret ?_ | refine C_cond_t rfl ?_) | (refine E_id ?_; first | refine E_code ?_ | refine E_then_ret ?_ | refine E_ret1 rfl (Rv_tmp rfl) (Ret.mk ?_)))
  exact ⟨rfl, rfl⟩
theorem apply_ (a : Option Addr) (c : Nat) (l : List ChgA) (W : World) (F : Nat → Prop) (hG : Gl W F rd fs) (hC : Chgs W F a l) (hl : l.length ≤ 1000) (hlc : l.length ≤ c) (hm : (m : Int) < last) (hS : St W F [itab rd fs tp lp p j m n nb T] W) :
    Calls Tryz.prog 8 #[.pointer (some ⟨tp, 0, none⟩), .slice a l.length c] W (Ret fun v w => v = .int .i64 (applyT T nb (j / 2) (l.map ChgA.c)).1 ∧ St W F [itab rd fs tp lp p j (m + 1) n nb (applyT T nb (j / 2) (l.map ChgA.c)).2] w) := by
  obtain ⟨r, A, dat, hok, hS⟩ := hS.openItab
  have hE := hok.enc
  have htl := hok.tlen
  have hn4 := hok.n4
  obtain ⟨cl, hcl⟩ : ∃ cl, cl = l.map ChgA.c := ⟨_, rfl⟩
  have hcll : cl.length = l.length := by rw [hcl]; simp
  have hget : ∀ {i : Nat} {x : ChgA}, l[i]? = some x → cl[i]? = some x.c := fun {i x} h => by rw [hcl]; simp [h]
  rw [← hcl]
  obtain ⟨F2, hS2, hro, hw, hbk⟩ := hS.call []
  clear hS
  have hS := hS2
  clear hS2
  have hTo := hro (tabAt tp lp n r) (by simp)
  have hmo := hro (mapq (Value.int .i64) r A.vals) (by simp)
  have hbo := hro (bag A.rows) (by simp)
  have hqo := hro (qlog lp p j m dat) (by simp)
  have hC2 := hC.mono hw
  have hG2 := hG.mono hw
  have hql := (qlen (hqo.rd hS)).1
  have hdl := hE.len
  have hc := hTo
  have hC0 : ∀ w rs, St W F2 rs w → Chgs w noF a l := fun w rs h => ⟨(hC2.row.rd h).ro, fun x hx => ((hC2.all x hx).rd h).ro⟩
  have hck := fun w rs (h : St W F2 rs w) => check_c tp lp n r a c l w (hTo.rd h) (hC0 w rs h) (by omega) hlc (by omega)
  rw [← hcl] at hck
  by_cases h0 : checkC cl n = 0
  · have hR := right_of h0
    have hap : applyT T nb (j / 2) cl = putT T nb (j / 2) cl := by unfold applyT; rw [htl, if_neg (by simp [h0])]
    rw [hap]
    rw [h0] at hck
    have hlaw := apply_law hE hR
    rw [hok.tab] at hlaw
    refine calls_C Tryz.func8 rfl Tryz.ntmps8 rfl ?_
    repeat (first | (refine G_id ?_; first | refine G_nil ?_ | refine G_plain rfl rfl ?_) | (refine X_id ?_; first | refine X_yl (Yl_move rfl rfl) rfl rfl ?_ | refine X_yl (Yl_assign rfl rfl) rfl rfl ?_ | refine X_yl (Yl_eqlNil_some rfl rfl rfl) rfl rfl ?_) | (refine C_id ?_; first | refine C_seq ?_ | refine C_region ?_ | refine C_skip ?_ | refine C_cond_f rfl ?_) | (refine E_id ?_; first | refine E_code ?_))
    refine X_callq _ rfl rfl rfl rfl rfl hS (hck _ _ hS) ?_
    rintro _ w rfl hS
    repeat (first | (refine G_id ?_; first | refine G_nil ?_ | refine G_plain rfl rfl ?_) | (refine X_id ?_; first | refine X_yl (Yl_move rfl rfl) rfl rfl ?_ | refine X_yl (Yl_assign rfl rfl) rfl rfl ?_ | refine X_yl (Yl_nilCheck rfl rfl) rfl rfl ?_ | refine X_yl (Yl_fieldAddr0 rfl rfl rfl) rfl rfl ?_ | refine X_yl (Yl_neq_f rfl rfl rfl (by omega)) rfl rfl ?_ | refine X_yl (Yl_load rfl rfl (cell_at (hc.rd hS).pts)) rfl rfl ?_) | (refine C_id ?_; first | refine C_seq ?_ | refine C_region ?_ | refine C_skip ?_ | refine C_cond_f rfl ?_) | (refine E_id ?_; first | refine E_code ?_))
    refine X_callg _ rfl rfl rfl rfl rfl (mclone_ r A.vals _ (hmo.rd hS)) ?_
    rintro _ w ⟨r2, rfl, hS'⟩
    replace hS := hS.plus hS'
    clear hS'
    repeat (first | (refine G_id ?_; first | refine G_nil ?_ | refine G_plain rfl rfl ?_) | (refine X_id ?_; first | refine X_yl (Yl_move rfl rfl) rfl rfl ?_ | refine X_yl (Yl_assign rfl rfl) rfl rfl ?_ | refine X_yl (Yl_len rfl rfl) rfl rfl ?_) | (refine C_id ?_; first | refine C_seq ?_ | refine C_region ?_ | refine C_block ?_) | (refine E_id ?_; first | refine E_code ?_))
    refine C_joinB (α := Unit) (fun _ => [(0, .pointer (some ⟨tp, 0, none⟩)), (1, .slice a l.length c), (6, .map (some r2))]) (fun _ w => St W F2 [mapq (Value.int .i64) r2 (AV.vals (delAV A cl))] w) ?_ ?_
    · refine C_loop (α := Nat) (fun i => [(0, .pointer (some ⟨tp, 0, none⟩)), (1, .slice a l.length c), (6, .map (some r2)), (32, .slice a l.length c), (33, .int .i64 (l.length : Nat)), (34, .int .i64 (i : Nat))])
        (fun i w => i ≤ l.length ∧ St W F2 [mapq (Value.int .i64) r2 (AV.vals (delAV A (cl.take i)))] w) (fun i => l.length - i) 0 ⟨rfl, rfl, rfl, rfl, rfl, rfl, trivial⟩ ⟨Nat.zero_le _, hS⟩ ?_
      clear hS
      rintro i w ⟨hi, hS⟩
      by_cases hlt : i < l.length
      · have hx0 : l[i]? = some l[i] := List.getElem?_eq_getElem (by omega)
        generalize l[i] = x at hx0
        have hr := hC2.row
        have hxs : ((l.flatMap ChgA.cells).drop (i * 7)).take 7 = [.int .i64 x.c.no, .int .i64 x.c.nd.st.kind, .int .i64 x.c.nd.st.mode, .int .i64 x.c.nd.st.owner, .int .i64 x.c.nd.st.group, .slice x.a x.c.nd.data.length x.k, .bool x.c.drop] := chg_seg hx0
        obtain ⟨xb, xo, hxa⟩ := (hr.rd hS).base (by intro e; rw [e] at hxs; simp at hxs)
        rw [hxa] at hr ⊢
        repeat (first | (refine G_id ?_; first | refine G_nil ?_ | refine G_plain rfl rfl ?_) | (refine X_id ?_; first | refine X_yl (Yl_move rfl rfl) rfl rfl ?_ | refine X_yl (Yl_fieldAddr0 rfl rfl rfl) rfl rfl ?_ | refine X_yl (Yl_lss_t rfl rfl rfl (by omega)) rfl rfl ?_ | refine X_yl (Yl_indexAddr rfl rfl rfl (by omega) (by omega) (by first | assumption | exact ⟨_, _, rfl⟩)) rfl rfl ?_ | refine X_yl (Yl_load rfl rfl hS.cell) rfl rfl ?_ | refine X_yl (Yl_loadN rfl rfl ((hr.rd hS).cellsX (by omega) hxs rfl)) rfl rfl ?_ | refine X_store rfl rfl rfl rfl hS (fun _ hS _ => ?_) | refine X_alloc rfl rfl rfl hS (fun _ _ hS _ => ?_)) | (refine C_id ?_; first | refine C_seq ?_ | refine C_region ?_ | refine C_block ?_ | refine C_skip ?_ | refine C_cond_t rfl ?_) | (refine E_id ?_; first | refine E_code ?_))
        have hS := hS.pick [1, 0]
        refine X_mapDelete0 (mk := Value.int .i64) (k := x.c.no) rfl rfl rfl rfl hS (fun w hS => ?_)
        repeat (first | (refine G_id ?_; first | refine G_nil ?_ | refine G_plain rfl rfl ?_) | (refine X_id ?_; first | refine X_yl (Yl_move rfl rfl) rfl rfl ?_ | refine X_yl (Yl_add rfl rfl rfl (w64 (by omega) (by omega))) rfl rfl ?_) | (refine C_id ?_; first | refine C_region ?_) | (refine E_id ?_; first | refine E_code ?_ | refine E_blk_n ?_))
        refine E_round (i + 1) ⟨rfl, rfl, rfl, rfl, rfl, rfl, trivial⟩ ⟨by omega, ?_⟩ (by omega)
        rw [delAV_snoc (hget hx0), ← delM_A]
        exact hS.pick [0]
      · obtain rfl : i = l.length := by omega
        rw [List.take_of_length_le (by omega)] at hS
        repeat (first | (refine G_id ?_; first | refine G_nil ?_ | refine G_plain rfl rfl ?_) | (refine X_id ?_; first | refine X_yl (Yl_lss_f rfl rfl rfl (by omega)) rfl rfl ?_) | (refine C_id ?_; first | refine C_seq ?_ | refine C_region ?_ | refine C_exit ?_ | refine C_cond_f rfl ?_) | (refine E_id ?_; first | refine E_code ?_ | refine E_then_exit ?_ | refine E_blk_same ?_))
        exact E_mid () ⟨rfl, rfl, rfl, trivial⟩ hS
    clear hS
    rintro _ w hS
    have hsub := delAV_sub cl A
    have hents := delAV_ents cl A
    repeat (first | (refine G_id ?_; first | refine G_plain rfl rfl ?_) | (refine X_id ?_; first | refine X_yl (Yl_move rfl rfl) rfl rfl ?_) | (refine C_id ?_; first | refine C_seq ?_ | refine C_region ?_))
    refine X_callg _ rfl rfl rfl rfl rfl (free_ tp lp n r r2 p j m nb (delAV A cl) dat _ (hTo.rd hS) (hqo.rd hS) hE.len (hS.rd (List.mem_cons_self ..)) (fun x hx => (hbo.rd hS).bag (AV.row_b (hsub.mem hx))) (fun x hx => by
      have h1 := (hE.ok _ (AV.mem_ents (hsub.mem hx))).cnt
      have h2 := nblk_le (hE.ok _ (AV.mem_ents (hsub.mem hx))).len
      simp only at h1 h2
      omega) ((by rw [← keys_ents]; exact hE.nodup : (keysA A).Nodup).sublist (hsub.map _))) ?_
    rintro _ w ⟨fa, fc, rfl, hfc, hS'⟩
    replace hS := (hS.plus hS').toBag own_to_row
    clear hS'
    repeat (first | (refine G_id ?_; first | refine G_nil ?_ | refine G_plain rfl rfl ?_) | (refine X_id ?_; first | refine X_yl (Yl_move rfl rfl) rfl rfl ?_ | refine X_yl (Yl_assign rfl rfl) rfl rfl ?_ | refine X_yl (Yl_len rfl rfl) rfl rfl ?_ | refine X_yl (Yl_makeFunc rfl rfl rfl) rfl rfl ?_ | refine X_alloc rfl rfl rfl hS (fun _ _ hS _ => ?_)) | (refine C_id ?_; first | refine C_seq ?_ | refine C_region ?_ | refine C_block ?_) | (refine E_id ?_; first | refine E_code ?_))
    rename_i t10 _ _
    have hS := hS.own_none 80 2 none
    have hS := hS.pick [1, 0, 0, 0]
    obtain ⟨z0, hz0⟩ : ∃ z0 : ApZ, z0 = ⟨0, delAV A cl, fa, fc, freeL (AV.ents (delAV A cl)) nb, none, 0, [], [(fa, ints .i64 (freeL (AV.ents (delAV A cl)) nb))]⟩ := ⟨_, rfl⟩
    have hI0 : ApI A n nb cl z0 := by
      subst hz0
      refine ⟨Nat.zero_le _, ?_, List.mem_singleton.2 rfl, hfc, Nat.le_refl _, fun v hv => (by cases hv), fun x hx => .inl (hsub.mem hx), Nat.le_refl _, fun b hb => (freeL_mem.1 hb).1⟩
      simp only [List.take_zero, ApS.run, ApS.start, hents]
      rfl
    have hbound : ∀ z, ApI A n nb cl z → z.ws.length ≤ 9000 := fun z hz => by have h1 := hz.wl; have h2 := hz.hi; omega
    refine C_joinB (α := ApZ) (fun z => [(0, .pointer (some ⟨tp, 0, none⟩)), (6, .map (some r2)), (10, .pointer (some ⟨t10, 0, none⟩))]) (fun z w => (z.i = cl.length ∧ ApI A n nb cl z) ∧ St W F2 [pts t10 (.cells #[.slice z.aw z.ws.length z.cw] 77), own 80 2 z.aw z.cw (z.ws.flatMap Wr.cells), bag z.X, mapq (Value.int .i64) r2 (AV.vals z.A)] w) ?_ ?_
    · refine C_loop (α := ApZ) (fun z => [(0, .pointer (some ⟨tp, 0, none⟩)), (6, .map (some r2)), (9, .slice z.fa z.fl.length z.fc), (10, .pointer (some ⟨t10, 0, none⟩)), (11, .func (.func 22) #[] #[.pointer (some ⟨t10, 0, none⟩)]), (46, .slice a l.length c), (47, .int .i64 (l.length : Nat)), (48, .int .i64 (z.i : Nat))])
        (fun z w => ApI A n nb cl z ∧ St W F2 [pts t10 (.cells #[.slice z.aw z.ws.length z.cw] 77), own 80 2 z.aw z.cw (z.ws.flatMap Wr.cells), bag z.X, mapq (Value.int .i64) r2 (AV.vals z.A)] w) (fun z => l.length - z.i) z0 (by subst hz0; exact ⟨rfl, rfl, rfl, rfl, rfl, rfl, rfl, rfl, trivial⟩) (by subst hz0; exact ⟨hI0, hS⟩) ?_
      clear hS hI0 hz0
      rintro ⟨i, Az, fa, fc, fl, aw, cw, ws, X⟩ w ⟨hI, hS⟩
      have hwl := hbound _ hI
      have hii := hI.hi
      have hfcap := hI.fcap
      have hwcap := hI.wcap
      simp only at hS hwl hii hfcap hwcap ⊢
      by_cases hlt : i < l.length
      · have hx0 : l[i]? = some l[i] := List.getElem?_eq_getElem (by omega)
        generalize l[i] = x at hx0
        have hgx := hget hx0
        have hr := hC2.row
        have hxs : ((l.flatMap ChgA.cells).drop (i * 7)).take 7 = [.int .i64 x.c.no, .int .i64 x.c.nd.st.kind, .int .i64 x.c.nd.st.mode, .int .i64 x.c.nd.st.owner, .int .i64 x.c.nd.st.group, .slice x.a x.c.nd.data.length x.k, .bool x.c.drop] := chg_seg hx0
        have hlow := hR.low _ (List.mem_of_getElem? hgx)
        have hrun : (ApS.start A.ents nb cl).run n (cl.take (i + 1)) = ApS.step n ⟨AV.ents Az, fl, ws.map Wr.data⟩ x.c := by
          rw [List.take_add_one, hgx]
          show (ApS.start A.ents nb cl).run n (cl.take i ++ [x.c]) = _
          rw [run_snoc, hI.run]
          rfl
        obtain ⟨xb, xo, hxa⟩ := (hr.rd hS).base (by intro e; rw [e] at hxs; simp at hxs)
        rw [hxa] at hr ⊢
        cases hdp : x.c.drop
        · rw [hdp] at hxs
          have hokc := hR.ok _ (List.mem_of_getElem? hgx) hdp
          have hb8 := nblk_le hokc.2
          have hokl := hokc.2
          have hdata := hC2.all x (List.mem_of_getElem? hx0)
          by_cases hk : fl.length < nblk x.c.nd.data.length
          · have hnone : ApS.step n ⟨AV.ents Az, fl, ws.map Wr.data⟩ x.c = none := by unfold ApS.step; rw [if_neg (by simp [hdp]), if_pos hk]
            have hall : (ApS.start A.ents nb cl).run n cl = none := by
              have := run_none n (cl.take (i + 1)) (cl.drop (i + 1)) _ (hrun.trans hnone)
              rwa [List.take_append_drop] at this
            have hbad : (runT T nb cl).2.2 = true := by
              rcases hlaw with ⟨_, h⟩ | ⟨z, h1, _⟩
              · exact h
              · rw [hall] at h1; cases h1
            have hp : putT T nb (j / 2) cl = (6, T) := by unfold putT; rw [if_pos hbad]
            rw [hp]
            repeat (first | (refine G_id ?_; first | refine G_nil ?_ | refine G_plain rfl rfl ?_) | (refine X_id ?_; first | (refine X_callg 24 rfl rfl rfl rfl rfl (iblocks_ _ _ (by omega)) ?_; rintro _ _ ⟨rfl, rfl⟩) | refine X_yl (Yl_move rfl rfl) rfl rfl ?_ | refine X_yl (Yl_assign rfl rfl) rfl rfl ?_ | refine X_yl (Yl_fieldAddr0 rfl rfl rfl) rfl rfl ?_ | refine X_yl (Yl_fieldAddr rfl rfl rfl) rfl rfl ?_ | refine X_yl (Yl_len rfl rfl) rfl rfl ?_ | refine X_yl (Yl_lss_t rfl rfl rfl (by omega)) rfl rfl ?_ | refine X_yl (Yl_gtr_t rfl rfl rfl (by omega)) rfl rfl ?_ | refine X_yl (Yl_indexAddr rfl rfl rfl (by omega) (by omega) (by first | assumption | exact ⟨_, _, rfl⟩)) rfl rfl ?_ | refine X_yl (Yl_load rfl rfl hS.cell) rfl rfl ?_ | refine X_yl (Yl_loadN rfl rfl ((hr.rd hS).cellsX (by omega) hxs rfl)) rfl rfl ?_ | refine X_store rfl rfl rfl rfl hS (fun _ hS _ => ?_) | refine X_alloc rfl rfl rfl hS (fun _ _ hS _ => ?_)) | (refine C_id ?_; first | refine C_seq ?_ | refine C_region ?_ | refine C_block ?_ | refine C_ret ?_ | refine C_skip ?_ | refine C_cond_t rfl ?_ | refine C_cond_f rfl ?_) | (refine E_id ?_; first | refine E_code ?_ | refine E_then_ret ?_ | refine E_blk_ret ?_ | refine E_ret1 rfl (Rv_tmp rfl) (Ret.mk ?_)))
            exact ⟨rfl, ((hbk hS.drops).shutItab hok).head itab_up⟩
          · obtain ⟨bs, hbs⟩ : ∃ bs, bs = fl.take (nblk x.c.nd.data.length) := ⟨_, rfl⟩
            have hbsl : bs.length = nblk x.c.nd.data.length := by rw [hbs, List.length_take]; omega
            have hbfl : bs.length ≤ fl.length := by omega
            have hbst : bs = fl.take bs.length := by rw [hbsl]; exact hbs
            have hstep : ApS.step n ⟨AV.ents Az, fl, ws.map Wr.data⟩ x.c = some ⟨setA x.c.no ⟨x.c.nd, bs⟩ (AV.ents Az), fl.drop bs.length, ws.map Wr.data ++ (blockW n bs x.c.nd.data ++ [(1 + x.c.no, stoB ⟨x.c.nd, bs⟩)])⟩ := by
              unfold ApS.step
              rw [if_neg (by simp [hdp]), if_neg hk, ← hbs, ← hbsl]
            have hib : ∀ w, Calls Tryz.prog 24 #[.int .i64 (x.c.nd.data.length : Nat)] w (Ret fun v w' => v = .int .i64 (bs.length : Nat) ∧ w = w') := fun w => by rw [hbsl]; exact iblocks_ _ _ (by omega)
            repeat (first | (refine G_id ?_; first | refine G_nil ?_ | refine G_plain rfl rfl ?_) | (refine X_id ?_; first | (refine X_callg 24 rfl rfl rfl rfl rfl (hib _) ?_; rintro _ _ ⟨rfl, rfl⟩) | refine X_yl (Yl_move rfl rfl) rfl rfl ?_ | refine X_yl (Yl_assign rfl rfl) rfl rfl ?_ | refine X_yl (Yl_fieldAddr0 rfl rfl rfl) rfl rfl ?_ | refine X_yl (Yl_fieldAddr rfl rfl rfl) rfl rfl ?_ | refine X_yl (Yl_len rfl rfl) rfl rfl ?_ | refine X_yl (Yl_lss_t rfl rfl rfl (by omega)) rfl rfl ?_ | refine X_yl (Yl_gtr_f rfl rfl rfl (by omega)) rfl rfl ?_ | refine X_yl (Yl_indexAddr rfl rfl rfl (by omega) (by omega) (by first | assumption | exact ⟨_, _, rfl⟩)) rfl rfl ?_ | refine X_yl (Yl_load rfl rfl hS.cell) rfl rfl ?_ | refine X_yl (Yl_loadN rfl rfl ((hr.rd hS).cellsX (by omega) hxs rfl)) rfl rfl ?_ | refine X_store rfl rfl rfl rfl hS (fun _ hS _ => ?_) | refine X_alloc rfl rfl rfl hS (fun _ _ hS _ => ?_)) | (refine C_id ?_; first | refine C_seq ?_ | refine C_region ?_ | refine C_block ?_ | refine C_skip ?_ | refine C_cond_t rfl ?_ | refine C_cond_f rfl ?_) | (refine E_id ?_; first | refine E_code ?_))
            rename_i t13 _ _ _ _ _
            refine C_join (α := Nat × Option Addr × Nat) (fun y => [(0, .pointer (some ⟨tp, 0, none⟩)), (6, .map (some r2)), (9, .slice fa fl.length fc), (10, .pointer (some ⟨t10, 0, none⟩)), (11, .func (.func 22) #[] #[.pointer (some ⟨t10, 0, none⟩)]), (13, .pointer (some ⟨t13, 0, none⟩)), (14, .int .i64 (bs.length : Nat)), (15, .pointer (some ⟨y.1, 0, none⟩)), (46, .slice (some ⟨xb, xo, none⟩) l.length c), (47, .int .i64 (l.length : Nat)), (48, .int .i64 (i : Nat))])
              (fun y w => x.c.nd.data.length ≤ y.2.2 ∧ St W F2 [pts y.1 (.cells (stoV ⟨x.c.nd, bs⟩ y.2.1 y.2.2 fa bs.length).toArray 73), own 5 1 y.2.1 y.2.2 (bv x.c.nd.data), pts t13 (.cells (List.toArray [.int .i64 x.c.no, .int .i64 x.c.nd.st.kind, .int .i64 x.c.nd.st.mode, .int .i64 x.c.nd.st.owner, .int .i64 x.c.nd.st.group, .slice x.a x.c.nd.data.length x.k, .bool false]) 44),
                pts t10 (.cells #[.slice aw ws.length cw] 77), own 80 2 aw cw (ws.flatMap Wr.cells), bag X, mapq (Value.int .i64) r2 (AV.vals Az)] w) ?_ ?_
            · skip
              refine C_ord (.s 0 (.s 1 (.s 2 (.s 3 (.s 4 (.s 5 (.s 8 (.s 9 (.s 10 (.s 11 (.h 6 (.s 7 (.s 12 (.h 13 (.h 14 .nil .no) .no))) (.h 13 (.h 6 (.s 7 (.s 12 (.h 14 .nil .no))) .no) .no)))))))))))) mixed (by kernel_rfl) rfl ?_
              have hS := hS.drew
              repeat (first | (refine GO_id ?_; first | refine GO_pure rfl rfl (fun _ => Yl_move rfl rfl) rfl rfl ?_ | refine GO_pure rfl rfl (fun _ => Yl_fieldAddr0 rfl rfl rfl) rfl rfl ?_ | refine GO_pure rfl rfl (fun _ => Yl_fieldAddr rfl rfl rfl) rfl rfl ?_ | refine GO_read (fun w' => w'.cell? _ = some _) rfl rfl hS.cell (fun _ hc => Yl_load rfl rfl hc) rfl rfl ?_ | refine GO_read (fun w' => CellsN w' _ _ _) rfl rfl hS.cellsN (fun _ hc => Yl_loadN rfl rfl hc) rfl rfl ?_))
              refine GO_pure rfl rfl (fun _ => Yl_slice3 (l := 0) (h := bs.length) (k := bs.length) rfl rfl rfl rfl rfl ⟨_, _, rfl, by omega, by omega, by omega⟩ ⟨_, _, rfl, by omega, by omega, by omega⟩ (.inl ⟨rfl, rfl⟩)) rfl rfl ?_
              rw [sub_zero, Nat.sub_zero]
              refine GO_alt ?_ ?_
              · repeat (first | (refine GO_id ?_; first | refine GO_hard rfl rfl ?_))
                refine X_callg _ rfl rfl rfl rfl rfl (bclone_ x.a x.c.nd.data.length x.k x.c.nd.data _ (hdata.rd hS) rfl (by omega)) ?_
                rintro _ w ⟨da, dc, rfl, _, hdc, hS'⟩
                replace hS := hS.plus hS'
                clear hS'
                repeat (first | (refine X_id ?_; first | refine X_store rfl rfl rfl rfl hS (fun _ hS _ => ?_) | refine X_alloc rfl rfl rfl hS (fun _ _ hS _ => ?_)) | (refine GO_id ?_; first | refine GO_nil ?_ | refine GO_pure rfl rfl (fun _ => Yl_build rfl rfl rfl) rfl rfl ?_ | refine GO_hard rfl rfl ?_) | (refine Keep_id ?_; first | refine And.intro (by repeat (first | exact trivial | refine And.intro (.inl (by decide +kernel)) ?_ | refine And.intro (.inr (by first | assumption | exact hS.cell | exact cell_at (by assumption) | exact hS.cellI (by omega) | exact hS.cellIP (by omega) | exact hS.cellsN | exact ((hr.rd hS).cellX (by omega) hx) | exact ((hr2.rd hS).cellX (by omega) hx2) | exact hS.cellB (by omega) | exact hS.cellBA (by omega) | exact (hb.rd hS).cellB' (by omega) | exact (hb2.rd hS).cellB' (by omega) | exact (hg.rd hS).cellI (by omega) | exact (hg2.rd hS).cellI (by omega) | exact ((hr.rd hS).cellF (by first | omega | (dsimp only; omega)) hx) | exact ((hr2.rd hS).cellF (by first | omega | (dsimp only; omega)) hx2) | exact hS.cellO 0 (by omega) | exact hS.cellO 1 (by omega) | exact hS.cellIA (by omega) | exact (hg.rd hS).cellIA (by omega) | exact (hg2.rd hS).cellIA (by omega) | exact cell_at (hc.rd hS).pts | exact hb.rd hS | exact (hr.rd hS).cellsF7 (by first | omega | (dsimp only; omega)) hst4 rfl | exact (hr2.rd hS).cellsF7 (by first | omega | (dsimp only; omega)) hst4 rfl | exact hS.cellO 4 (by omega) | exact hS.cellO 5 (by omega) | exact hS.cellO 6 (by omega) | exact hS.cellO 7 (by omega) | exact hS.cellO 8 (by omega) | exact hS.cellO 9 (by omega) | exact hS.cellO 10 (by omega) | exact hS.cellO 11 (by omega) | exact hS.cellO 12 (by omega) | exact hS.cellO 13 (by omega) | exact hS.cellO 2 (by omega) | exact hS.cellO 3 (by omega))) ?_)) ?_))
                rename_i t15 _ _ _ _ _
                exact E_mid (t15, da, dc) ⟨rfl, rfl, rfl, rfl, rfl, rfl, rfl, rfl, rfl, rfl, rfl, trivial⟩ ⟨hdc, hS.took⟩
              · repeat (first | (refine X_id ?_; first | refine X_alloc rfl rfl rfl hS (fun _ _ hS _ => ?_)) | (refine GO_id ?_; first | refine GO_hard rfl rfl ?_) | (refine Keep_id ?_; first | refine And.intro (by repeat (first | exact trivial | refine And.intro (.inl (by decide +kernel)) ?_ | refine And.intro (.inr (by first | assumption | exact hS.cell | exact cell_at (by assumption) | exact hS.cellI (by omega) | exact hS.cellIP (by omega) | exact hS.cellsN | exact ((hr.rd hS).cellX (by omega) hx) | exact ((hr2.rd hS).cellX (by omega) hx2) | exact hS.cellB (by omega) | exact hS.cellBA (by omega) | exact (hb.rd hS).cellB' (by omega) | exact (hb2.rd hS).cellB' (by omega) | exact (hg.rd hS).cellI (by omega) | exact (hg2.rd hS).cellI (by omega) | exact ((hr.rd hS).cellF (by first | omega | (dsimp only; omega)) hx) | exact ((hr2.rd hS).cellF (by first | omega | (dsimp only; omega)) hx2) | exact hS.cellO 0 (by omega) | exact hS.cellO 1 (by omega) | exact hS.cellIA (by omega) | exact (hg.rd hS).cellIA (by omega) | exact (hg2.rd hS).cellIA (by omega) | exact cell_at (hc.rd hS).pts | exact hb.rd hS | exact (hr.rd hS).cellsF7 (by first | omega | (dsimp only; omega)) hst4 rfl | exact (hr2.rd hS).cellsF7 (by first | omega | (dsimp only; omega)) hst4 rfl | exact hS.cellO 4 (by omega) | exact hS.cellO 5 (by omega) | exact hS.cellO 6 (by omega) | exact hS.cellO 7 (by omega) | exact hS.cellO 8 (by omega) | exact hS.cellO 9 (by omega) | exact hS.cellO 10 (by omega) | exact hS.cellO 11 (by omega) | exact hS.cellO 12 (by omega) | exact hS.cellO 13 (by omega) | exact hS.cellO 2 (by omega) | exact hS.cellO 3 (by omega))) ?_)) ?_))
                refine X_callg _ rfl rfl rfl rfl rfl (bclone_ x.a x.c.nd.data.length x.k x.c.nd.data _ (hdata.rd hS) rfl (by omega)) ?_
                rintro _ w ⟨da, dc, rfl, _, hdc, hS'⟩
                replace hS := hS.plus hS'
                clear hS'
                repeat (first | (refine X_id ?_; first | refine X_store rfl rfl rfl rfl hS (fun _ hS _ => ?_)) | (refine GO_id ?_; first | refine GO_nil ?_ | refine GO_pure rfl rfl (fun _ => Yl_build rfl rfl rfl) rfl rfl ?_ | refine GO_hard rfl rfl ?_) | (refine Keep_id ?_; first | refine And.intro (by repeat (first | exact trivial | refine And.intro (.inl (by decide +kernel)) ?_ | refine And.intro (.inr (by first | assumption | exact hS.cell | exact cell_at (by assumption) | exact hS.cellI (by omega) | exact hS.cellIP (by omega) | exact hS.cellsN | exact ((hr.rd hS).cellX (by omega) hx) | exact ((hr2.rd hS).cellX (by omega) hx2) | exact hS.cellB (by omega) | exact hS.cellBA (by omega) | exact (hb.rd hS).cellB' (by omega) | exact (hb2.rd hS).cellB' (by omega) | exact (hg.rd hS).cellI (by omega) | exact (hg2.rd hS).cellI (by omega) | exact ((hr.rd hS).cellF (by first | omega | (dsimp only; omega)) hx) | exact ((hr2.rd hS).cellF (by first | omega | (dsimp only; omega)) hx2) | exact hS.cellO 0 (by omega) | exact hS.cellO 1 (by omega) | exact hS.cellIA (by omega) | exact (hg.rd hS).cellIA (by omega) | exact (hg2.rd hS).cellIA (by omega) | exact cell_at (hc.rd hS).pts | exact hb.rd hS | exact (hr.rd hS).cellsF7 (by first | omega | (dsimp only; omega)) hst4 rfl | exact (hr2.rd hS).cellsF7 (by first | omega | (dsimp only; omega)) hst4 rfl | exact hS.cellO 4 (by omega) | exact hS.cellO 5 (by omega) | exact hS.cellO 6 (by omega) | exact hS.cellO 7 (by omega) | exact hS.cellO 8 (by omega) | exact hS.cellO 9 (by omega) | exact hS.cellO 10 (by omega) | exact hS.cellO 11 (by omega) | exact hS.cellO 12 (by omega) | exact hS.cellO 13 (by omega) | exact hS.cellO 2 (by omega) | exact hS.cellO 3 (by omega))) ?_)) ?_))
                rename_i t15 _ _ _ _ _ _
                exact E_mid (t15, da, dc) ⟨rfl, rfl, rfl, rfl, rfl, rfl, rfl, rfl, rfl, rfl, rfl, trivial⟩ ⟨hdc, hS.took⟩
            · clear hS
              rintro ⟨t15, da, dc⟩ w ⟨hdc, hS⟩
              simp only at hdc hS ⊢
              have hS := (hS.pick [1, 4, 0, 0, 0, 0, 0]).bagAdd own_to_row
              have hS := hS.bagPart (List.mem_cons_of_mem _ hI.fX) (row_take bs.length)
              have hbi : (ints .i64 fl).take bs.length = ints .i64 bs := by rw [hbst]; simp [ints, List.map_take]
              simp only [hbi] at hS
              have hS := hS.bagPart (List.mem_cons_of_mem _ (List.mem_cons_of_mem _ hI.fX)) (row_drop (k := bs.length) (c := fc) (by simp only [ints_length]; exact hfcap) (by simp only [ints_length]; exact hbfl))
              have hfi : (ints .i64 fl).drop bs.length = ints .i64 (fl.drop bs.length) := by simp [ints, List.map_drop]
              simp only [hfi] at hS
              obtain ⟨X2, hX2⟩ : ∃ X2, X2 = (sub fa bs.length 1 fc, ints .i64 (fl.drop bs.length)) :: (fa, ints .i64 bs) :: (da, bv x.c.nd.data) :: X := ⟨_, rfl⟩
              rw [← hX2] at hS
              repeat (first | (refine G_id ?_; first | refine G_plain rfl rfl ?_) | (refine X_id ?_; first | refine X_yl (Yl_move rfl rfl) rfl rfl ?_) | (refine C_id ?_; first | refine C_seq ?_ | refine C_region ?_))
              refine X_yl (Yl_slice (l := bs.length) (h := fl.length) rfl rfl rfl rfl (.inl ⟨rfl, rfl⟩) (.inr ⟨_, _, rfl, by omega, by omega, by omega⟩)) rfl rfl ?_
              repeat (first | (refine G_id ?_; first | refine G_nil ?_ | refine G_plain rfl rfl ?_) | (refine X_id ?_; first | refine X_yl (Yl_move rfl rfl) rfl rfl ?_ | refine X_yl (Yl_assign rfl rfl) rfl rfl ?_ | refine X_yl (Yl_fieldAddr0 rfl rfl rfl) rfl rfl ?_ | refine X_yl (Yl_len rfl rfl) rfl rfl ?_ | refine X_yl (Yl_load rfl rfl hS.cell) rfl rfl ?_) | (refine C_id ?_; first | refine C_seq ?_ | refine C_region ?_ | refine C_block ?_) | (refine E_id ?_; first | refine E_code ?_))
              have hsubX : ∀ y ∈ X, y ∈ X2 := fun y hy => by rw [hX2]; exact List.mem_cons_of_mem _ (List.mem_cons_of_mem _ (List.mem_cons_of_mem _ hy))
              have hX2a : (sub fa bs.length 1 fc, ints .i64 (fl.drop bs.length)) ∈ X2 := by rw [hX2]; exact List.mem_cons_self ..
              have hX2b : (fa, ints .i64 bs) ∈ X2 := by rw [hX2]; exact List.mem_cons_of_mem _ (List.mem_cons_self ..)
              have hX2c : (da, bv x.c.nd.data) ∈ X2 := by rw [hX2]; exact List.mem_cons_of_mem _ (List.mem_cons_of_mem _ (List.mem_cons_self ..))
              refine C_joinB (α := Option Addr × Nat × List Wr × List RowD) (fun _ => [(0, .pointer (some ⟨tp, 0, none⟩)), (6, .map (some r2)), (9, .slice (sub fa bs.length 1 fc) (fl.length - bs.length) (fc - bs.length)), (10, .pointer (some ⟨t10, 0, none⟩)), (11, .func (.func 22) #[] #[.pointer (some ⟨t10, 0, none⟩)]), (13, .pointer (some ⟨t13, 0, none⟩)), (15, .pointer (some ⟨t15, 0, none⟩)), (46, .slice (some ⟨xb, xo, none⟩) l.length c), (47, .int .i64 (l.length : Nat)), (48, .int .i64 (i : Nat))])
                (fun y w => BlI n bs x.c.nd.data ws X2 bs.length y.2.1 y.2.2.1 y.2.2.2 ∧ St W F2 [pts t10 (.cells #[.slice y.1 y.2.2.1.length y.2.1] 77), own 80 2 y.1 y.2.1 (y.2.2.1.flatMap Wr.cells), bag y.2.2.2, pts t15 (.cells (stoV ⟨x.c.nd, bs⟩ da dc fa bs.length).toArray 73), pts t13 (.cells (List.toArray [.int .i64 x.c.no, .int .i64 x.c.nd.st.kind, .int .i64 x.c.nd.st.mode, .int .i64 x.c.nd.st.owner, .int .i64 x.c.nd.st.group, .slice x.a x.c.nd.data.length x.k, .bool false]) 44), mapq (Value.int .i64) r2 (AV.vals Az)] w) ?_ ?_
              · refine C_loop (α := Nat × Option Addr × Nat × List Wr × List RowD) (fun y => [(0, .pointer (some ⟨tp, 0, none⟩)), (6, .map (some r2)), (9, .slice (sub fa bs.length 1 fc) (fl.length - bs.length) (fc - bs.length)), (10, .pointer (some ⟨t10, 0, none⟩)), (11, .func (.func 22) #[] #[.pointer (some ⟨t10, 0, none⟩)]), (13, .pointer (some ⟨t13, 0, none⟩)), (15, .pointer (some ⟨t15, 0, none⟩)), (46, .slice (some ⟨xb, xo, none⟩) l.length c), (47, .int .i64 (l.length : Nat)), (48, .int .i64 (i : Nat)), (85, .slice fa bs.length bs.length), (86, .int .i64 (bs.length : Nat)), (87, .int .i64 (y.1 : Nat))])
                  (fun y w => y.1 ≤ bs.length ∧ BlI n bs x.c.nd.data ws X2 y.1 y.2.2.1 y.2.2.2.1 y.2.2.2.2 ∧ St W F2 [pts t10 (.cells #[.slice y.2.1 y.2.2.2.1.length y.2.2.1] 77), own 80 2 y.2.1 y.2.2.1 (y.2.2.2.1.flatMap Wr.cells), bag y.2.2.2.2, pts t15 (.cells (stoV ⟨x.c.nd, bs⟩ da dc fa bs.length).toArray 73), pts t13 (.cells (List.toArray [.int .i64 x.c.no, .int .i64 x.c.nd.st.kind, .int .i64 x.c.nd.st.mode, .int .i64 x.c.nd.st.owner, .int .i64 x.c.nd.st.group, .slice x.a x.c.nd.data.length x.k, .bool false]) 44), mapq (Value.int .i64) r2 (AV.vals Az)] w)
                  (fun y => bs.length - y.1) (0, aw, cw, ws, X2) ⟨rfl, rfl, rfl, rfl, rfl, rfl, rfl, rfl, rfl, rfl, rfl, rfl, rfl, trivial⟩ ⟨Nat.zero_le _, ⟨by simp, hwcap, fun v hv => hsubX _ (hI.wX v hv), fun _ h => h⟩, hS.took⟩ ?_
                clear hS
                rintro ⟨i2, aw2, cw2, ws2, X3⟩ w ⟨hi2, hB, hS⟩
                simp only at hi2 hB hS ⊢
                have hwl2 := hB.len hi2
                have hcap2 := hB.cap
                by_cases hlt2 : i2 < bs.length
                · have hb0 : bs[i2]? = some bs[i2] := List.getElem?_eq_getElem hlt2
                  generalize bs[i2] = b at hb0
                  have hblow := hI.flow b (by have := List.mem_of_getElem? hb0; rw [hbst] at this; exact List.mem_of_mem_take this)
                  have hxI : (ints .i64 bs)[i2]? = some (.int .i64 b) := by simp [ints, hb0]
                  have hbagR : ∀ w rs, St W F2 (pts t10 (.cells #[.slice aw2 ws2.length cw2] 77) :: own 80 2 aw2 cw2 (ws2.flatMap Wr.cells) :: bag X3 :: rs) w → Rd w (row fa (ints .i64 bs)) := fun w rs h => (h.rd (r := bag X3) (by simp)).bag (hB.sub _ hX2b)
                  have hfaE : ∃ b off, fa = some ⟨b, off, none⟩ := (hbagR _ _ hS).base (by intro e; rw [e] at hxI; simp at hxI)
                  repeat (first | (refine G_id ?_; first | refine G_nil ?_ | refine G_plain rfl rfl ?_) | (refine X_id ?_; first | refine X_yl (Yl_move rfl rfl) rfl rfl ?_ | refine X_yl (Yl_lss_t rfl rfl rfl (by omega)) rfl rfl ?_ | refine X_yl (Yl_indexAddr rfl rfl rfl (by omega) (by omega) (by first | assumption | exact ⟨_, _, rfl⟩)) rfl rfl ?_) | (refine C_id ?_; first | refine C_seq ?_ | refine C_region ?_ | refine C_block ?_ | refine C_skip ?_ | refine C_cond_t rfl ?_) | (refine E_id ?_; first | refine E_code ?_))
                  refine X_yl (Yl_load rfl rfl ((hbagR _ _ hS).cellX (by omega) hxI)) rfl rfl ?_
                  repeat (first | (refine G_id ?_; first | refine G_nil ?_ | refine G_plain rfl rfl ?_) | (refine X_id ?_; first | refine X_yl (Yl_assign rfl rfl) rfl rfl ?_) | (refine E_id ?_; first | refine E_code ?_))
                  refine C_ord (.s 0 (.s 1 (.s 2 (.s 4 (.s 5 (.s 6 (.s 7 (.s 8 (.s 9 (.s 10 (.s 11 (.s 12 (.s 13 (.s 14 (.s 15 (.s 16 (.s 17 (.h 3 (.h 18 .nil .no) .no)))))))))))))))))) mixed (by kernel_rfl) rfl ?_
                  have hS := hS.drew
                  repeat (first | (refine GO_id ?_; first | refine GO_pure rfl rfl (fun _ => Yl_move rfl rfl) rfl rfl ?_ | refine GO_pure rfl rfl (fun _ => Yl_fieldAddr0 rfl rfl rfl) rfl rfl ?_ | refine GO_pure rfl rfl (fun _ => Yl_len rfl rfl) rfl rfl ?_ | refine GO_pure rfl rfl (fun _ => Yl_add rfl rfl rfl (w64 (by omega) (by omega))) rfl rfl ?_ | refine GO_pure rfl rfl (fun _ => Yl_mul rfl rfl rfl (w64 (by omega) (by omega))) rfl rfl ?_ | refine GO_read (fun w' => w'.cell? _ = some _) rfl rfl hS.cell (fun _ hc => Yl_load rfl rfl hc) rfl rfl ?_))
                  refine GO_pure rfl rfl (fun _ => Yl_minI rfl rfl rfl) rfl rfl ?_
                  obtain ⟨hN, hhN⟩ : ∃ hN : Nat, hN = min (64 * (i2 + 1)) x.c.nd.data.length := ⟨_, rfl⟩
                  have hmin : min (64 * ((i2 : Int) + 1)) (x.c.nd.data.length : Nat) = (hN : Nat) := by omega
                  rw [hmin]
                  have hnb : 64 * i2 ≤ hN := by
                    have : 64 * i2 < x.c.nd.data.length := by rw [hbsl] at hlt2; unfold nblk at hlt2; omega
                    omega
                  refine GO_pure rfl rfl (fun _ => Yl_slice (l := 64 * i2) (h := hN) rfl rfl rfl rfl (.inr ⟨_, _, rfl, by omega, by omega, by omega⟩) (.inr ⟨_, _, rfl, by omega, by omega, by omega⟩)) rfl rfl ?_
                  repeat (first | (refine X_id ?_; first | (refine X_callg 26 rfl rfl rfl rfl rfl (tblock_ tp lp n r b _ (hTo.rd hS) (by omega) hblow.1 (by omega)) ?_; rintro _ _ ⟨rfl, rfl⟩)) | (refine GO_id ?_; first | refine GO_hard rfl rfl ?_) | (refine Keep_id ?_; first | refine And.intro (by repeat (first | exact trivial | refine And.intro (.inl (by decide +kernel)) ?_ | refine And.intro (.inr (by first | assumption | exact hS.cell | exact cell_at (by assumption) | exact hS.cellI (by omega) | exact hS.cellIP (by omega) | exact hS.cellsN | exact ((hr.rd hS).cellX (by omega) hx) | exact ((hr2.rd hS).cellX (by omega) hx2) | exact hS.cellB (by omega) | exact hS.cellBA (by omega) | exact (hb.rd hS).cellB' (by omega) | exact (hb2.rd hS).cellB' (by omega) | exact (hg.rd hS).cellI (by omega) | exact (hg2.rd hS).cellI (by omega) | exact ((hr.rd hS).cellF (by first | omega | (dsimp only; omega)) hx) | exact ((hr2.rd hS).cellF (by first | omega | (dsimp only; omega)) hx2) | exact hS.cellO 0 (by omega) | exact hS.cellO 1 (by omega) | exact hS.cellIA (by omega) | exact (hg.rd hS).cellIA (by omega) | exact (hg2.rd hS).cellIA (by omega) | exact cell_at (hc.rd hS).pts | exact hb.rd hS | exact (hr.rd hS).cellsF7 (by first | omega | (dsimp only; omega)) hst4 rfl | exact (hr2.rd hS).cellsF7 (by first | omega | (dsimp only; omega)) hst4 rfl | exact hS.cellO 4 (by omega) | exact hS.cellO 5 (by omega) | exact hS.cellO 6 (by omega) | exact hS.cellO 7 (by omega) | exact hS.cellO 8 (by omega) | exact hS.cellO 9 (by omega) | exact hS.cellO 10 (by omega) | exact hS.cellO 11 (by omega) | exact hS.cellO 12 (by omega) | exact hS.cellO 13 (by omega) | exact hS.cellO 2 (by omega) | exact hS.cellO 3 (by omega))) ?_)) ?_))
                  obtain ⟨_, hc3, hr3, hw3, hbk3⟩ := hS.call [true, true, false, false, false, false]
                  have hdb := ((hr3 (bag X3) (by simp)).bag (hB.sub _ hX2c)).subBytes (l := 64 * i2) (h := hN) (c := dc) (by omega) hnb
                  refine X_call (first := []) (captured := [.pointer (some ⟨t10, 0, none⟩)]) rfl rfl rfl rfl rfl (put_n t10 aw2 cw2 ws2 (1 + (n : Int) + b) (sub da (64 * i2) 1 dc) (hN - 64 * i2) (dc - 64 * i2) ((x.c.nd.data.drop (64 * i2)).take (hN - 64 * i2)) _ _ hdb (by rw [List.length_take, List.length_drop]; omega) hcap2 (by omega) hc3) ?_
                  rintro _ w ⟨rfl, aw3, cw3, q, hcw3, hS⟩
                  replace hS := hbk3 hS
                  clear hc3 hr3 hw3 hbk3
                  rw [chunk_of _ _ _ hhN] at hS
                  repeat (first | (refine G_id ?_; first | refine G_nil ?_ | refine G_plain rfl rfl ?_) | (refine X_id ?_; first | refine X_yl (Yl_move rfl rfl) rfl rfl ?_ | refine X_yl (Yl_add rfl rfl rfl (w64 (by omega) (by omega))) rfl rfl ?_) | (refine C_id ?_; first | refine C_region ?_) | (refine E_id ?_; first | refine E_code ?_ | refine E_blk_n ?_) | (refine GO_id ?_; first | refine GO_nil ?_) | (refine Keep_id ?_; first | refine And.intro (by repeat (first | exact trivial | refine And.intro (.inl (by decide +kernel)) ?_ | refine And.intro (.inr (by first | assumption | exact hS.cell | exact cell_at (by assumption) | exact hS.cellI (by omega) | exact hS.cellIP (by omega) | exact hS.cellsN | exact ((hr.rd hS).cellX (by omega) hx) | exact ((hr2.rd hS).cellX (by omega) hx2) | exact hS.cellB (by omega) | exact hS.cellBA (by omega) | exact (hb.rd hS).cellB' (by omega) | exact (hb2.rd hS).cellB' (by omega) | exact (hg.rd hS).cellI (by omega) | exact (hg2.rd hS).cellI (by omega) | exact ((hr.rd hS).cellF (by first | omega | (dsimp only; omega)) hx) | exact ((hr2.rd hS).cellF (by first | omega | (dsimp only; omega)) hx2) | exact hS.cellO 0 (by omega) | exact hS.cellO 1 (by omega) | exact hS.cellIA (by omega) | exact (hg.rd hS).cellIA (by omega) | exact (hg2.rd hS).cellIA (by omega) | exact cell_at (hc.rd hS).pts | exact hb.rd hS | exact (hr.rd hS).cellsF7 (by first | omega | (dsimp only; omega)) hst4 rfl | exact (hr2.rd hS).cellsF7 (by first | omega | (dsimp only; omega)) hst4 rfl | exact hS.cellO 4 (by omega) | exact hS.cellO 5 (by omega) | exact hS.cellO 6 (by omega) | exact hS.cellO 7 (by omega) | exact hS.cellO 8 (by omega) | exact hS.cellO 9 (by omega) | exact hS.cellO 10 (by omega) | exact hS.cellO 11 (by omega) | exact hS.cellO 12 (by omega) | exact hS.cellO 13 (by omega) | exact hS.cellO 2 (by omega) | exact hS.cellO 3 (by omega))) ?_)) ?_))
                  have hS := (hS.pick [2, 2, 0, 0, 0, 0, 0]).bagAdd (fun _ h => h)
                  have hS := hS.pick [1, 1, 0, 0, 0, 0]
                  refine E_round (α := Nat × Option Addr × Nat × List Wr × List RowD) (z := (i2, aw2, cw2, ws2, X3)) (i2 + 1, aw3, cw3, ws2 ++ [putW (1 + (n : Int) + b) q ((x.c.nd.data.drop (64 * i2)).take (hN - 64 * i2))], (some ⟨q, 0, none⟩, bv (chunkB x.c.nd.data i2)) :: X3) ⟨rfl, rfl, rfl, rfl, rfl, rfl, rfl, rfl, rfl, rfl, rfl, rfl, rfl, trivial⟩ ⟨by simp only; omega, ⟨?_, by simp only [List.length_append, List.length_cons, List.length_nil]; exact hcw3, fun v hv => ?_, fun y hy => List.mem_cons_of_mem _ (hB.sub y hy)⟩, ?_⟩ (by simp only; omega)
                  · simp only
                    rw [List.map_append, hB.data, blockW_take hb0, List.append_assoc]
                    congr 2
                    simp [Wr.data, chunk_of _ _ _ hhN]
                  · rcases List.mem_append.1 hv with hv | hv
                    · exact List.mem_cons_of_mem _ (hB.wX v hv)
                    · rw [List.mem_singleton] at hv
                      rw [hv]
                      simp only [chunk_of _ _ _ hhN]
                      exact List.mem_cons_self ..
                  · simp only [List.length_append, List.length_cons, List.length_nil]
                    exact hS
                · obtain rfl : i2 = bs.length := by omega
                  repeat (first | (refine G_id ?_; first | refine G_nil ?_ | refine G_plain rfl rfl ?_) | (refine X_id ?_; first | refine X_yl (Yl_lss_f rfl rfl rfl (by omega)) rfl rfl ?_) | (refine C_id ?_; first | refine C_seq ?_ | refine C_region ?_ | refine C_exit ?_ | refine C_cond_f rfl ?_) | (refine E_id ?_; first | refine E_code ?_ | refine E_then_exit ?_ | refine E_blk_same ?_))
                  exact E_mid (aw2, cw2, ws2, X3) ⟨rfl, rfl, rfl, rfl, rfl, rfl, rfl, rfl, rfl, rfl, trivial⟩ ⟨hB, hS⟩
              · clear hS
                rintro ⟨aw2, cw2, ws2, X3⟩ w ⟨hB, hS⟩
                simp only at hB hS ⊢
                have hwl2 := hB.len (Nat.le_refl _)
                have hcap2 := hB.cap
                repeat (first | (refine C_id ?_; first | refine C_seq ?_))
                refine C_ord (.s 0 (.s 1 (.s 2 (.s 3 (.s 4 (.h 5 (.h 6 .nil .no) .no)))))) mixed (by kernel_rfl) rfl ?_
                have hS := hS.drew
                repeat (first | (refine GO_id ?_; first | refine GO_pure rfl rfl (fun _ => Yl_move rfl rfl) rfl rfl ?_ | refine GO_pure rfl rfl (fun _ => Yl_fieldAddr0 rfl rfl rfl) rfl rfl ?_ | refine GO_pure rfl rfl (fun _ => Yl_add rfl rfl rfl (w64 (by omega) (by omega))) rfl rfl ?_ | refine GO_read (fun w' => w'.cell? _ = some _) rfl rfl hS.cell (fun _ hc => Yl_load rfl rfl hc) rfl rfl ?_ | refine GO_read (fun w' => CellsN w' _ _ _) rfl rfl hS.cellsN (fun _ hc => Yl_loadN rfl rfl hc) rfl rfl ?_ | refine GO_hard rfl rfl ?_))
                refine X_callg _ rfl rfl rfl rfl rfl (sector_ ⟨x.c.nd, bs⟩ da dc fa bs.length _ ((hS.rd (r := bag X3) (by simp)).bag (hB.sub _ hX2b)) (by simp only; omega) (by simp only; omega)) ?_
                rintro _ w ⟨q1, rfl, hS'⟩
                replace hS := hS.plus hS'
                clear hS'
                repeat (first | (refine GO_id ?_; first | refine GO_hard rfl rfl ?_) | (refine Keep_id ?_; first | refine And.intro (by repeat (first | exact trivial | refine And.intro (.inl (by decide +kernel)) ?_ | refine And.intro (.inr (by first | assumption | exact hS.cell | exact cell_at (by assumption) | exact hS.cellI (by omega) | exact hS.cellIP (by omega) | exact hS.cellsN | exact ((hr.rd hS).cellX (by omega) hx) | exact ((hr2.rd hS).cellX (by omega) hx2) | exact hS.cellB (by omega) | exact hS.cellBA (by omega) | exact (hb.rd hS).cellB' (by omega) | exact (hb2.rd hS).cellB' (by omega) | exact (hg.rd hS).cellI (by omega) | exact (hg2.rd hS).cellI (by omega) | exact ((hr.rd hS).cellF (by first | omega | (dsimp only; omega)) hx) | exact ((hr2.rd hS).cellF (by first | omega | (dsimp only; omega)) hx2) | exact hS.cellO 0 (by omega) | exact hS.cellO 1 (by omega) | exact hS.cellIA (by omega) | exact (hg.rd hS).cellIA (by omega) | exact (hg2.rd hS).cellIA (by omega) | exact cell_at (hc.rd hS).pts | exact hb.rd hS | exact (hr.rd hS).cellsF7 (by first | omega | (dsimp only; omega)) hst4 rfl | exact (hr2.rd hS).cellsF7 (by first | omega | (dsimp only; omega)) hst4 rfl | exact hS.cellO 4 (by omega) | exact hS.cellO 5 (by omega) | exact hS.cellO 6 (by omega) | exact hS.cellO 7 (by omega) | exact hS.cellO 8 (by omega) | exact hS.cellO 9 (by omega) | exact hS.cellO 10 (by omega) | exact hS.cellO 11 (by omega) | exact hS.cellO 12 (by omega) | exact hS.cellO 13 (by omega) | exact hS.cellO 2 (by omega) | exact hS.cellO 3 (by omega))) ?_)) ?_))
                obtain ⟨_, hc3, hr3, hw3, hbk3⟩ := hS.call [false, true, true, false, false, false, false]
                refine X_call (first := []) (captured := [.pointer (some ⟨t10, 0, none⟩)]) rfl rfl rfl rfl rfl (put_n t10 aw2 cw2 ws2 (1 + x.c.no) (some ⟨q1, 0, none⟩) 64 64 (stoB ⟨x.c.nd, bs⟩) _ _ (hr3 (bytes (some ⟨q1, 0, none⟩) (stoB ⟨x.c.nd, bs⟩)) (by simp)) (stoB_length _) hcap2 (by omega) hc3) ?_
                rintro _ w ⟨rfl, aw3, cw3, q, hcw3, hS⟩
                replace hS := hbk3 hS
                clear hc3 hr3 hw3 hbk3
                rw [fullB_64 (stoB_length _)] at hS
                have hS := hS.took (out := [mapq (Value.int .i64) r2 (AV.vals Az), bytes (some ⟨q, 0, none⟩) (stoB ⟨x.c.nd, bs⟩), bag X3, pts t10 (.cells #[.slice aw3 (ws2.length + 1) cw3] 77), own 80 2 aw3 cw3 ((ws2 ++ [putW (1 + x.c.no) q (stoB ⟨x.c.nd, bs⟩)]).flatMap Wr.cells), pts t15 (.cells (stoV ⟨x.c.nd, bs⟩ da dc fa bs.length).toArray 73), pts t13 (.cells (List.toArray [.int .i64 x.c.no, .int .i64 x.c.nd.st.kind, .int .i64 x.c.nd.st.mode, .int .i64 x.c.nd.st.owner, .int .i64 x.c.nd.st.group, .slice x.a x.c.nd.data.length x.k, .bool false]) 44)])
                repeat (first | (refine G_id ?_; first | refine G_plain rfl rfl ?_) | (refine X_id ?_; first | refine X_yl (Yl_move rfl rfl) rfl rfl ?_ | refine X_yl (Yl_fieldAddr0 rfl rfl rfl) rfl rfl ?_ | refine X_yl (Yl_load rfl rfl hS.cell) rfl rfl ?_ | refine X_yl (Yl_loadN rfl rfl hS.cellsN) rfl rfl ?_) | (refine C_id ?_; first | refine C_region ?_) | (refine E_id ?_; first | refine E_code ?_) | (refine GO_id ?_; first | refine GO_nil ?_) | (refine Keep_id ?_; first | refine And.intro (by repeat (first | exact trivial | refine And.intro (.inl (by decide +kernel)) ?_ | refine And.intro (.inr (by first | assumption | exact hS.cell | exact cell_at (by assumption) | exact hS.cellI (by omega) | exact hS.cellIP (by omega) | exact hS.cellsN | exact ((hr.rd hS).cellX (by omega) hx) | exact ((hr2.rd hS).cellX (by omega) hx2) | exact hS.cellB (by omega) | exact hS.cellBA (by omega) | exact (hb.rd hS).cellB' (by omega) | exact (hb2.rd hS).cellB' (by omega) | exact (hg.rd hS).cellI (by omega) | exact (hg2.rd hS).cellI (by omega) | exact ((hr.rd hS).cellF (by first | omega | (dsimp only; omega)) hx) | exact ((hr2.rd hS).cellF (by first | omega | (dsimp only; omega)) hx2) | exact hS.cellO 0 (by omega) | exact hS.cellO 1 (by omega) | exact hS.cellIA (by omega) | exact (hg.rd hS).cellIA (by omega) | exact (hg2.rd hS).cellIA (by omega) | exact cell_at (hc.rd hS).pts | exact hb.rd hS | exact (hr.rd hS).cellsF7 (by first | omega | (dsimp only; omega)) hst4 rfl | exact (hr2.rd hS).cellsF7 (by first | omega | (dsimp only; omega)) hst4 rfl | exact hS.cellO 4 (by omega) | exact hS.cellO 5 (by omega) | exact hS.cellO 6 (by omega) | exact hS.cellO 7 (by omega) | exact hS.cellO 8 (by omega) | exact hS.cellO 9 (by omega) | exact hS.cellO 10 (by omega) | exact hS.cellO 11 (by omega) | exact hS.cellO 12 (by omega) | exact hS.cellO 13 (by omega) | exact hS.cellO 2 (by omega) | exact hS.cellO 3 (by omega))) ?_)) ?_))
                refine X_mapUpdateQ (mk := Value.int .i64) (k := x.c.no) (v := SV.val ⟨⟨x.c.nd, bs⟩, da, dc, fa, bs.length⟩) rfl rfl rfl rfl rfl hS (fun w hS => ?_)
                rw [setM_A] at hS
                repeat (first | (refine G_id ?_; first | refine G_nil ?_ | refine G_plain rfl rfl ?_) | (refine X_id ?_; first | refine X_yl (Yl_move rfl rfl) rfl rfl ?_ | refine X_yl (Yl_add rfl rfl rfl (w64 (by omega) (by omega))) rfl rfl ?_) | (refine C_id ?_; first | refine C_region ?_) | (refine E_id ?_; first | refine E_code ?_ | refine E_blk_n ?_))
                have hS := (hS.pick [1, 1, 1, 1, 0]).bagAdd (fun _ h => h)
                have hS := hS.pick [1, 1, 0, 0]
                have hbt : (blockW n bs x.c.nd.data).take bs.length = blockW n bs x.c.nd.data := List.take_of_length_le (by simp [blockW])
                refine E_round (α := ApZ) (z := ⟨i, Az, fa, fc, fl, aw, cw, ws, X⟩) (⟨i + 1, setA x.c.no ⟨⟨x.c.nd, bs⟩, da, dc, fa, bs.length⟩ Az, sub fa bs.length 1 fc, fc - bs.length, fl.drop bs.length, aw3, cw3, ws2 ++ [putW (1 + x.c.no) q (stoB ⟨x.c.nd, bs⟩)], (some ⟨q, 0, none⟩, bv (stoB ⟨x.c.nd, bs⟩)) :: X3⟩ : ApZ) ⟨rfl, rfl, by simp only; rw [List.length_drop]; rfl, rfl, rfl, rfl, rfl, rfl, trivial⟩
                  ⟨⟨by simp only; omega, ?_, List.mem_cons_of_mem _ (hB.sub _ hX2a), by simp only [List.length_drop]; omega, by simp only [List.length_append, List.length_cons, List.length_nil]; exact hcw3, fun v hv => ?_, fun y hy => ?_, ?_, fun b hb => hI.flow b (List.mem_of_mem_drop hb)⟩, ?_⟩ (by simp only; omega)
                · simp only
                  rw [hrun, hstep, List.map_append, hB.data, hbt, List.append_assoc, show AV.ents (setA x.c.no (⟨⟨x.c.nd, bs⟩, da, dc, fa, bs.length⟩ : SV) Az) = setA x.c.no ⟨x.c.nd, bs⟩ (AV.ents Az) from (setA_map SV.s).symm]
                  have : fullB (stoB ⟨x.c.nd, bs⟩) = stoB ⟨x.c.nd, bs⟩ := fullB_64 (stoB_length _)
                  simp [Wr.data, this]
                · rcases List.mem_append.1 hv with hv | hv
                  · exact List.mem_cons_of_mem _ (hB.wX v hv)
                  · rw [List.mem_singleton] at hv
                    rw [hv]
                    have : fullB (stoB ⟨x.c.nd, bs⟩) = stoB ⟨x.c.nd, bs⟩ := fullB_64 (stoB_length _)
                    simp only [this]
                    exact List.mem_cons_self ..
                · rcases mem_setA hy with rfl | hy
                  · exact .inr ⟨List.mem_cons_of_mem _ (hB.sub _ hX2c), List.mem_cons_of_mem _ (hB.sub _ hX2b)⟩
                  · exact (hI.aX y hy).imp id fun h => ⟨List.mem_cons_of_mem _ (hB.sub _ (hsubX _ h.1)), List.mem_cons_of_mem _ (hB.sub _ (hsubX _ h.2))⟩
                · have := hI.wl
                  simp only [List.length_append, List.length_cons, List.length_nil] at this ⊢
                  omega
                · simp only [List.length_append, List.length_cons, List.length_nil]
                  exact hS
        · rw [hdp] at hxs
          repeat (first | (refine G_id ?_; first | refine G_nil ?_ | refine G_plain rfl rfl ?_) | (refine X_id ?_; first | refine X_yl (Yl_move rfl rfl) rfl rfl ?_ | refine X_yl (Yl_fieldAddr0 rfl rfl rfl) rfl rfl ?_ | refine X_yl (Yl_lss_t rfl rfl rfl (by omega)) rfl rfl ?_ | refine X_yl (Yl_indexAddr rfl rfl rfl (by omega) (by omega) (by first | assumption | exact ⟨_, _, rfl⟩)) rfl rfl ?_ | refine X_yl (Yl_add rfl rfl rfl (w64 (by omega) (by omega))) rfl rfl ?_ | refine X_yl (Yl_load rfl rfl hS.cell) rfl rfl ?_ | refine X_yl (Yl_loadN rfl rfl ((hr.rd hS).cellsX (by omega) hxs rfl)) rfl rfl ?_ | refine X_store rfl rfl rfl rfl hS (fun _ hS _ => ?_) | refine X_alloc rfl rfl rfl hS (fun _ _ hS _ => ?_)) | (refine C_id ?_; first | refine C_seq ?_ | refine C_region ?_ | refine C_block ?_ | refine C_skip ?_ | refine C_cond_t rfl ?_) | (refine E_id ?_; first | refine E_code ?_))
          obtain ⟨_, hc3, hr3, hw3, hbk3⟩ := hS.call [false, true, true, false, false]
          refine X_call (first := []) (captured := [.pointer (some ⟨t10, 0, none⟩)]) rfl rfl rfl rfl rfl (put_n t10 aw cw ws (1 + x.c.no) none 0 0 [] _ _ (Ro_nil _ _ _) rfl hwcap (by omega) hc3) ?_
          rintro _ w ⟨rfl, aw', cw', q, hcw', hS⟩
          replace hS := hbk3 hS
          clear hc3 hr3 hw3 hbk3
          repeat (first | (refine G_id ?_; first | refine G_nil ?_ | refine G_plain rfl rfl ?_) | (refine X_id ?_; first | refine X_yl (Yl_move rfl rfl) rfl rfl ?_ | refine X_yl (Yl_add rfl rfl rfl (w64 (by omega) (by omega))) rfl rfl ?_) | (refine C_id ?_; first | refine C_region ?_ | refine C_exit ?_) | (refine E_id ?_; first | refine E_code ?_ | refine E_then_exit ?_ | refine E_blk_same ?_))
          have hS := (hS.pick [2, 3, 0, 0, 1]).bagAdd (fun _ h => h)
          have hS := hS.pick [1, 1, 0, 0]
          refine E_round (α := ApZ) (z := ⟨i, Az, fa, fc, fl, aw, cw, ws, X⟩) (⟨i + 1, Az, fa, fc, fl, aw', cw', ws ++ [putW (1 + x.c.no) q []], (some ⟨q, 0, none⟩, bv (fullB [])) :: X⟩ : ApZ) ⟨rfl, rfl, rfl, rfl, rfl, rfl, rfl, rfl, trivial⟩ ⟨⟨by simp only; omega, ?_, List.mem_cons_of_mem _ hI.fX, hfcap, by simp only [List.length_append, List.length_cons, List.length_nil]; exact hcw', fun v hv => ?_, fun y hy => (hI.aX y hy).imp id fun h => ⟨List.mem_cons_of_mem _ h.1, List.mem_cons_of_mem _ h.2⟩, ?_, hI.flow⟩, ?_⟩ (by simp only; omega)
          · simp only
            rw [hrun]
            unfold ApS.step
            rw [if_pos hdp]
            have : fullB [] = zero64 := by simp [fullB, zero64]
            simp [Wr.data, this]
          · rcases List.mem_append.1 hv with hv | hv
            · exact List.mem_cons_of_mem _ (hI.wX v hv)
            · rw [List.mem_singleton] at hv; rw [hv]; exact List.mem_cons_self ..
          · have := hI.wl
            simp only [List.length_append, List.length_cons, List.length_nil] at this ⊢
            omega
          · simp only [List.length_append, List.length_cons, List.length_nil]
            exact hS
      · obtain rfl : i = l.length := by omega
        repeat (first | (refine G_id ?_; first | refine G_nil ?_ | refine G_plain rfl rfl ?_) | (refine X_id ?_; first | refine X_yl (Yl_lss_f rfl rfl rfl (by omega)) rfl rfl ?_) | (refine C_id ?_; first | refine C_seq ?_ | refine C_region ?_ | refine C_exit ?_ | refine C_cond_f rfl ?_) | (refine E_id ?_; first | refine E_code ?_ | refine E_then_exit ?_ | refine E_blk_same ?_))
        exact E_mid (⟨l.length, Az, fa, fc, fl, aw, cw, ws, X⟩ : ApZ) ⟨rfl, rfl, rfl, trivial⟩ ⟨⟨hcll.symm, hI⟩, hS⟩
    · clear hS hI0 hz0
      rintro ⟨i, Az, fa, fc, fl, aw, cw, ws, X⟩ w ⟨⟨hi, hI⟩, hS⟩
      have hwl := hbound _ hI
      have hwcap := hI.wcap
      have hrun := hI.run
      simp only at hi hS hwl hwcap hrun ⊢
      rw [hi, List.take_length] at hrun
      rcases hlaw with ⟨h1, _⟩ | ⟨z', h1, h2, h3, h4, h5⟩
      · rw [hrun] at h1; cases h1
      · obtain rfl : z' = ⟨AV.ents Az, fl, ws.map Wr.data⟩ := by rw [hrun] at h1; exact (Option.some.inj h1).symm
        simp only at h2 h3 h4 h5
        have hnl : (ws.map Wr.data).length = ws.length := by simp
        rw [hnl] at h2
        repeat (first | (refine C_id ?_; first | refine C_seq ?_))
        refine C_ord (.s 0 (.s 1 (.s 2 (.s 3 (.s 4 (.h 5 (.s 6 .nil) .no)))))) mixed (by kernel_rfl) rfl ?_
        have hS := hS.drew
        repeat (first | (refine GO_id ?_; first | refine GO_pure rfl rfl (fun _ => Yl_move rfl rfl) rfl rfl ?_ | refine GO_pure rfl rfl (fun _ => Yl_nilCheck rfl rfl) rfl rfl ?_ | refine GO_pure rfl rfl (fun _ => Yl_fieldAddr0 rfl rfl rfl) rfl rfl ?_ | refine GO_read (fun w' => w'.cell? _ = some _) rfl rfl hS.cell (fun _ hc => Yl_load rfl rfl hc) rfl rfl ?_ | refine GO_hard rfl rfl ?_ | refine GO_read (fun w' => w'.cell? _ = some _) rfl rfl (cell_at (hc.rd hS).pts) (fun _ hc => Yl_load rfl rfl hc) rfl rfl ?_))
        replace hS := hbk hS
        obtain ⟨_, hc4, hr4, hw4, hbk4⟩ := hS.call [false, false, false, false, false, false, false, true]
        refine X_callg _ rfl rfl rfl rfl rfl (qcommit_ lp p j m dat aw cw ws rd fs _ _ (hG.mono hw4) ⟨(hr4 (own 80 2 aw cw (ws.flatMap Wr.cells)) (by simp)).own_row, fun v hv => (hr4 (bag X) (by simp)).bag (hI.wX v hv)⟩ (by omega) hm h4 (by rw [hE.len]; exact h5) hc4) ?_
        rintro _ w (⟨hfull, rfl, hS⟩ | ⟨hfit, rfl, hS⟩)
        · replace hS := hbk4 hS
          clear hc4 hr4 hw4 hbk4
          have hp : putT T nb (j / 2) cl = (6, T) := by unfold putT; rw [h2, if_neg (by simp), if_pos hfull]
          rw [hp]
          repeat (first | (refine G_id ?_; first | refine G_nil ?_ | refine G_plain rfl rfl ?_) | (refine X_id ?_; first | refine X_yl (Yl_move rfl rfl) rfl rfl ?_ | refine X_yl (Yl_assign rfl rfl) rfl rfl ?_ | refine X_yl (Yl_neq_t rfl rfl rfl (by omega)) rfl rfl ?_) | (refine C_id ?_; first | refine C_seq ?_ | refine C_region ?_ | refine C_ret ?_ | refine C_cond_t rfl ?_) | (refine E_id ?_; first | refine E_code ?_ | refine E_then_ret ?_ | refine E_ret1 rfl (Rv_tmp rfl) (Ret.mk ?_)) | (refine GO_id ?_; first | refine GO_nil ?_ | refine GO_pure rfl rfl (fun _ => Yl_assign rfl rfl) rfl rfl ?_) | (refine Keep_id ?_; first | refine And.intro (by repeat (first | exact trivial | refine And.intro (.inl (by decide +kernel)) ?_ | refine And.intro (.inr (by first | assumption | exact hS.cell | exact cell_at (by assumption) | exact hS.cellI (by omega) | exact hS.cellIP (by omega) | exact hS.cellsN | exact ((hr.rd hS).cellX (by omega) hx) | exact ((hr2.rd hS).cellX (by omega) hx2) | exact hS.cellB (by omega) | exact hS.cellBA (by omega) | exact (hb.rd hS).cellB' (by omega) | exact (hb2.rd hS).cellB' (by omega) | exact (hg.rd hS).cellI (by omega) | exact (hg2.rd hS).cellI (by omega) | exact ((hr.rd hS).cellF (by first | omega | (dsimp only; omega)) hx) | exact ((hr2.rd hS).cellF (by first | omega | (dsimp only; omega)) hx2) | exact hS.cellO 0 (by omega) | exact hS.cellO 1 (by omega) | exact hS.cellIA (by omega) | exact (hg.rd hS).cellIA (by omega) | exact (hg2.rd hS).cellIA (by omega) | exact cell_at (hc.rd hS).pts | exact hb.rd hS | exact (hr.rd hS).cellsF7 (by first | omega | (dsimp only; omega)) hst4 rfl | exact (hr2.rd hS).cellsF7 (by first | omega | (dsimp only; omega)) hst4 rfl | exact hS.cellO 4 (by omega) | exact hS.cellO 5 (by omega) | exact hS.cellO 6 (by omega) | exact hS.cellO 7 (by omega) | exact hS.cellO 8 (by omega) | exact hS.cellO 9 (by omega) | exact hS.cellO 10 (by omega) | exact hS.cellO 11 (by omega) | exact hS.cellO 12 (by omega) | exact hS.cellO 13 (by omega) | exact hS.cellO 2 (by omega) | exact hS.cellO 3 (by omega))) ?_)) ?_))
          have h := hS.took (out := [tabAt tp lp n r, mapq (Value.int .i64) r A.vals, bag A.rows, qlog lp p j m dat])
          exact ⟨rfl, (h.shutItab hok).head itab_up⟩
        · replace hS := hbk4 hS
          clear hc4 hr4 hw4 hbk4
          have hp : putT T nb (j / 2) cl = (0, tabOf (AV.ents Az) n) := by unfold putT; rw [h2, if_neg (by simp), if_neg (by simp only; omega)]
          rw [hp]
          repeat (first | (refine G_id ?_; first | refine G_nil ?_ | refine G_plain rfl rfl ?_) | (refine X_id ?_; first | refine X_yl (Yl_move rfl rfl) rfl rfl ?_ | refine X_yl (Yl_assign rfl rfl) rfl rfl ?_ | refine X_yl (Yl_nilCheck rfl rfl) rfl rfl ?_ | refine X_yl (Yl_fieldAddr0 rfl rfl rfl) rfl rfl ?_ | refine X_yl (Yl_neq_f rfl rfl rfl (by omega)) rfl rfl ?_ | refine X_store rfl rfl rfl rfl hS (fun _ hS _ => ?_)) | (refine C_id ?_; first | refine C_seq ?_ | refine C_region ?_ | refine C_ret ?_ | refine C_skip ?_ | refine C_cond_f rfl ?_) | (refine E_id ?_; first | refine E_code ?_ | refine E_ret1 rfl (Rv_tmp rfl) (Ret.mk ?_)) | (refine GO_id ?_; first | refine GO_nil ?_ | refine GO_pure rfl rfl (fun _ => Yl_assign rfl rfl) rfl rfl ?_) | (refine Keep_id ?_; first | refine And.intro (by repeat (first | exact trivial | refine And.intro (.inl (by decide +kernel)) ?_ | refine And.intro (.inr (by first | assumption | exact hS.cell | exact cell_at (by assumption) | exact hS.cellI (by omega) | exact hS.cellIP (by omega) | exact hS.cellsN | exact ((hr.rd hS).cellX (by omega) hx) | exact ((hr2.rd hS).cellX (by omega) hx2) | exact hS.cellB (by omega) | exact hS.cellBA (by omega) | exact (hb.rd hS).cellB' (by omega) | exact (hb2.rd hS).cellB' (by omega) | exact (hg.rd hS).cellI (by omega) | exact (hg2.rd hS).cellI (by omega) | exact ((hr.rd hS).cellF (by first | omega | (dsimp only; omega)) hx) | exact ((hr2.rd hS).cellF (by first | omega | (dsimp only; omega)) hx2) | exact hS.cellO 0 (by omega) | exact hS.cellO 1 (by omega) | exact hS.cellIA (by omega) | exact (hg.rd hS).cellIA (by omega) | exact (hg2.rd hS).cellIA (by omega) | exact cell_at (hc.rd hS).pts | exact hb.rd hS | exact (hr.rd hS).cellsF7 (by first | omega | (dsimp only; omega)) hst4 rfl | exact (hr2.rd hS).cellsF7 (by first | omega | (dsimp only; omega)) hst4 rfl | exact hS.cellO 4 (by omega) | exact hS.cellO 5 (by omega) | exact hS.cellO 6 (by omega) | exact hS.cellO 7 (by omega) | exact hS.cellO 8 (by omega) | exact hS.cellO 9 (by omega) | exact hS.cellO 10 (by omega) | exact hS.cellO 11 (by omega) | exact hS.cellO 12 (by omega) | exact hS.cellO 13 (by omega) | exact hS.cellO 2 (by omega) | exact hS.cellO 3 (by omega))) ?_)) ?_))
          have h := hS.took (out := [bag X, bag A.rows, tabAt tp lp n r2, mapq (Value.int .i64) r2 (AV.vals Az), qlog lp p j (m + 1) (layOn dat (ws.map Wr.data))])
          have h := h.bagJoin.bagSub (Y := AV.rows Az) (fun y hy => by
            obtain ⟨x, hx, hyx⟩ := List.mem_flatMap.1 hy
            rcases hI.aX x hx with hxA | ⟨e1, e2⟩
            · exact List.mem_append_right _ (List.mem_flatMap.2 ⟨x, hxA, hyx⟩)
            · simp only [List.mem_cons, List.not_mem_nil, or_false] at hyx
              rcases hyx with rfl | rfl
              · exact List.mem_append_left _ e1
              · exact List.mem_append_left _ e2)
          have h := h.pick [1, 1, 0, 0]
          exact ⟨rfl, h.shutItab ⟨rfl, h3, hok.n1, hok.n4, hok.nb1⟩⟩
  · have hap : applyT T nb (j / 2) cl = (checkC cl n, T) := by unfold applyT; rw [htl, if_pos h0]
    rw [hap]
    refine calls_C Tryz.func8 rfl Tryz.ntmps8 rfl ?_
    repeat (first | (refine G_id ?_; first | refine G_nil ?_ | refine G_plain rfl rfl ?_) | (refine X_id ?_; first | refine X_yl (Yl_move rfl rfl) rfl rfl ?_ | refine X_yl (Yl_assign rfl rfl) rfl rfl ?_ | refine X_yl (Yl_eqlNil_some rfl rfl rfl) rfl rfl ?_) | (refine C_id ?_; first | refine C_seq ?_ | refine C_region ?_ | refine C_skip ?_ | refine C_cond_f rfl ?_) | (refine E_id ?_; first | refine E_code ?_))
    refine X_callq _ rfl rfl rfl rfl rfl hS (hck _ _ hS) ?_
    rintro _ w rfl hS
    repeat (first | (refine G_id ?_; first | refine G_nil ?_ | refine G_plain rfl rfl ?_) | (refine X_id ?_; first | refine X_yl (Yl_move rfl rfl) rfl rfl ?_ | refine X_yl (Yl_assign rfl rfl) rfl rfl ?_ | refine X_yl (Yl_neq_t rfl rfl rfl (by omega)) rfl rfl ?_) | (refine C_id ?_; first | refine C_seq ?_ | refine C_region ?_ | refine C_ret ?_ | refine C_cond_t rfl ?_) | (refine E_id ?_; first | refine E_code ?_ | refine E_then_ret ?_ | refine E_ret1 rfl (Rv_tmp rfl) (Ret.mk ?_)))
    exact ⟨rfl, ((hbk hS).shutItab hok).head itab_up⟩
end
end Cr
namespace Cr
open Go Go.Proofs
set_option maxRecDepth 100000
set_option maxHeartbeats 8000000
attribute [local irreducible] Calls

theorem same_ (a b : Option Addr) (c c' : Nat) (s t : List UInt8) (W : World) (ha : Rd W (bytes a s)) (hb : Rd W (bytes b t)) (hs : s.length ≤ 1099511627776) :
    Calls Tryz.prog 67 #[.slice a s.length c, .slice b t.length c'] W (Ret fun v w => v = .bool (decide (s = t)) ∧ St W noF [] w) := by
  have hS := St.start W
  by_cases hl : s.length = t.length
  · refine calls_C Tryz.func67 rfl Tryz.ntmps67 rfl ?_
    repeat (first | (refine G_id ?_; first | refine G_nil ?_ | refine G_plain rfl rfl ?_) | (refine X_id ?_; first | refine X_yl (Yl_move rfl rfl) rfl rfl ?_ | refine X_yl (Yl_assign rfl rfl) rfl rfl ?_ | refine X_yl (Yl_len rfl rfl) rfl rfl ?_ | refine X_yl (Yl_neq_f rfl rfl rfl (by omega)) rfl rfl ?_) | (refine C_id ?_; first | refine C_seq ?_ | refine C_region ?_ | refine C_block ?_ | refine C_skip ?_ | refine C_cond_f rfl ?_) | (refine E_id ?_; first | refine E_code ?_))
    refine C_loop (α := Nat) (fun i => [(0, .slice a s.length c), (1, .slice b t.length c'), (5, .int .i64 (i : Nat))])
      (fun i w => i ≤ s.length ∧ s.take i = t.take i ∧ St W noF [] w) (fun i => s.length - i) 0 ⟨rfl, rfl, rfl, trivial⟩ ⟨Nat.zero_le _, rfl, hS⟩ ?_
    clear hS
    rintro i w ⟨hi, htk, hS⟩
    by_cases hlt : i < s.length
    · obtain ⟨ab, ao, rfl⟩ := ha.base (by intro e; have := bv_length s; rw [e] at this; simp at this; omega)
      obtain ⟨bb, bo, rfl⟩ := hb.base (by intro e; have := bv_length t; rw [e] at this; simp at this; omega)
      have h1 := ha.ro
      have h2 := hb.ro
      clear ha hb
      have hb := h1
      have hb2 := h2
      have hlt2 : i < t.length := by omega
      have ei : (i : Int).toNat * 1 = i := by omega
      by_cases he : s.getD i 0 = t.getD i 0
      · have hq : ((s.getD ((i : Int).toNat * 1) 0).toNat : Int) = ((t.getD ((i : Int).toNat * 1) 0).toNat : Int) := by rw [ei, he]
        repeat (first | (refine G_id ?_; first | refine G_nil ?_ | refine G_plain rfl rfl ?_) | (refine X_id ?_; first | refine X_yl (Yl_move rfl rfl) rfl rfl ?_ | refine X_yl (Yl_len rfl rfl) rfl rfl ?_ | refine X_yl (Yl_lss_t rfl rfl rfl (by omega)) rfl rfl ?_) | (refine C_id ?_; first | refine C_seq ?_ | refine C_region ?_ | refine C_block ?_ | refine C_skip ?_ | refine C_cond_t rfl ?_) | (refine E_id ?_; first | refine E_code ?_))
        refine C_ord (.s 0 (.s 1 (.s 2 (.s 3 (.s 4 (.s 5 (.s 6 (.s 7 (.s 8 .nil))))))))) mixed (by kernel_rfl) rfl ?_
        have hS := hS.drew
        repeat (first | (refine G_id ?_; first | refine G_nil ?_ | refine G_plain rfl rfl ?_) | (refine X_id ?_; first | refine X_yl (Yl_move rfl rfl) rfl rfl ?_ | refine X_yl (Yl_assign rfl rfl) rfl rfl ?_ | refine X_yl (Yl_add rfl rfl rfl (w64 (by omega) (by omega))) rfl rfl ?_) | (refine C_id ?_; first | refine C_region ?_ | refine C_skip ?_ | refine C_cond_f rfl ?_) | (refine E_id ?_; first | refine E_code ?_ | refine E_blk_n ?_) | (refine GO_id ?_; first | refine GO_nil ?_ | refine GO_pure rfl rfl (fun _ => Yl_move rfl rfl) rfl rfl ?_ | refine GO_pure rfl rfl (fun _ => Yl_neq_f rfl rfl rfl (by omega)) rfl rfl ?_ | refine GO_pure rfl rfl (fun _ => Yl_indexAddr rfl rfl rfl (by omega) (by omega) (by first | assumption | exact ⟨_, _, rfl⟩)) rfl rfl ?_ | refine GO_read (fun w' => w'.cell? _ = some _) rfl rfl ((hb.rd hS).cellB' (by omega)) (fun _ hc => Yl_load rfl rfl hc) rfl rfl ?_ | refine GO_read (fun w' => w'.cell? _ = some _) rfl rfl ((hb2.rd hS).cellB' (by omega)) (fun _ hc => Yl_load rfl rfl hc) rfl rfl ?_))
        refine E_round (i + 1) ⟨rfl, rfl, rfl, trivial⟩ ⟨by omega, ?_, hS⟩ (by omega)
        rw [List.take_succ_eq_append_getElem hlt, List.take_succ_eq_append_getElem hlt2, htk]
        rw [List.getD_eq_getElem?_getD, List.getD_eq_getElem?_getD, List.getElem?_eq_getElem hlt, List.getElem?_eq_getElem hlt2] at he
        simp only [Option.getD_some] at he
        rw [he]
      · have hq : ¬ ((s.getD ((i : Int).toNat * 1) 0).toNat : Int) = ((t.getD ((i : Int).toNat * 1) 0).toNat : Int) := by
          rw [ei]; intro h; exact he (UInt8.toNat_inj.1 (by omega))
        repeat (first | (refine G_id ?_; first | refine G_nil ?_ | refine G_plain rfl rfl ?_) | (refine X_id ?_; first | refine X_yl (Yl_move rfl rfl) rfl rfl ?_ | refine X_yl (Yl_len rfl rfl) rfl rfl ?_ | refine X_yl (Yl_lss_t rfl rfl rfl (by omega)) rfl rfl ?_) | (refine C_id ?_; first | refine C_seq ?_ | refine C_region ?_ | refine C_block ?_ | refine C_skip ?_ | refine C_cond_t rfl ?_) | (refine E_id ?_; first | refine E_code ?_))
        refine C_ord (.s 0 (.s 1 (.s 2 (.s 3 (.s 4 (.s 5 (.s 6 (.s 7 (.s 8 .nil))))))))) mixed (by kernel_rfl) rfl ?_
        have hS := hS.drew
        repeat (first | (refine G_id ?_; first | refine G_nil ?_ | refine G_plain rfl rfl ?_) | (refine X_id ?_; first | refine X_yl (Yl_assign rfl rfl) rfl rfl ?_) | (refine C_id ?_; first | refine C_seq ?_ | refine C_region ?_ | refine C_ret ?_ | refine C_cond_t rfl ?_) | (refine E_id ?_; first | refine E_code ?_ | refine E_then_ret ?_ | refine E_blk_ret ?_ | refine E_ret1 rfl (Rv_tmp rfl) (Ret.mk ?_)) | (refine GO_id ?_; first | refine GO_nil ?_ | refine GO_pure rfl rfl (fun _ => Yl_move rfl rfl) rfl rfl ?_ | refine GO_pure rfl rfl (fun _ => Yl_neq_t rfl rfl rfl (by omega)) rfl rfl ?_ | refine GO_pure rfl rfl (fun _ => Yl_indexAddr rfl rfl rfl (by omega) (by omega) (by first | assumption | exact ⟨_, _, rfl⟩)) rfl rfl ?_ | refine GO_read (fun w' => w'.cell? _ = some _) rfl rfl ((hb.rd hS).cellB' (by omega)) (fun _ hc => Yl_load rfl rfl hc) rfl rfl ?_ | refine GO_read (fun w' => w'.cell? _ = some _) rfl rfl ((hb2.rd hS).cellB' (by omega)) (fun _ hc => Yl_load rfl rfl hc) rfl rfl ?_))
        refine ⟨?_, hS⟩
        rw [decide_eq_false (fun h => he (by rw [h]))]
    · obtain rfl : i = s.length := by omega
      repeat (first | (refine G_id ?_; first | refine G_nil ?_ | refine G_plain rfl rfl ?_) | (refine X_id ?_; first | refine X_yl (Yl_move rfl rfl) rfl rfl ?_ | refine X_yl (Yl_assign rfl rfl) rfl rfl ?_ | refine X_yl (Yl_len rfl rfl) rfl rfl ?_ | refine X_yl (Yl_lss_f rfl rfl rfl (by omega)) rfl rfl ?_) | (refine C_id ?_; first | refine C_seq ?_ | refine C_region ?_ | refine C_ret ?_ | refine C_exit ?_ | refine C_cond_f rfl ?_) | (refine E_id ?_; first | refine E_code ?_ | refine E_then_exit ?_ | refine E_blk_same ?_ | refine E_ret1 rfl (Rv_tmp rfl) (Ret.mk ?_)))
      refine ⟨?_, hS⟩
      rw [List.take_length, hl, List.take_length] at htk
      simp [htk]
  · refine calls_C Tryz.func67 rfl Tryz.ntmps67 rfl ?_
    repeat (first | (refine G_id ?_; first | refine G_nil ?_ | refine G_plain rfl rfl ?_) | (refine X_id ?_; first | refine X_yl (Yl_move rfl rfl) rfl rfl ?_ | refine X_yl (Yl_assign rfl rfl) rfl rfl ?_ | refine X_yl (Yl_len rfl rfl) rfl rfl ?_ | refine X_yl (Yl_neq_t rfl rfl rfl (by omega)) rfl rfl ?_) | (refine C_id ?_; first | refine C_seq ?_ | refine C_region ?_ | refine C_ret ?_ | refine C_cond_t rfl ?_) | (refine E_id ?_; first | refine E_code ?_ | refine E_then_ret ?_ | refine E_ret1 rfl (Rv_tmp rfl) (Ret.mk ?_)))
    exact ⟨by rw [decide_eq_false (fun h => hl (by rw [h]))], hS⟩
end Cr
namespace Cr
open Go Go.Proofs
set_option maxRecDepth 100000
set_option maxHeartbeats 16000000
attribute [local irreducible] Calls

theorem fullB_nil : fullB [] = zero64 := by simp [fullB, zero64]
theorem zero64_length : zero64.length = 64 := by simp [zero64]
theorem tfrontB_ne (rd fs : List Int) (n : Nat) : tfrontB rd fs n ≠ zero64 := fun e => by
  have := congrArg (fun l => l.getD 0 0) e
  unfold tfrontB at this
  rw [fullB_eq (by simp [creelB, bigB_length, digest_length])] at this
  simp [creelB, zero64] at this
theorem format_nil (k : Int) (W : World) : Calls Tryz.prog 11 #[.pointer none, .int .i64 k] W (Ret fun v w => v = .tuple #[.pointer none, .int .i64 16] ∧ W = w) := by
  refine calls_C Tryz.func11 rfl Tryz.ntmps11 rfl ?_
  repeat (first | (refine G_id ?_; first | refine G_nil ?_ | refine G_plain rfl rfl ?_) | (refine X_id ?_; first | refine X_yl (Yl_move rfl rfl) rfl rfl ?_ | refine X_yl (Yl_assign rfl rfl) rfl rfl ?_ | refine X_yl (Yl_eqlNil_none rfl rfl rfl) rfl rfl ?_) | (refine C_id ?_; first | refine C_seq ?_ | refine C_region ?_ | refine C_block ?_ | refine C_ret ?_ | refine C_cond_t rfl ?_) | (refine E_id ?_; first | refine E_code ?_ | refine E_then_ret ?_ | refine E_blk_ret ?_ | refine E_ret2 rfl (Rv_tmp rfl) (Rv_tmp rfl) (Ret.mk ?_)))
  exact ⟨rfl, rfl⟩
theorem tfree_nil (a : Option Addr) (n c : Nat) (W : World) : Calls Tryz.prog 35 #[.pointer none, .slice a n c] W (Ret fun v w => v = .tuple #[.int .i64 0, .int .i64 16] ∧ W = w) := by
  refine calls_C Tryz.func35 rfl Tryz.ntmps35 rfl ?_
  repeat (first | (refine G_id ?_; first | refine G_nil ?_ | refine G_plain rfl rfl ?_) | (refine X_id ?_; first | refine X_yl (Yl_move rfl rfl) rfl rfl ?_ | refine X_yl (Yl_assign rfl rfl) rfl rfl ?_ | refine X_yl (Yl_eqlNil_none rfl rfl rfl) rfl rfl ?_) | (refine C_id ?_; first | refine C_seq ?_ | refine C_region ?_ | refine C_ret ?_ | refine C_cond_t rfl ?_) | (refine E_id ?_; first | refine E_code ?_ | refine E_then_ret ?_ | refine E_ret2 rfl (Rv_tmp rfl) (Rv_tmp rfl) (Ret.mk ?_)))
  exact ⟨rfl, rfl⟩
theorem used_nil (W : World) : Calls Tryz.prog 31 #[.pointer none] W (Ret fun v w => v = .slice none 0 0 ∧ W = w) := by
  refine calls_C Tryz.func31 rfl Tryz.ntmps31 rfl ?_
  repeat (first | (refine G_id ?_; first | refine G_nil ?_ | refine G_plain rfl rfl ?_) | (refine X_id ?_; first | refine X_yl (Yl_move rfl rfl) rfl rfl ?_ | refine X_yl (Yl_assign rfl rfl) rfl rfl ?_ | refine X_yl (Yl_eqlNil_none rfl rfl rfl) rfl rfl ?_) | (refine C_id ?_; first | refine C_seq ?_ | refine C_region ?_ | refine C_ret ?_ | refine C_cond_t rfl ?_) | (refine E_id ?_; first | refine E_code ?_ | refine E_then_ret ?_ | refine E_ret1 rfl (Rv_tmp rfl) (Ret.mk ?_)))
  exact ⟨rfl, rfl⟩
theorem topen_nil (W : World) : Calls Tryz.prog 10 #[.pointer none] W (Ret fun v w => v = .tuple #[.pointer none, .int .i64 16] ∧ W = w) := by
  refine calls_C Tryz.func10 rfl Tryz.ntmps10 rfl ?_
  repeat (first | (refine G_id ?_; first | refine G_nil ?_ | refine G_plain rfl rfl ?_) | (refine X_id ?_; first | (refine X_callg 36 rfl rfl rfl rfl rfl (wread_nil _ _) ?_; rintro _ _ ⟨rfl, rfl⟩) | refine X_yl (Yl_move rfl rfl) rfl rfl ?_ | refine X_yl (Yl_assign rfl rfl) rfl rfl ?_ | refine X_yl (Yl_extract rfl rfl) rfl rfl ?_ | refine X_yl (Yl_neq_t rfl rfl rfl (by omega)) rfl rfl ?_) | (refine C_id ?_; first | refine C_seq ?_ | refine C_region ?_ | refine C_ret ?_ | refine C_cond_t rfl ?_) | (refine E_id ?_; first | refine E_code ?_ | refine E_then_ret ?_ | refine E_ret2 rfl (Rv_tmp rfl) (Rv_tmp rfl) (Ret.mk ?_)))
  exact ⟨rfl, rfl⟩
theorem enc_new (rd fs : List Int) {dat : List (List UInt8)} {n nb : Nat} (hd : dat.length = 1 + n + nb) (hz : ∀ i, i < n → dat.getD (1 + i) [] = zero64) : Enc rd fs (layOn dat [(0, tfrontB rd fs n)]) n nb [] := by
  have hg : ∀ k, k < dat.length → (layOn dat [(0, tfrontB rd fs n)]).getD k [] = if k = 0 then tfrontB rd fs n else dat.getD k [] := fun k hk => by
    rw [layOn_get _ _ _ hk (fun v hv => by rw [List.mem_singleton] at hv; rw [hv]; exact Int.le_refl _), lastOf_cons]
    by_cases h : k = 0
    · subst h; simp [lastOf]
    · rw [if_neg h, if_neg (by simp only; omega)]; simp [lastOf]
  refine ⟨by rw [layOn_length]; exact hd, by rw [hg 0 (by omega), if_pos rfl], fun k hk => by simp [keysA] at hk, by simp [keysA], fun i hi => ?_, fun x hx => by simp at hx, fun x hx => by simp at hx, by simp [blocksOf]⟩
  rw [hg _ (by omega), if_neg (by omega), hz i hi]
  rfl
theorem tab_new (n : Nat) : tabOf [] n = List.replicate n none := by
  apply List.ext_getElem
  · simp [tabOf]
  · intro i h1 h2
    simp [tabOf, getA]
theorem format_ (lp p j m n nb : Nat) (dat : List (List UInt8)) (rd fs : List Int) (W : World) (F : Nat → Prop) (hG : Gl W F rd fs) (hd : dat.length = 1 + n + nb) (h1 : 1 ≤ n) (h4 : n ≤ 400) (hnb : 1 ≤ nb) (hj : 2 ≤ j) (hm : (m : Int) < last)
    (h0 : dat.getD 0 [] = zero64) (hz : ∀ i, i < n → dat.getD (1 + i) [] = zero64) (hS : St W F [qlog lp p j m dat] W) :
    Calls Tryz.prog 11 #[.pointer (some ⟨lp, 0, none⟩), .int .i64 (n : Nat)] W (Ret fun v w => ∃ tp, v = .tuple #[.pointer (some ⟨tp, 0, none⟩), .int .i64 0] ∧ St W F [itab rd fs tp lp p j (m + 1) n nb (List.replicate n none)] w) := by
  have hqr : ∀ w rs, St W F (qlog lp p j m dat :: rs) w → Rd w (qlog lp p j m dat) := fun w rs h => h.rd (List.mem_cons_self ..)
  have hrd := fun w rs (h : St W F (qlog lp p j m dat :: rs) w) => qread_ lp p j m dat 0 w (hqr _ _ h) (by omega)
  rw [h0] at hrd
  have heq := fun w a c p h1 h2 => equal_ a (some ⟨p, 0, none⟩) 64 64 c 64 zero64 zero64 w h1 h2 zero64_length zero64_length
  rw [decide_eq_true rfl] at heq
  refine calls_C Tryz.func11 rfl Tryz.ntmps11 rfl ?_
  repeat (first | (refine G_id ?_; first | refine G_nil ?_ | refine G_plain rfl rfl ?_) | (refine X_id ?_; first | refine X_yl (Yl_move rfl rfl) rfl rfl ?_ | refine X_yl (Yl_assign rfl rfl) rfl rfl ?_ | refine X_yl (Yl_eqlNil_some rfl rfl rfl) rfl rfl ?_) | (refine C_id ?_; first | refine C_seq ?_ | refine C_region ?_ | refine C_block ?_ | refine C_cond_f rfl ?_) | (refine E_id ?_; first | refine E_code ?_))
  refine X_callq _ rfl rfl rfl rfl rfl hS (may_ lp p j m n dat _ (hqr _ _ hS) h1 h4 (by omega)) ?_
  rintro _ w rfl hS
  repeat (first | (refine G_id ?_; first | refine G_nil ?_ | refine G_plain rfl rfl ?_) | (refine X_id ?_; first | refine X_yl (Yl_move rfl rfl) rfl rfl ?_ | refine X_yl (Yl_assign rfl rfl) rfl rfl ?_ | refine X_yl (Yl_not_t rfl rfl) rfl rfl ?_) | (refine C_id ?_; first | refine C_seq ?_ | refine C_region ?_ | refine C_skip ?_ | refine C_cond_f rfl ?_) | (refine E_id ?_; first | refine E_code ?_ | refine E_blk_n ?_))
  refine X_callg _ rfl rfl rfl rfl rfl (hrd _ _ hS) ?_
  rintro _ w ⟨a, c, rfl, hc, hS'⟩
  replace hS := hS.plus hS'
  clear hS'
  repeat (first | (refine G_id ?_; first | refine G_nil ?_ | refine G_plain rfl rfl ?_) | (refine X_id ?_; first | refine X_yl (Yl_move rfl rfl) rfl rfl ?_ | refine X_yl (Yl_assign rfl rfl) rfl rfl ?_ | refine X_yl (Yl_extract rfl rfl) rfl rfl ?_ | refine X_yl (Yl_neq_f rfl rfl rfl (by omega)) rfl rfl ?_) | (refine C_id ?_; first | refine C_seq ?_ | refine C_region ?_ | refine C_skip ?_ | refine C_cond_f rfl ?_) | (refine E_id ?_; first | refine E_code ?_))
  refine X_callg _ rfl rfl rfl rfl rfl (filled_ none 0 [] _ (Rd_nil _ _)) ?_
  rintro _ w ⟨q, rfl, hS'⟩
  replace hS := hS.plus hS'
  clear hS'
  rw [fullB_nil] at hS
  repeat (first | (refine G_id ?_; first | refine G_nil ?_ | refine G_plain rfl rfl ?_) | (refine X_id ?_; first | (refine X_callg 39 rfl rfl rfl rfl rfl (heq _ a c q (hS.rd (by simp)) (hS.rd (by simp))) ?_; rintro _ _ ⟨rfl, rfl⟩) | refine X_yl (Yl_move rfl rfl) rfl rfl ?_ | refine X_yl (Yl_not_t rfl rfl) rfl rfl ?_) | (refine C_id ?_; first | refine C_seq ?_ | refine C_region ?_ | refine C_skip ?_ | refine C_cond_f rfl ?_) | (refine E_id ?_; first | refine E_code ?_))
  refine X_callg _ rfl rfl rfl rfl rfl (tfront_ n rd fs _ (hG.mono fun r hr => (hr.rd hS).ro)) ?_
  rintro _ w ⟨q2, rfl, hS'⟩
  replace hS := hS.plus hS'
  clear hS'
  repeat (first | (refine G_id ?_; first | refine G_plain rfl rfl ?_) | (refine X_id ?_; first | refine X_yl (Yl_build rfl rfl rfl) rfl rfl ?_ | refine X_buildSlice rfl rfl rfl rfl rfl rfl rfl rfl hS (fun _ _ hS _ => ?_)))
  rename_i bw _ _
  obtain ⟨_, hc4, hr4, hw4, hbk4⟩ := hS.call [false, false, false, false, true]
  have hck : checkM [((0 : Int), tfrontB rd fs n)] = 0 := by
    have : (tfrontB rd fs n).length = 64 := fullB_length _
    simp [checkM, badW, twiceTo, this]
  refine X_callg _ rfl rfl rfl rfl rfl (qcommit_ lp p j m dat (some ⟨bw, 0, none⟩) 1 [⟨0, ⟨some ⟨q2, 0, none⟩, 64, tfrontB rd fs n⟩⟩] rd fs _ _ (hG.mono hw4) ⟨?_, fun v hv => ?_⟩ (by simp) hm hck ?_ hc4) ?_
  · have h := (hr4 (own 80 2 (some ⟨bw, 0, none⟩) 1 [.int .i64 0, .slice (some ⟨q2, 0, none⟩) 64 64]) (by simp)).own_row
    have e : (List.flatMap Wr.cells [⟨0, ⟨some ⟨q2, 0, none⟩, 64, tfrontB rd fs n⟩⟩]) = [.int .i64 0, .slice (some ⟨q2, 0, none⟩) 64 64] := by
      have : (tfrontB rd fs n).length = 64 := fullB_length _
      simp [Wr.cells, this]
    rw [e]; exact h
  · rw [List.mem_singleton] at hv
    rw [hv]
    exact hr4 (bytes (some ⟨q2, 0, none⟩) (tfrontB rd fs n)) (by simp)
  · simp [hasM, Wr.data]; omega
  rintro _ w (⟨hfull, _, _⟩ | ⟨_, rfl, hS⟩)
  · simp only [List.length_cons, List.length_nil] at hfull; omega
  replace hS := hbk4 hS
  clear hc4 hr4 hw4 hbk4
  repeat (first | (refine G_id ?_; first | refine G_nil ?_ | refine G_plain rfl rfl ?_) | (refine X_id ?_; first | refine X_yl (Yl_move rfl rfl) rfl rfl ?_ | refine X_yl (Yl_assign rfl rfl) rfl rfl ?_ | refine X_yl (Yl_neq_f rfl rfl rfl (by omega)) rfl rfl ?_) | (refine C_id ?_; first | refine C_seq ?_ | refine C_region ?_ | refine C_skip ?_ | refine C_cond_f rfl ?_) | (refine E_id ?_; first | refine E_code ?_))
  refine X_makeMapQ (Value.int .i64) rfl rfl rfl hS (fun r w hS => ?_)
  repeat (first | (refine G_id ?_; first | refine G_nil ?_ | refine G_plain rfl rfl ?_) | (refine X_id ?_; first | refine X_yl (Yl_assign rfl rfl) rfl rfl ?_ | refine X_yl (Yl_build rfl rfl rfl) rfl rfl ?_ | refine X_box rfl rfl rfl rfl hS (fun _ _ hS _ => ?_)) | (refine C_id ?_; first | refine C_ret ?_) | (refine E_id ?_; first | refine E_code ?_ | refine E_ret2 rfl (Rv_tmp rfl) (Rv_tmp rfl) (Ret.mk ?_)))
  rename_i tp _ _
  refine ⟨tp, rfl, ?_⟩
  have h := (hS.bagNil).took (out := [tabAt tp lp n r, mapq (Value.int .i64) r [], bag [], qlog lp p j (m + 1) (layOn dat (List.map Wr.data [⟨0, ⟨some ⟨q2, 0, none⟩, 64, tfrontB rd fs n⟩⟩]))])
  exact St.shutItab (A := []) (dat := layOn dat [(0, tfrontB rd fs n)]) ⟨tab_new n, enc_new rd fs hd hz, h1, h4, hnb⟩ h
end Cr
namespace Cr
open Go Go.Proofs
set_option maxRecDepth 100000
set_option maxHeartbeats 16000000
attribute [local irreducible] Calls

theorem to06_ (s : StatM) (W : World) : Calls Tryz.prog 48 #[.agg (StatM.cells s).toArray] W (Ret fun v w => v = .agg (StatM.cells s).toArray ∧ St W noF [] w) := by
  have hS := St.start W
  refine calls_C Tryz.func48 rfl Tryz.ntmps48 rfl ?_
  repeat (first | (refine G_id ?_; first | refine G_nil ?_ | refine G_plain rfl rfl ?_) | (refine X_id ?_; first | refine X_yl (Yl_fieldAddr0 rfl rfl rfl) rfl rfl ?_ | refine X_yl (Yl_build rfl rfl rfl) rfl rfl ?_ | refine X_yl (Yl_load rfl rfl hS.cell) rfl rfl ?_ | refine X_store rfl rfl rfl rfl hS (fun _ hS _ => ?_) | refine X_box rfl rfl rfl rfl hS (fun _ _ hS _ => ?_) | refine X_alloc rfl rfl rfl hS (fun _ _ hS _ => ?_)) | (refine C_id ?_; first | refine C_seq ?_ | refine C_region ?_ | refine C_ret ?_) | (refine E_id ?_; first | refine E_code ?_ | refine E_ret1 rfl (by first | exact Rv_tmp rfl | exact Rv_cell rfl (run_load1 hS.cell) | exact Rv_cell rfl (run_loadN hS.cellsN)) (Ret.mk ?_)))
  exact ⟨rfl, hS.drops⟩
def cutN (x : Nd) : Nd := ⟨x.st, x.data.take 600⟩
theorem to07_ (x : Nd) (a : Option Addr) (c : Nat) (W : World) (ha : Rd W (bytes a x.data)) (hc : x.data.length ≤ c) :
    Calls Tryz.prog 15 #[.agg (ndV x a c).toArray] W (Ret fun v w => ∃ a' c', v = .agg (ndV (cutN x) a' c').toArray ∧ (cutN x).data.length ≤ c' ∧ St W noF [own 5 1 a' c' (bv (cutN x).data)] w) := by
  have hao := ha.ro
  have hS := St.start W
  obtain ⟨hN, hhN⟩ : ∃ hN : Nat, hN = min x.data.length 600 := ⟨_, rfl⟩
  have hmin : min ((x.data.length : Nat) : Int) 600 = (hN : Nat) := by omega
  have hcl : (cutN x).data.length = hN := by simp [cutN]; omega
  have hct : (cutN x).data = (x.data.drop 0).take (hN - 0) := by
    simp only [cutN, List.drop_zero, Nat.sub_zero, hhN]
    by_cases h : x.data.length ≤ 600
    · rw [Nat.min_eq_left h, List.take_of_length_le h, List.take_length]
    · rw [Nat.min_eq_right (by omega)]
  have hro : Ro W noF (bytes a (cutN x).data) := by
    have := hao.subBytes (l := 0) (h := hN) (c := c) (by omega) (by omega)
    rw [sub_zero, ← hct] at this
    exact this
  refine calls_C Tryz.func15 rfl Tryz.ntmps15 rfl ?_
  repeat (first | (refine G_id ?_; first | refine G_nil ?_ | refine G_plain rfl rfl ?_) | (refine X_id ?_; first | refine X_box rfl rfl rfl rfl hS (fun _ _ hS _ => ?_) | refine X_alloc rfl rfl rfl hS (fun _ _ hS _ => ?_)) | (refine C_id ?_; first | refine C_seq ?_ | refine C_region ?_) | (refine E_id ?_; first | refine E_code ?_))
  refine C_ord (.s 0 (.s 1 (.s 4 (.s 5 (.s 6 (.s 7 (.s 8 (.s 9 (.s 10 (.h 2 (.h 3 (.h 11 (.s 12 (.h 13 .nil .no)) .no) .no) (.h 3 (.h 2 (.h 11 (.s 12 (.h 13 .nil .no)) .no) .no) .no))))))))))) mixed (by kernel_rfl) rfl ?_
  have hS := hS.drew
  repeat (first | (refine GO_id ?_; first | refine GO_pure rfl rfl (fun _ => Yl_fieldAddr0 rfl rfl rfl) rfl rfl ?_ | refine GO_pure rfl rfl (fun _ => Yl_len rfl rfl) rfl rfl ?_ | refine GO_read (fun w' => w'.cell? _ = some _) rfl rfl hS.cell (fun _ hc => Yl_load rfl rfl hc) rfl rfl ?_ | refine GO_read (fun w' => CellsN w' _ _ _) rfl rfl hS.cellsN (fun _ hc => Yl_loadN rfl rfl hc) rfl rfl ?_))
  refine GO_pure rfl rfl (fun _ => Yl_minI rfl rfl rfl) rfl rfl ?_
  rw [hmin]
  refine GO_pure rfl rfl (fun _ => Yl_slice (l := 0) (h := hN) rfl rfl rfl rfl (.inr ⟨_, _, rfl, by omega, by omega, by omega⟩) (.inl ⟨rfl, rfl⟩)) rfl rfl ?_
  rw [sub_zero, Nat.sub_zero, Nat.sub_zero]
  refine GO_alt ?_ ?_
  · repeat (first | (refine X_id ?_; first | (refine X_callq 48 rfl rfl rfl rfl rfl hS (to06_ x.st _) ?_; rintro _ _ rfl hS) | refine X_buildSlice rfl rfl rfl rfl rfl rfl rfl rfl hS (fun _ _ hS _ => ?_)) | (refine GO_id ?_; first | refine GO_hard rfl rfl ?_) | (refine Keep_id ?_; first | refine And.intro (by repeat (first | exact trivial | refine And.intro (.inl (by decide +kernel)) ?_ | refine And.intro (.inr (by first | assumption | exact hS.cell | exact cell_at (by assumption) | exact hS.cellI (by omega) | exact hS.cellIP (by omega) | exact hS.cellsN | exact ((hr.rd hS).cellX (by omega) hx) | exact ((hr2.rd hS).cellX (by omega) hx2) | exact hS.cellB (by omega) | exact hS.cellBA (by omega) | exact (hb.rd hS).cellB' (by omega) | exact (hb2.rd hS).cellB' (by omega) | exact (hg.rd hS).cellI (by omega) | exact (hg2.rd hS).cellI (by omega) | exact ((hr.rd hS).cellF (by first | omega | (dsimp only; omega)) hx) | exact ((hr2.rd hS).cellF (by first | omega | (dsimp only; omega)) hx2) | exact hS.cellO 0 (by omega) | exact hS.cellO 1 (by omega) | exact hS.cellIA (by omega) | exact (hg.rd hS).cellIA (by omega) | exact (hg2.rd hS).cellIA (by omega) | exact cell_at (hc.rd hS).pts | exact hb.rd hS | exact (hr.rd hS).cellsF7 (by first | omega | (dsimp only; omega)) hst4 rfl | exact (hr2.rd hS).cellsF7 (by first | omega | (dsimp only; omega)) hst4 rfl | exact hS.cellO 4 (by omega) | exact hS.cellO 5 (by omega) | exact hS.cellO 6 (by omega) | exact hS.cellO 7 (by omega) | exact hS.cellO 8 (by omega) | exact hS.cellO 9 (by omega) | exact hS.cellO 10 (by omega) | exact hS.cellO 11 (by omega) | exact hS.cellO 12 (by omega) | exact hS.cellO 13 (by omega) | exact hS.cellO 2 (by omega) | exact hS.cellO 3 (by omega))) ?_)) ?_))
    refine X_append (n := 0) (m := hN) rfl rfl rfl rfl rfl hS rfl (Nat.zero_le _) (hro.rd hS) (by rw [bv_length, hcl, Nat.mul_one]) bv_one (by omega) (by simp only [maxLen]; omega) (fun a' c' w hS hc' _ => ?_)
    rw [Nat.zero_add]
    repeat (first | (refine X_id ?_; first | refine X_store rfl rfl rfl rfl hS (fun _ hS _ => ?_)) | (refine C_id ?_; first | refine C_ret ?_) | (refine E_id ?_; first | refine E_code ?_ | refine E_ret1 rfl (by first | exact Rv_tmp rfl | exact Rv_cell rfl (run_load1 hS.cell) | exact Rv_cell rfl (run_loadN hS.cellsN)) (Ret.mk ?_)) | (refine GO_id ?_; first | refine GO_nil ?_ | refine GO_pure rfl rfl (fun _ => Yl_build rfl rfl rfl) rfl rfl ?_ | refine GO_hard rfl rfl ?_) | (refine Keep_id ?_; first | refine And.intro (by repeat (first | exact trivial | refine And.intro (.inl (by decide +kernel)) ?_ | refine And.intro (.inr (by first | assumption | exact hS.cell | exact cell_at (by assumption) | exact hS.cellI (by omega) | exact hS.cellIP (by omega) | exact hS.cellsN | exact ((hr.rd hS).cellX (by omega) hx) | exact ((hr2.rd hS).cellX (by omega) hx2) | exact hS.cellB (by omega) | exact hS.cellBA (by omega) | exact (hb.rd hS).cellB' (by omega) | exact (hb2.rd hS).cellB' (by omega) | exact (hg.rd hS).cellI (by omega) | exact (hg2.rd hS).cellI (by omega) | exact ((hr.rd hS).cellF (by first | omega | (dsimp only; omega)) hx) | exact ((hr2.rd hS).cellF (by first | omega | (dsimp only; omega)) hx2) | exact hS.cellO 0 (by omega) | exact hS.cellO 1 (by omega) | exact hS.cellIA (by omega) | exact (hg.rd hS).cellIA (by omega) | exact (hg2.rd hS).cellIA (by omega) | exact cell_at (hc.rd hS).pts | exact hb.rd hS | exact (hr.rd hS).cellsF7 (by first | omega | (dsimp only; omega)) hst4 rfl | exact (hr2.rd hS).cellsF7 (by first | omega | (dsimp only; omega)) hst4 rfl | exact hS.cellO 4 (by omega) | exact hS.cellO 5 (by omega) | exact hS.cellO 6 (by omega) | exact hS.cellO 7 (by omega) | exact hS.cellO 8 (by omega) | exact hS.cellO 9 (by omega) | exact hS.cellO 10 (by omega) | exact hS.cellO 11 (by omega) | exact hS.cellO 12 (by omega) | exact hS.cellO 13 (by omega) | exact hS.cellO 2 (by omega) | exact hS.cellO 3 (by omega))) ?_)) ?_))
    refine ⟨a', c', by rw [← hcl]; rfl, by omega, by have h := hS.pick [0]; exact h⟩
  · repeat (first | (refine X_id ?_; first | (refine X_callq 48 rfl rfl rfl rfl rfl hS (to06_ x.st _) ?_; rintro _ _ rfl hS) | refine X_buildSlice rfl rfl rfl rfl rfl rfl rfl rfl hS (fun _ _ hS _ => ?_)) | (refine GO_id ?_; first | refine GO_hard rfl rfl ?_) | (refine Keep_id ?_; first | refine And.intro (by repeat (first | exact trivial | refine And.intro (.inl (by decide +kernel)) ?_ | refine And.intro (.inr (by first | assumption | exact hS.cell | exact cell_at (by assumption) | exact hS.cellI (by omega) | exact hS.cellIP (by omega) | exact hS.cellsN | exact ((hr.rd hS).cellX (by omega) hx) | exact ((hr2.rd hS).cellX (by omega) hx2) | exact hS.cellB (by omega) | exact hS.cellBA (by omega) | exact (hb.rd hS).cellB' (by omega) | exact (hb2.rd hS).cellB' (by omega) | exact (hg.rd hS).cellI (by omega) | exact (hg2.rd hS).cellI (by omega) | exact ((hr.rd hS).cellF (by first | omega | (dsimp only; omega)) hx) | exact ((hr2.rd hS).cellF (by first | omega | (dsimp only; omega)) hx2) | exact hS.cellO 0 (by omega) | exact hS.cellO 1 (by omega) | exact hS.cellIA (by omega) | exact (hg.rd hS).cellIA (by omega) | exact (hg2.rd hS).cellIA (by omega) | exact cell_at (hc.rd hS).pts | exact hb.rd hS | exact (hr.rd hS).cellsF7 (by first | omega | (dsimp only; omega)) hst4 rfl | exact (hr2.rd hS).cellsF7 (by first | omega | (dsimp only; omega)) hst4 rfl | exact hS.cellO 4 (by omega) | exact hS.cellO 5 (by omega) | exact hS.cellO 6 (by omega) | exact hS.cellO 7 (by omega) | exact hS.cellO 8 (by omega) | exact hS.cellO 9 (by omega) | exact hS.cellO 10 (by omega) | exact hS.cellO 11 (by omega) | exact hS.cellO 12 (by omega) | exact hS.cellO 13 (by omega) | exact hS.cellO 2 (by omega) | exact hS.cellO 3 (by omega))) ?_)) ?_))
    refine X_append (n := 0) (m := hN) rfl rfl rfl rfl rfl hS rfl (Nat.zero_le _) (hro.rd hS) (by rw [bv_length, hcl, Nat.mul_one]) bv_one (by omega) (by simp only [maxLen]; omega) (fun a' c' w hS hc' _ => ?_)
    rw [Nat.zero_add]
    repeat (first | (refine X_id ?_; first | refine X_store rfl rfl rfl rfl hS (fun _ hS _ => ?_)) | (refine C_id ?_; first | refine C_ret ?_) | (refine E_id ?_; first | refine E_code ?_ | refine E_ret1 rfl (by first | exact Rv_tmp rfl | exact Rv_cell rfl (run_load1 hS.cell) | exact Rv_cell rfl (run_loadN hS.cellsN)) (Ret.mk ?_)) | (refine GO_id ?_; first | refine GO_nil ?_ | refine GO_pure rfl rfl (fun _ => Yl_build rfl rfl rfl) rfl rfl ?_ | refine GO_hard rfl rfl ?_) | (refine Keep_id ?_; first | refine And.intro (by repeat (first | exact trivial | refine And.intro (.inl (by decide +kernel)) ?_ | refine And.intro (.inr (by first | assumption | exact hS.cell | exact cell_at (by assumption) | exact hS.cellI (by omega) | exact hS.cellIP (by omega) | exact hS.cellsN | exact ((hr.rd hS).cellX (by omega) hx) | exact ((hr2.rd hS).cellX (by omega) hx2) | exact hS.cellB (by omega) | exact hS.cellBA (by omega) | exact (hb.rd hS).cellB' (by omega) | exact (hb2.rd hS).cellB' (by omega) | exact (hg.rd hS).cellI (by omega) | exact (hg2.rd hS).cellI (by omega) | exact ((hr.rd hS).cellF (by first | omega | (dsimp only; omega)) hx) | exact ((hr2.rd hS).cellF (by first | omega | (dsimp only; omega)) hx2) | exact hS.cellO 0 (by omega) | exact hS.cellO 1 (by omega) | exact hS.cellIA (by omega) | exact (hg.rd hS).cellIA (by omega) | exact (hg2.rd hS).cellIA (by omega) | exact cell_at (hc.rd hS).pts | exact hb.rd hS | exact (hr.rd hS).cellsF7 (by first | omega | (dsimp only; omega)) hst4 rfl | exact (hr2.rd hS).cellsF7 (by first | omega | (dsimp only; omega)) hst4 rfl | exact hS.cellO 4 (by omega) | exact hS.cellO 5 (by omega) | exact hS.cellO 6 (by omega) | exact hS.cellO 7 (by omega) | exact hS.cellO 8 (by omega) | exact hS.cellO 9 (by omega) | exact hS.cellO 10 (by omega) | exact hS.cellO 11 (by omega) | exact hS.cellO 12 (by omega) | exact hS.cellO 13 (by omega) | exact hS.cellO 2 (by omega) | exact hS.cellO 3 (by omega))) ?_)) ?_))
    refine ⟨a', c', by rw [← hcl]; rfl, by omega, by have h := hS.pick [0]; exact h⟩
end Cr
namespace Cr
open Go Go.Proofs
set_option maxRecDepth 100000
set_option maxHeartbeats 16000000
attribute [local irreducible] Calls

/-- A new disk with a log, as one resource. -/
theorem St.newLog {W : World} {F : Nat → Prop} {rs : List Res} {w : World} {lp p j k : Nat} (hj : j ≤ 1024) (hS : St W F (logAt lp p 1 0 0 j 0 false :: disk p (newDisk (1 + j + k)) :: rs) w) : St W F (qlog lp p j 0 (List.replicate k zero64) :: rs) w :=
  hS.shutQlog ⟨⟨rfl, rfl, by simp [newDisk]⟩, rfl, Int.le_refl _, Int.le_refl _, hj, fun i hi => by
    rw [List.length_replicate] at hi
    simp only [newDisk, List.getD_eq_getElem?_getD, List.getElem?_replicate]
    rw [if_pos (by omega), if_pos hi]⟩
theorem zeros_get {k i : Nat} (h : i < k) : (List.replicate k zero64).getD i [] = zero64 := by
  rw [List.getD_eq_getElem?_getD, List.getElem?_replicate, if_pos h]; rfl
theorem nil_open (rd fs : List Int) : openM rd fs (newDisk 40) 20 = ⟨0, newDisk 40, 0, false⟩ := by kernel_rfl
def knd : Nd := ⟨⟨0, 0, 0, 0⟩, List.replicate 512 0⟩
def ktb : Tb := [none, none, some knd, none]
theorem known_app : applyT (List.replicate 4 none) 14 (20 / 2) [⟨2, knd, false⟩] = (0, ktb) := by kernel_rfl
theorem known_room : roomT (List.replicate 4 none) 14 = 14 ∧ roomT ktb 14 = 6 := ⟨by kernel_rfl, by kernel_rfl⟩
theorem known7_ (rd fs : List Int) (W : World) (hG : Gl W noF rd fs) : Calls Tryz.prog 12 #[] W (Ret fun v w => v = .bool true ∧ St W noF [] w) := by
  have hS := St.start W
  refine calls_C Tryz.func12 rfl Tryz.ntmps12 rfl ?_
  repeat (first | (refine G_id ?_; first | refine G_nil ?_ | refine G_plain rfl rfl ?_) | (refine X_id ?_; first | refine X_yl (Yl_assign rfl rfl) rfl rfl ?_) | (refine C_id ?_; first | refine C_seq ?_ | refine C_region ?_) | (refine E_id ?_; first | refine E_code ?_))
  refine X_callg _ rfl rfl rfl rfl rfl (new_ 40 _ (by omega) (by omega)) ?_
  rintro _ w ⟨p, rfl, hS'⟩
  replace hS := hS.plus hS'
  clear hS'
  repeat (first | (refine G_id ?_; first | refine G_nil ?_ | refine G_plain rfl rfl ?_) | (refine X_id ?_; first | refine X_yl (Yl_move rfl rfl) rfl rfl ?_ | refine X_yl (Yl_assign rfl rfl) rfl rfl ?_ | refine X_yl (Yl_extract rfl rfl) rfl rfl ?_) | (refine C_id ?_; first | refine C_seq ?_ | refine C_region ?_) | (refine E_id ?_; first | refine E_code ?_))
  have hopen := open_ p (newDisk 40) 20 rd fs
  rw [nil_open] at hopen
  obtain ⟨_, hc, hr, hw, hbk⟩ := hS.call [true]
  refine X_callg _ rfl rfl rfl rfl rfl (hopen _ _ (hG.mono hw) (by simp [newDisk]) hc) ?_
  rintro _ w (⟨h, _⟩ | ⟨_, lp, rfl, hS⟩)
  · exact absurd rfl h
  replace hS := hbk hS
  clear hc hr hw hbk hopen
  replace hS : St W noF [qlog lp p 20 0 (List.replicate 19 zero64)] w := St.newLog (k := 19) (by omega) hS
  repeat (first | (refine G_id ?_; first | refine G_nil ?_ | refine G_plain rfl rfl ?_) | (refine X_id ?_; first | refine X_yl (Yl_move rfl rfl) rfl rfl ?_ | refine X_yl (Yl_assign rfl rfl) rfl rfl ?_ | refine X_yl (Yl_extract rfl rfl) rfl rfl ?_) | (refine C_id ?_; first | refine C_seq ?_ | refine C_region ?_) | (refine E_id ?_; first | refine E_code ?_))
  obtain ⟨_, hc, hr, hw, hbk⟩ := hS.call [true]
  refine X_callg _ rfl rfl rfl rfl rfl (format_ lp p 20 0 4 14 _ rd fs _ _ (hG.mono hw) (by simp) (by omega) (by omega) (by omega) (by omega) (by simp [last]) (zeros_get (by omega)) (fun i hi => zeros_get (by omega)) hc) ?_
  rintro _ w ⟨tp, rfl, hS⟩
  replace hS := hbk hS
  clear hc hr hw hbk
  repeat (first | (refine G_id ?_; first | refine G_nil ?_ | refine G_plain rfl rfl ?_ | refine G_yes rfl rfl rfl rfl ?_) | (refine X_id ?_; first | refine X_yl (Yl_move rfl rfl) rfl rfl ?_ | refine X_yl (Yl_assign rfl rfl) rfl rfl ?_ | refine X_yl (Yl_extract rfl rfl) rfl rfl ?_ | refine X_yl (Yl_pick_f rfl rfl rfl) rfl rfl ?_ | refine X_yl (Yl_neq_f rfl rfl rfl (by omega)) rfl rfl ?_ | refine X_yl (Yl_eqlNil_some rfl rfl rfl) rfl rfl ?_) | (refine C_id ?_; first | refine C_seq ?_ | refine C_region ?_ | refine C_skip ?_ | refine C_cond_f rfl ?_) | (refine E_id ?_; first | refine E_code ?_))
  obtain ⟨r, A, dat, hI⟩ := (hS.rd (List.mem_cons_self ..)).itab
  refine X_callq _ rfl rfl rfl rfl rfl hS (room_ _ hI) ?_
  rw [known_room.1]
  rintro _ w rfl hS
  clear hI
  repeat (first | (refine G_id ?_; first | refine G_nil ?_ | refine G_plain rfl rfl ?_) | (refine X_id ?_; first | refine X_yl (Yl_move rfl rfl) rfl rfl ?_ | refine X_yl (Yl_assign rfl rfl) rfl rfl ?_) | (refine C_id ?_; first | refine C_seq ?_ | refine C_region ?_) | (refine E_id ?_; first | refine E_code ?_))
  refine X_makeB (c := 512) rfl rfl rfl (by omega) (by omega) rfl rfl hS (fun kp _ hS => ?_)
  repeat (first | (refine G_id ?_; first | refine G_plain rfl rfl ?_) | (refine X_id ?_; first | refine X_yl (Yl_build rfl rfl rfl) rfl rfl ?_ | refine X_buildSlice rfl rfl rfl rfl rfl rfl rfl rfl hS (fun _ _ hS _ => ?_)))
  rename_i bl w1 _
  have hch : ∀ F, (∀ r ∈ [own 44 7 (some ⟨bl, 0, none⟩) 1 [.int .i64 2, .int .i64 0, .int .i64 0, .int .i64 0, .int .i64 0, .slice (some ⟨kp, 0, none⟩) 512 512, .bool false], pts kp (.cells (bv (List.replicate 512 0)).toArray 5)], Ro w1 F r) → Chgs w1 F (some ⟨bl, 0, none⟩) [⟨⟨2, knd, false⟩, some ⟨kp, 0, none⟩, 512⟩] := fun F hr => by
    refine ⟨(hr _ (List.mem_cons_self ..)).own_row, fun v hv => ?_⟩
    rw [List.mem_singleton] at hv
    rw [hv]
    exact (hr _ (List.mem_cons_of_mem _ (List.mem_cons_self ..))).mono fun g hg => ⟨g, row_pts g hg, fun _ _ e => e⟩
  have hS := hS.pick [2, 0, 0]
  obtain ⟨_, hc, hr, hw, hbk⟩ := hS.call [true, false, false]
  refine X_callg _ rfl rfl rfl rfl rfl (apply_ (some ⟨bl, 0, none⟩) 1 [⟨⟨2, knd, false⟩, some ⟨kp, 0, none⟩, 512⟩] _ _ (hG.mono hw) (hch _ hr) (by simp) (by simp) (by simp [last]) hc) ?_
  rw [show List.map ChgA.c [⟨⟨2, knd, false⟩, some ⟨kp, 0, none⟩, 512⟩] = [⟨2, knd, false⟩] from rfl, known_app]
  rintro _ w ⟨rfl, hS⟩
  replace hS := hbk hS
  clear hc hr hw hbk hch
  replace hS : St W noF [itab rd fs tp lp p 20 2 4 14 ktb] w := hS.pick [0]
  repeat (first | (refine G_id ?_; first | refine G_nil ?_ | refine G_plain rfl rfl ?_) | (refine X_id ?_; first | refine X_yl (Yl_move rfl rfl) rfl rfl ?_ | refine X_yl (Yl_assign rfl rfl) rfl rfl ?_) | (refine C_id ?_; first | refine C_seq ?_ | refine C_region ?_) | (refine E_id ?_; first | refine E_code ?_))
  obtain ⟨r, A, dat, hI⟩ := (hS.rd (List.mem_cons_self ..)).itab
  refine X_callg _ rfl rfl rfl rfl rfl (get_some 2 knd rfl _ hI) ?_
  rintro _ w ⟨ga, gc, rfl, _, hS'⟩
  replace hS := hS.plus hS'
  clear hS' hI
  repeat (first | (refine G_id ?_; first | refine G_nil ?_ | refine G_plain rfl rfl ?_ | refine G_yes rfl rfl rfl rfl ?_) | (refine X_id ?_; first | (refine X_callg 24 rfl rfl rfl rfl rfl (iblocks_ 64 _ (by omega)) ?_; rintro _ _ ⟨rfl, rfl⟩) | (refine X_callg 24 rfl rfl rfl rfl rfl (iblocks_ 65 _ (by omega)) ?_; rintro _ _ ⟨rfl, rfl⟩) | refine X_yl (Yl_move rfl rfl) rfl rfl ?_ | refine X_yl (Yl_assign rfl rfl) rfl rfl ?_ | refine X_yl (Yl_fieldAddr0 rfl rfl rfl) rfl rfl ?_ | refine X_yl (Yl_extract rfl rfl) rfl rfl ?_ | refine X_yl (Yl_pick_t rfl rfl rfl) rfl rfl ?_ | refine X_yl (Yl_len rfl rfl) rfl rfl ?_ | refine X_yl (Yl_eql_t rfl rfl rfl (by omega)) rfl rfl ?_ | refine X_yl (Yl_eql rfl rfl rfl) rfl rfl ?_ | refine X_yl (Yl_load rfl rfl hS.cell) rfl rfl ?_ | refine X_store rfl rfl rfl rfl hS (fun _ hS _ => ?_) | refine X_alloc rfl rfl rfl hS (fun _ _ hS _ => ?_)) | (refine C_id ?_; first | refine C_seq ?_ | refine C_region ?_) | (refine E_id ?_; first | refine E_code ?_))
  obtain ⟨r, A, dat, hI⟩ := (hS.rd (r := itab rd fs tp lp p 20 2 4 14 ktb) (by simp)).itab
  refine X_callq _ rfl rfl rfl rfl rfl hS (room_ _ hI) ?_
  rw [known_room.2]
  rintro _ w rfl hS
  repeat (first | (refine G_id ?_; first | refine G_nil ?_ | refine G_plain rfl rfl ?_ | refine G_yes rfl rfl rfl rfl ?_) | (refine X_id ?_; first | refine X_yl (Yl_assign rfl rfl) rfl rfl ?_ | refine X_yl (Yl_pick_t rfl rfl rfl) rfl rfl ?_ | refine X_yl (Yl_eql_t rfl rfl rfl (by omega)) rfl rfl ?_ | refine X_yl (Yl_sub rfl rfl rfl (w64 (by omega) (by omega))) rfl rfl ?_) | (refine C_id ?_; first | refine C_ret ?_) | (refine E_id ?_; first | refine E_code ?_ | refine E_ret1 rfl (Rv_tmp rfl) (Ret.mk ?_)))
  exact ⟨rfl, hS.drops⟩
end Cr
namespace Cr
open Go Go.Proofs Go.ChangeShapes Go.WideShapes
set_option maxRecDepth 100000
section
variable {H : Type} {enc : TypeId × Value → H} {w : World} {base : Nat} {sp : Nat → Bool} {held : Bool}
theorem one_int7 {n : Nat} {v : Value} {y : DataW H × List MemPlace} (h : DataW.trod enc Tryz.prog w base sp held n 3 [v] = some y) : ∃ k : Int, v = .int .i64 k := by
  obtain ⟨k, hk, _, hw⟩ := DataW.trod_int Tryz.underlying3 h
  exact ⟨k, by simpa using hk⟩
theorem one_bool7 {n : Nat} {v : Value} {y : DataW H × List MemPlace} (h : DataW.trod enc Tryz.prog w base sp held n 4 [v] = some y) : ∃ k : Bool, v = .bool k := by
  obtain ⟨k, hk, _⟩ := DataW.trod_bool Tryz.underlying4 h
  exact ⟨k, by simpa using hk⟩
theorem cells7_int : Tryz.prog.cellsOf 3 = 1 := by kernel_rfl
theorem cells7_bool : Tryz.prog.cellsOf 4 = 1 := by kernel_rfl
theorem cells7_sl : Tryz.prog.cellsOf 40 = 1 := by kernel_rfl
theorem cells7_stat : Tryz.prog.cellsOf 60 = 4 := by kernel_rfl
theorem cells7_node : Tryz.prog.cellsOf 62 = 5 := by kernel_rfl
theorem cells7_chg : Tryz.prog.cellsOf 64 = 7 := by kernel_rfl
theorem open_stat {fuel : Nat} {a0 a1 a2 a3 : Value} {x : DataW H × List MemPlace} (h : DataW.trod enc Tryz.prog w base sp held fuel 60 [a0, a1, a2, a3] = some x) : ∃ s : StatM, [a0, a1, a2, a3] = s.cells := by
  obtain ⟨xs, n, _, _, hl, hxl, hf⟩ := DataW.trod_struct Tryz.underlying60 h
  have hxl : xs.length = 4 := hxl
  have f0 : DataW.trod enc Tryz.prog w base sp held n 3 ((List.drop 0 [a0, a1, a2, a3]).take (Tryz.prog.cellsOf 3)) = xs[0]? := hf 0 _ rfl
  have f1 : DataW.trod enc Tryz.prog w base sp held n 3 ((List.drop 1 [a0, a1, a2, a3]).take (Tryz.prog.cellsOf 3)) = xs[1]? := hf 1 _ rfl
  have f2 : DataW.trod enc Tryz.prog w base sp held n 3 ((List.drop 2 [a0, a1, a2, a3]).take (Tryz.prog.cellsOf 3)) = xs[2]? := hf 2 _ rfl
  have f3 : DataW.trod enc Tryz.prog w base sp held n 3 ((List.drop 3 [a0, a1, a2, a3]).take (Tryz.prog.cellsOf 3)) = xs[3]? := hf 3 _ rfl
  rw [cells7_int, List.getElem?_eq_getElem (by omega)] at f0 f1 f2 f3
  simp only [List.drop_zero, List.drop_succ_cons, List.take_succ_cons, List.take_zero] at f0 f1 f2 f3
  obtain ⟨n0, rfl⟩ := one_int7 f0
  obtain ⟨n1, rfl⟩ := one_int7 f1
  obtain ⟨n2, rfl⟩ := one_int7 f2
  obtain ⟨n3, rfl⟩ := one_int7 f3
  exact ⟨⟨n0, n1, n2, n3⟩, rfl⟩
theorem list5 {cs : List Value} (h : cs.length = 5) : ∃ a0 a1 a2 a3 a4, cs = [a0, a1, a2, a3, a4] := by
  match cs, h with
  | [a0, a1, a2, a3, a4], _ => exact ⟨_, _, _, _, _, rfl⟩
theorem open_node {fuel : Nat} {cs : List Value} {x : DataW H × List MemPlace} (h : DataW.trod enc Tryz.prog w base sp held fuel 62 cs = some x) :
    ∃ (y : Nd) (a : Option Addr) (c : Nat), cs = ndV y a c ∧ y.data.length ≤ c ∧ Rd w (bytes a y.data) := by
  obtain ⟨xs, n, _, _, hl, hxl, hf⟩ := DataW.trod_struct Tryz.underlying62 h
  rw [cells7_node] at hl
  have hxl : xs.length = 2 := hxl
  obtain ⟨a0, a1, a2, a3, a4, rfl⟩ := list5 hl
  have f0 : DataW.trod enc Tryz.prog w base sp held n 60 ((List.drop 0 [a0, a1, a2, a3, a4]).take (Tryz.prog.cellsOf 60)) = xs[0]? := hf 0 _ rfl
  have f1 : DataW.trod enc Tryz.prog w base sp held n 40 ((List.drop 4 [a0, a1, a2, a3, a4]).take (Tryz.prog.cellsOf 40)) = xs[1]? := hf 1 _ rfl
  rw [cells7_stat, List.getElem?_eq_getElem (by omega)] at f0
  rw [cells7_sl, List.getElem?_eq_getElem (by omega)] at f1
  simp only [List.drop_zero, List.drop_succ_cons, List.take_succ_cons, List.take_zero] at f0 f1
  obtain ⟨s, hs⟩ := open_stat f0
  obtain ⟨b, d, q, hsl, hq, _, hb⟩ := open_bytes Tryz.underlying40 Tryz.underlying5 (by kernel_rfl) f1
  simp only [List.cons.injEq, and_true] at hs hsl
  obtain ⟨rfl, rfl, rfl, rfl⟩ := hs
  subst hsl
  exact ⟨⟨s, d⟩, b, q, rfl, hq, hb⟩
end
end Cr
namespace Cr
open Go
section
variable {P : Program} {o : Oper} {σ : Env} {w : World} {N : Nat} {ds : Md} {K : Env → World → Prop} {x y : Operand} {t ty e : TypeId}
theorem str_size (s : List UInt8) : (str s).size = s.length := by simp [str, ByteArray.size]
theorem str_app (a b : List UInt8) : str a ++ str b = str (a ++ b) := ByteArray.mk_append_mk a b
theorem str_of (s : ByteArray) : ∃ l, s = str l := ⟨s.data.toList, by cases s; simp [str]⟩
theorem str_extract (s : List UInt8) (l h : Nat) : (str s).extract l h = str ((s.drop l).take (h - l)) := by
  apply ByteArray.ext
  simp [str, ByteArray.data_extract, List.extract_eq_take_drop]
theorem Yl_addStr {a b : List UInt8} (ho : o.op = .binOp .add t x y ty) (hx : ev σ x = some (.string (str a))) (hy : ev σ y = some (.string (str b))) (hl : a.length + b.length ≤ 9223372036854775807) : Yl P o σ w (.string (str (a ++ b))) := ⟨fun N ds f ha => by
  have h := run_string_add_sum (P := P) w (str a) (str b) (by rw [str_size, str_size]; exact hl)
  rw [str_app] at h
  simp [execOp, ho, ha.eval hx, ha.eval hy, binOp, eqGuard, h]⟩
theorem Yl_eqlStrT {a b : List UInt8} (ho : o.op = .binOp .eql t x y ty) (hx : ev σ x = some (.string (str a))) (hy : ev σ y = some (.string (str b))) (h : a = b) : Yl P o σ w (.bool true) := by
  have := Yl_eqlStr (P := P) (w := w) ho hx hy
  rwa [decide_eq_true h] at this
theorem Yl_eqlStrF {a b : List UInt8} (ho : o.op = .binOp .eql t x y ty) (hx : ev σ x = some (.string (str a))) (hy : ev σ y = some (.string (str b))) (h : ¬ a = b) : Yl P o σ w (.bool false) := by
  have := Yl_eqlStr (P := P) (w := w) ho hx hy
  rwa [decide_eq_false h] at this
theorem Yl_neqStrF {a b : List UInt8} (ho : o.op = .binOp .neq t x y ty) (hx : ev σ x = some (.string (str a))) (hy : ev σ y = some (.string (str b))) (h : a = b) : Yl P o σ w (.bool false) := by
  have := Yl_neqStr (P := P) (w := w) ho hx hy
  rwa [decide_eq_false (fun q => q h)] at this
theorem Yl_neqStrT {a b : List UInt8} (ho : o.op = .binOp .neq t x y ty) (hx : ev σ x = some (.string (str a))) (hy : ev σ y = some (.string (str b))) (h : ¬ a = b) : Yl P o σ w (.bool true) := by
  have := Yl_neqStr (P := P) (w := w) ho hx hy
  rwa [decide_eq_true h] at this
theorem Yl_lenStr {s : List UInt8} (ho : o.op = .call { callee := .builtin .len, args := #[x], argTypes := #[t] }) (hx : ev σ x = some (.string (str s))) [h : Und P t .string] : Yl P o σ w (.int .i64 (s.length : Nat)) := by
  have := Yl_len_str (P := P) (w := w) ho hx
  rwa [str_size] at this
theorem Yl_sliceStr {s : List UInt8} {l h : Nat} {lo hi : Option Operand} {vl vh : Option Value} (ho : o.op = .slice t x lo hi none) (hx : ev σ x = some (.string (str s))) (hlo : evo σ lo = some vl) (hhi : evo σ hi = some vh) [hu : Und P t .string] (hh : Bnd vh s.length s.length h) (hl : Bnd vl 0 h l) :
    Yl P o σ w (.string (str ((s.drop l).take (h - l)))) := by
  rw [← str_extract]
  exact Yl_slice_str ho hx hlo hhi (by rw [str_size]; exact hh) hl
theorem Yl_indexStr {s : List UInt8} {k : IntKind} {i : Int} {b : UInt8} (ho : o.op = .index t x y) (hx : ev σ x = some (.string (str s))) (hy : ev σ y = some (.int k i)) [h : Und P t .string] (h0 : 0 ≤ i) (hb : s[i.toNat]? = some b) :
    Yl P o σ w (.int .u8 (b.toNat : Int)) := by
  have hlt := (List.getElem?_eq_some_iff.1 hb).1
  have := Yl_index_str (P := P) (w := w) (s := str s) ho hx hy h0 (by rw [str_size]; exact hlt)
  have e : (str s)[i.toNat]'(by rw [str_size]; exact hlt) = b := by
    obtain ⟨_, he⟩ := List.getElem?_eq_some_iff.1 hb
    rw [← he]; rfl
  rwa [e] at this
/-! ### errors that may be nil -/
theorem run_eqlIfSome {d : TypeId} {u : Value} {ms : Array (String × TypeId)} [h : Und P t (.interface ms)] : (Op.equal t (.iface d u) .nilIface).run P w = .ok false w := by
  have key : ∀ d', (Op.equalIn (d' + 1) t (.iface d u) .nilIface).run P w = .ok false w := fun d' => by
    rw [Op.equalIn]; simp [run_underlying h.und]
  exact key 9999
theorem run_eqlIfNil {ms : Array (String × TypeId)} [h : Und P t (.interface ms)] : (Op.equal t .nilIface .nilIface).run P w = .ok true w := by
  have key : ∀ d', (Op.equalIn (d' + 1) t .nilIface .nilIface).run P w = .ok true w := fun d' => by
    rw [Op.equalIn]; simp [run_underlying h.und]
  exact key 9999
theorem Yl_neqIfSome {d : TypeId} {u : Value} {ms : Array (String × TypeId)} (ho : o.op = .binOp .neq t x y ty) (hx : ev σ x = some (.iface d u)) (hy : ev σ y = some .nilIface) [h : Und P t (.interface ms)] : Yl P o σ w (.bool true) := ⟨fun N ds f ha => by
  simp only [execOp, ho, ha.eval hx, ha.eval hy, eqGuard_at_iface, binOp, Sem.run_bind, Sem.run_pure, Result.andThen_ok, run_eqlIfSome (ms := ms)]; rfl⟩
theorem Yl_neqIfNil {ms : Array (String × TypeId)} (ho : o.op = .binOp .neq t x (.const .nilIface) ty) (hx : ev σ x = some .nilIface) [h : Und P t (.interface ms)] : Yl P o σ w (.bool false) := ⟨fun N ds f ha => by
  have hy : f.eval (.const .nilIface) = .nilIface := rfl
  simp only [execOp, ho, ha.eval hx, hy, eqGuard_nil_constR, binOp, Sem.run_bind, Sem.run_pure, Result.andThen_ok, run_eqlIfNil (ms := ms)]; rfl⟩
theorem St.strBytes {W : World} {F : Nat → Prop} {rs : List Res} (hS : St W F rs w) (e : TypeId) (s : List UInt8) : St W F (bytes (some ⟨w.heap.size, 0, none⟩) s :: rs) (Lib.bytesWorld w e (str s)) := by
  have h1 := hS.drew.alloc (.cells (Lib.bytesCells w e (str s)) e)
  have h2 := h1.set (w' := Lib.bytesWorld w e (str s)) (o' := .cells (Lib.bytesCells w e (str s)) e ((Lib.bytesCells w e (str s)).size, (Lib.bytesCells w e (str s)).size + 1))
    ⟨by rw [Lib.bytesWorld_size]; simp [World.alloc, World.drew, -World.alloc_eq, -World.drew_eq], Lib.bytesWorld_at_new w e (str s), fun k hk => by
      have hk : k ≠ w.heap.size := hk
      rcases Nat.lt_or_ge k w.heap.size with h | h
      · rw [Lib.bytesWorld_at_old w e (str s) k h]
        simp [World.alloc, World.drew, -World.alloc_eq, -World.drew_eq, Array.getElem?_push, hk]
      · rw [Array.getElem?_eq_none (by rw [Lib.bytesWorld_size]; omega), Array.getElem?_eq_none (by simp [World.alloc, World.drew, -World.alloc_eq, -World.drew_eq]; omega)],
      rfl, rfl, rfl⟩
  refine h2.head fun h hh => ?_
  refine .inr ⟨w.heap.size, 0, _, e, _, rfl, hh, fun i v hv => ?_⟩
  have hlt := (List.getElem?_eq_some_iff.1 hv).1
  rw [bv_length] at hlt
  rw [bv_get hlt] at hv
  rw [← Option.some.inj hv, Nat.zero_add]
  unfold Lib.bytesCells
  rw [Array.getElem?_append_left (by simp [str]; exact hlt)]
  simp [str, hlt]
theorem X_strBytes {src dst : TypeId} {s : List UInt8} {d : Nat} {W : World} {F : Nat → Prop} {rs : List Res} (ho : o.op = .convert src dst x) (hx : ev σ x = some (.string (str s))) [hs : Und P src .string] [hd : Und P dst (.slice e)] [he : Und P e (.int .u8)]
    (hdst : o.dst = some d) (hN : Nat.blt d N = true) (hS : St W F rs w) (h : ∀ b c w', St W F (bytes (some ⟨b, 0, none⟩) s :: rs) w' → s.length ≤ c → K ((d, .slice (some ⟨b, 0, none⟩) s.length c) :: σ) w') : X P o N ds σ w K := ⟨fun f ha K' Q' hK => by
  have hr := Lib.run_convert_string_bytes (P := P) w src dst e (str s) hs.und hd.und he.und
  have hexec : (execOp f.eval o).run P w = .ok (.value (.slice (some ⟨w.heap.size, 0, none⟩) s.length (grownCap w (str s).size 0 e))) (Lib.bytesWorld w e (str s)) := by
    simp only [execOp, ho, ha.eval hx, Sem.run_bind, hr, Result.andThen_ok, str_size]
    rfl
  unfold Oper.wp
  rw [hexec]
  have := hK _ _ _ (ha.put (lt_of_blt hN) (.slice (some ⟨w.heap.size, 0, none⟩) s.length (grownCap w (str s).size 0 e))) (h _ _ _ (hS.strBytes e s) (by have := grownCap_ge w (str s).size 0 e; rw [str_size] at this; rw [str_size]; exact this))
  rw [← hdst] at this
  exact this⟩
end
end Cr
