/-
  Layer 2 (digest): Of.
  A bag of rows: read only, and they may lie one in another. Over any program.
  A conversion of bytes to the same type (the model marks the block): the row can be read on. Over any program.
  Bytes made; lists of byte slices as a resource. Over any program.
  Arrays of bytes compared. Over any program.
  Layer 27 (audit): what nil tells; the law AuditNil.
  A law's arguments, opened: bytes, lists of writes. What is read of them, by the reading that the row gives.
  Layer 27's record as an argument, opened.
  The closed facts of AuditNil's row, one by one.
  The law AuditNil holds: for every record it returns true, and what is handed reads as it did; the package-level tables are as the program's text lays them.
-/
import Derived.Test.YtflbhldcnjmkkaaGreatDoorAnl7
import Derived.Test.YtflbhldcnjmkkaaGreatDoorAnl2
import Derived.Test.YtflbhldcnjmkkaaGreatDoorAnl4
import Derived.Laws.StructEq
import Derived.KernelRfl
import Derived.Deep.SlicePairs
import Derived.Carry
import Derived.Test.YtflbhldcnjmkkaaGreatDoorAnl5
import Derived.Test.YtflbhldcnjmkkaaGreatDoorAnl3
import Derived.OpenShut
namespace Cr
open Go Go.Proofs
set_option maxRecDepth 100000
set_option maxHeartbeats 4000000
attribute [local irreducible] Calls

/-- The digest of texts, one behind the other. -/
def digest0 (rd fs : List Int) (l : List UInt8) : List UInt8 := (StrM.init.more rd fs l).sum rd fs
theorem digest0_length (rd fs : List Int) (l : List UInt8) : (digest0 rd fs l).length = 32 := by unfold digest0 StrM.sum; exact outB_length _
attribute [irreducible] digest0
theorem dof_ (a : Option Addr) (c : Nat) (l : List Bs) (rd fs : List Int) (W : World) (hn : (joined l).length < 1152921504606846976) (hl : l.length < 2305843009213693951) (hG : Gl W noF rd fs) (hB : Bss W noF a l) :
    Calls Tryz.prog 94 #[.slice a l.length c] W (Ret fun v w => v = .agg (bv (digest0 rd fs (joined l))).toArray ∧ St W noF [] w) := by
  have hS := St.start W
  have hf := hG.first8
  refine calls_C Tryz.func94 rfl Tryz.ntmps94 rfl ?_
  repeat (first | (refine G_id ?_; first | refine G_nil ?_ | refine G_plain rfl rfl ?_) | (refine X_id ?_; first | refine X_yl (Yl_move rfl rfl) rfl rfl ?_ | refine X_yl (Yl_build rfl rfl rfl) rfl rfl ?_ | refine X_box rfl rfl rfl rfl hS (fun _ _ hS _ => ?_) | refine X_alloc rfl rfl rfl hS (fun _ _ hS _ => ?_)) | (refine C_id ?_; first | refine C_seq ?_ | refine C_region ?_) | (refine E_id ?_; first | refine E_code ?_))
  rename_i b2 _ _ _ p wp _
  rw [bv_rep] at hS
  replace hS : St W noF [pts p (.cells StrM.init.cells.toArray 283), pts b2 (.cells (bv (List.replicate 32 0)).toArray 93)] wp := hS
  obtain ⟨_, hc, hr, hw, hbk⟩ := hS.call [true, false]
  have hBs : Bss wp _ a l := ⟨hw _ hB.row, fun y hy => hw _ (hB.all y hy)⟩
  refine X_callg _ rfl rfl rfl rfl rfl (dwrite_ p StrM.init _ _ _ rd fs _ _ _ StrM.init_ok (by simp [StrM.init]; omega) hl (hG.mono hw) hBs hc) ?_
  rintro _ w ⟨rfl, hS⟩
  replace hS := hbk hS
  clear hc hr hw hbk hBs
  have hlen32 : LenO (bv ((StrM.init.more rd fs (joined l)).sum rd fs)) 32 := ⟨by rw [bv_length]; exact outB_length _⟩
  have hok' : (StrM.init.more rd fs (joined l)).ok := StrM.more_ok hf StrM.init_ok
  have hn' : (StrM.init.more rd fs (joined l)).n < 1152921504606846976 := by rw [StrM.more_n]; simp [StrM.init]; omega
  repeat (first | (refine G_id ?_; first | refine G_nil ?_ | refine G_plain rfl rfl ?_) | (refine X_id ?_; first | (refine X_callq 156 rfl rfl rfl rfl rfl hS (sum_ p (StrM.init.more rd fs (joined l)) rd fs 283 _ hok' hn' (hG.mono fun r hr => (hr.rd hS).ro) (hS.rd (List.mem_cons_self ..))) ?_; rintro _ _ rfl hS) | refine X_storeAll rfl rfl rfl rfl hS (fun _ hS => ?_)) | (refine C_id ?_; first | refine C_ret ?_) | (refine E_id ?_; first | refine E_code ?_ | refine E_ret1 rfl (by first | exact Rv_tmp rfl | exact Rv_cell rfl (run_load1 hS.cell) | exact Rv_cell rfl (run_loadN hS.cellsN)) (Ret.mk ?_)))
  refine ⟨?_, hS.drops⟩
  unfold digest0
  rfl
end Cr
namespace Cr
open Go
theorem Sep.merge {r s t : Res} {rs : List Res} {h : Frag} (H : Sep (r :: s :: rs) h) (hm : ∀ h1 h3, r h1 → s h3 → (∀ k, h1 k = none ∨ h3 k = none) → t (fun k => (h1 k).or (h3 k))) : Sep (t :: rs) h := by
  obtain ⟨h1, h2, a, ⟨h3, h4, b, c, d', u'⟩, d, u⟩ := H
  refine ⟨fun k => (h1 k).or (h3 k), h4, hm h1 h3 a b fun k => ?_, c, fun k => ?_, fun k => ?_⟩
  · rcases d k with e | e
    · exact .inl e
    · rw [u'] at e; simp at e; exact .inr e.1
  · rcases d k with e | e
    · rcases d' k with e' | e'
      · left; simp [e, e']
      · exact .inr e'
    · rw [u'] at e; simp at e; exact .inr e.2
  · rw [u, u']; cases e1 : h1 k <;> simp [e1]
theorem St.merge {W : World} {F : Nat → Prop} {r s t : Res} {rs : List Res} {w : World} (hS : St W F (r :: s :: rs) w) (hm : ∀ h1 h3, r h1 → s h3 → (∀ k, h1 k = none ∨ h3 k = none) → t (fun k => (h1 k).or (h3 k))) : St W F (t :: rs) w :=
  hS.imp fun _ h => h.merge hm
abbrev RowD := Option Addr × List Value
/-- All these rows lie in it. -/
def bag (X : List RowD) : Res := fun h => ∀ x ∈ X, ∃ h', row x.1 x.2 h' ∧ ∀ b o, h' b = some o → h b = some o
theorem Ro.bag {W : World} {F : Nat → Prop} {X : List RowD} (H : Ro W F (Cr.bag X)) {x : RowD} (hx : x ∈ X) : Ro W F (row x.1 x.2) := H.mono fun _ hh => hh x hx
theorem Rd.bag {w : World} {X : List RowD} (H : Rd w (Cr.bag X)) {x : RowD} (hx : x ∈ X) : Rd w (row x.1 x.2) := H.mono fun _ hh => hh x hx
theorem bag_nil (h : Frag) : bag [] h := fun x hx => by cases hx
section
variable {W : World} {F : Nat → Prop} {rs : List Res} {w : World}
theorem St.bagSub {X Y : List RowD} (hS : St W F (bag X :: rs) w) (h : ∀ x ∈ Y, x ∈ X) : St W F (bag Y :: rs) w := hS.head fun _ hg x hx => hg x (h x hx)
theorem St.bagNil (hS : St W F rs w) : St W F (bag [] :: rs) w := by
  obtain ⟨h, hs, s⟩ := hS
  exact ⟨h, ⟨fun _ => none, h, bag_nil _, hs, fun _ => .inl rfl, fun _ => by simp⟩, s⟩
theorem or_left {h1 h3 : Frag} {b : Nat} {o : Obj} (e : h1 b = some o) : (h1 b).or (h3 b) = some o := by rw [e]; rfl
theorem or_right {h1 h3 : Frag} (d : ∀ k, h1 k = none ∨ h3 k = none) {b : Nat} {o : Obj} (e : h3 b = some o) : (h1 b).or (h3 b) = some o := by
  rcases d b with e' | e'
  · rw [e', e]; rfl
  · rw [e'] at e; cases e
theorem St.bagJoin {X Y : List RowD} (hS : St W F (bag X :: bag Y :: rs) w) : St W F (bag (X ++ Y) :: rs) w :=
  hS.merge fun h1 h3 a b d x hx => by
    rcases List.mem_append.1 hx with hx | hx
    · obtain ⟨h', hr, hs⟩ := a x hx
      exact ⟨h', hr, fun b o e => or_left (hs b o e)⟩
    · obtain ⟨h', hr, hs⟩ := b x hx
      exact ⟨h', hr, fun b o e => or_right d (hs b o e)⟩
theorem St.toBag {r : Res} {a : Option Addr} {cs : List Value} (hS : St W F (r :: rs) w) (hr : ∀ h, r h → row a cs h) : St W F (bag [(a, cs)] :: rs) w :=
  hS.head fun h hg x hx => by
    rw [List.mem_singleton] at hx; subst hx
    exact ⟨h, hr h hg, fun _ _ e => e⟩
theorem St.bagAdd {r : Res} {a : Option Addr} {cs : List Value} {X : List RowD} (hS : St W F (r :: bag X :: rs) w) (hr : ∀ h, r h → row a cs h) : St W F (bag ((a, cs) :: X) :: rs) w :=
  (hS.toBag hr).bagJoin
/-- A part of a row is in the bag with it. -/
theorem St.bagPart {X : List RowD} {a a' : Option Addr} {cs cs' : List Value} (hS : St W F (bag X :: rs) w) (hx : (a, cs) ∈ X) (hp : ∀ h, row a cs h → ∃ h', row a' cs' h' ∧ ∀ b o, h' b = some o → h b = some o) : St W F (bag ((a', cs') :: X) :: rs) w :=
  hS.head fun h hg x hx' => by
    rcases List.mem_cons.1 hx' with rfl | hx'
    · obtain ⟨h1, hr, hs⟩ := hg _ hx
      obtain ⟨h2, hr2, hs2⟩ := hp h1 hr
      exact ⟨h2, hr2, fun b o e => hs b o (hs2 b o e)⟩
    · exact hg x hx'
theorem own.shrink {T : TypeId} {e : Nat} {a : Option Addr} {c : Nat} {cs : List Value} (k : Nat) : ∀ h, own T e a c cs h → own T e a c (cs.take k) h := fun h H => by
  obtain ⟨hl, hm, H⟩ := H
  refine ⟨by rw [List.length_take]; omega, hm, H.imp id fun ⟨b, cells, ha, hh, hs, ht⟩ => ⟨b, cells, ha, hh, hs, ?_⟩⟩
  rw [List.length_take, ← List.take_take, ht]
end
end Cr
namespace Cr
open Go
section
variable {P : Program} {o : Oper} {σ : Env} {w : World} {N : Nat} {ds : Md} {K : Env → World → Prop}
variable {x : Operand} {t e : TypeId}
theorem X_convSame {b n c c' d : Nat} {T : TypeId} {cs : List Value} {W : World} {F : Nat → Prop} {rs rest : List Res} (ho : o.op = .convert t t x) (hx : ev σ x = some (.slice (some ⟨b, 0, none⟩) n c)) [hu : Und P t (.slice e)] [he : Und P e (.int .u8)]
    (hd : o.dst = some d) (hN : Nat.blt d N = true) (hS : St W F rs w) [hh : HasOwn rs (some ⟨b, 0, none⟩) T 1 c' cs rest] (hpos : 0 < cs.length)
    (hk : ∀ w', St W F (row (some ⟨b, 0, none⟩) cs :: rest) w' → K ((d, .slice (some ⟨b, 0, none⟩) n c) :: σ) w') : X P o N ds σ w K := ⟨fun f ha K' Q' hK => by
  obtain ⟨g, ⟨g1, g2, hown, hrest, hdj, hun⟩, s⟩ := hS.perm hh.has
  obtain ⟨hle, hcm, ⟨rfl, _⟩ | ⟨b', cells, hbe, rfl, hcz, ht⟩⟩ := hown
  · rw [Nat.zero_mul] at hle; omega
  · obtain rfl : b = b' := by simpa using hbe
    have hb : w.heap[b]? = some (.cells cells T (0, 0)) := s.agrees b _ (by rw [hun, single_self]; rfl)
    have hS2 : St W F (pts b (.cells cells T (0, 0)) :: rest) w := ⟨g, ⟨_, g2, rfl, hrest, hdj, hun⟩, s⟩
    have hlt := lt_of_get hb
    have hgb : w.heap[b] = .cells cells T (0, 0) := (Array.getElem?_eq_some_iff.1 hb).2
    have u : SetBlock w (w.freeze ⟨b, cells.size, none⟩ 1) b (.cells cells T (cells.size, cells.size + 1)) := by
      unfold World.freeze
      rw [if_neg (by omega)]
      refine ⟨by simp, ?_, fun k hk => ?_, rfl, rfl, rfl⟩
      · rw [Array.getElem?_modify, if_pos rfl, hb]; rfl
      · rw [Array.getElem?_modify, if_neg (Ne.symm hk)]
    have hexec : (execOp f.eval o).run P w = .ok (.value (.slice (some ⟨b, 0, none⟩) n c)) (w.freeze ⟨b, cells.size, none⟩ 1) := by
      have hsh : (shape b).run P w = .ok (some (T, cells.size)) w := by simp [shape, Sem.run, World.shape?, hb]
      have hms : (markStringish ⟨b, 0, none⟩).run P w = .ok () (w.freeze ⟨b, cells.size, none⟩ 1) := by
        unfold markStringish
        rw [Sem.run_bind, hsh]
        rfl
      simp [execOp, ho, ha.eval hx, convert, run_underlying hu.und, run_underlying he.und, hms, Result.andThen]
    unfold Oper.wp
    rw [hexec]
    have := hK _ _ _ (ha.put (lt_of_blt hN) (.slice (some ⟨b, 0, none⟩) n c)) (hk _ ((hS2.set u).head fun h hh => .inr ⟨b, 0, cells, T, _, rfl, hh, fun i v hv => by
      rw [← ht, List.getElem?_take] at hv
      split at hv
      · simpa using hv
      · cases hv⟩))
    rw [← hd] at this
    exact this⟩
end
end Cr
namespace Cr
open Go
set_option maxRecDepth 10000
section
variable {P : Program} {o : Oper} {σ : Env} {w : World} {x y : Operand} {t ty e : TypeId} {N : Nat} {ds : Md} {K : Env → World → Prop}
theorem X_makeB {T bytes d c : Nat} {k k' : IntKind} {W : World} {F : Nat → Prop} {rs : List Res} (ho : o.op = .makeSlice t x y) (hx : ev σ x = some (.int k (c : Nat))) (hy : ev σ y = some (.int k' (c : Nat)))
    [h : Und P t (.slice T)] [hi : Inf P T (.int .u8 0) 1 bytes] (hb : bytes * c ≤ 281474976710656) (hm : c ≤ 9223372036854775807) (hd : o.dst = some d) (hN : Nat.blt d N = true) (hS : St W F rs w)
    (hk : ∀ b w', St W F (pts b (.cells (bv (List.replicate c 0)).toArray T) :: rs) w' → K ((d, .slice (some ⟨b, 0, none⟩) c c) :: σ) w') : X P o N ds σ w K :=
  X_make ho hx hy (by omega) (Int.le_refl _) (by rw [← Int.natCast_mul]; omega) (by omega) hd hN hS fun b w' hS' _ => hk b w' (by
    have e1 : (Value.int .u8 0).cells = #[Value.int .u8 0] := rfl
    rw [e1, madeCells_one, Int.toNat_natCast, Nat.mul_one, bv_rep] at hS'
    exact hS')
theorem X_storeBA {N : Nat} {ds : Md} {K : Env → World → Prop} {b off j : Nat} {c : UInt8} {L : List UInt8} {T : TypeId} {W : World} {F : Nat → Prop} {rs rs' : List Res} (ho : o.op = .store t x y) (hx : ev σ x = some (.pointer (some (adr (some ⟨b, off, none⟩) j)))) (hy : ev σ y = some (.int .u8 (c.toNat : Int))) [hs : Siz P t 1]
    (hd : o.dst = none) (hS : St W F rs w) [hh : Has rs b (.cells (bv L).toArray T (0, 0))] (hfit : off + j < L.length) [hu : Upd rs b (.cells (bv (L.set (off + j) c)).toArray T (0, 0)) rs']
    (h : ∀ w', St W F rs' w' → K σ w') : X P o N ds σ w K := X_storeB (off := off + j) ho hx hy hd hS hfit h
theorem St.cellBA {W : World} {F : Nat → Prop} {rs : List Res} {b off j : Nat} {L : List UInt8} {T : TypeId} (hS : St W F rs w) [hh : Has rs b (.cells (bv L).toArray T (0, 0))] (h : off + j < L.length) : w.cell? (adr (some ⟨b, off, none⟩) j) = some (.int .u8 ((L.getD (off + j) 0).toNat : Int)) := hS.cellB h
end
/-- Slices of bytes of the run's own, each apart. -/
def rds (l : List Bs) : Res := Sep (l.map fun x => bytes x.a x.s)
theorem St.rdsNil {W : World} {F : Nat → Prop} {rs : List Res} {w : World} (hS : St W F rs w) : St W F (rds [] :: rs) w := by
  obtain ⟨h, hs, s⟩ := hS
  exact ⟨h, ⟨fun _ => none, h, fun _ => rfl, hs, fun _ => .inl rfl, fun _ => by simp⟩, s⟩
theorem St.rdsCons {W : World} {F : Nat → Prop} {rs : List Res} {w : World} {x : Bs} {l : List Bs} (hS : St W F (bytes x.a x.s :: rds l :: rs) w) : St W F (rds (l ++ [x]) :: rs) w := by
  obtain ⟨h, hs, s⟩ := hS
  refine ⟨h, ?_, s⟩
  obtain ⟨h1, h2, a, ⟨h3, h4, b, c, d', u'⟩, d, u⟩ := hs
  refine ⟨fun k => (h1 k).or (h3 k), h4, ?_, c, fun k => ?_, fun k => ?_⟩
  · have : Sep (bytes x.a x.s :: (l.map fun x => bytes x.a x.s)) (fun k => (h1 k).or (h3 k)) := ⟨h1, h3, a, b, fun k => by
      rcases d k with e | e
      · exact .inl e
      · rw [u'] at e; simp at e; exact .inr e.1, fun _ => rfl⟩
    have p : (bytes x.a x.s :: (l.map fun x => bytes x.a x.s)).Perm ((l ++ [x]).map fun x => bytes x.a x.s) := by
      rw [List.map_append]; exact (List.perm_append_comm (l₁ := [bytes x.a x.s]) (l₂ := l.map fun x => bytes x.a x.s))
    exact Sep.perm p _ this
  · rcases d k with e | e
    · rcases d' k with e' | e'
      · left; simp [e, e']
      · exact .inr e'
    · rw [u'] at e; simp at e; exact .inr e.2
  · rw [u, u']; cases e1 : h1 k <;> simp [e1]
theorem Ro.sep {W : World} {F : Nat → Prop} {rs : List Res} (H : Ro W F (Sep rs)) : ∀ r ∈ rs, Ro W F r := by
  obtain ⟨f, hs, ha⟩ := H
  induction rs generalizing f with
  | nil => intro r hr; cases hr
  | cons x rs ih =>
    obtain ⟨h1, h2, hx, hrs, hd, hu⟩ := hs
    have s1 : ∀ b o, h1 b = some o → f b = some o := fun b o e => by rw [hu, e]; rfl
    have s2 : ∀ b o, h2 b = some o → f b = some o := fun b o e => by
      rw [hu]; rcases hd b with e' | e'
      · simp [e', e]
      · rw [e] at e'; simp at e'
    intro r hr
    cases hr with
    | head => exact ⟨h1, hx, fun b o e => ha b o (s1 b o e)⟩
    | tail _ hr => exact ih h2 hrs (fun b o e => ha b o (s2 b o e)) r hr
theorem Ro.rds {W : World} {F : Nat → Prop} {l : List Bs} (H : Ro W F (rds l)) : ∀ x ∈ l, Ro W F (bytes x.a x.s) := fun x hx => Ro.sep H _ (List.mem_map.2 ⟨x, hx, rfl⟩)
end Cr
namespace Cr
open Go
set_option maxRecDepth 10000
section
variable {P : Program} {w : World} {t e : TypeId}
theorem run_equalIn_arr (d n : Nat) [h : Und P t (.array n e)] [he : Und P e (.int .u8)] [hs : Siz P e 1] [h1 : One P e] (a b : List UInt8) (ha : a.length = n) (hb : b.length = n) :
    (Op.equalIn (d + 2) t (.agg (bv a).toArray) (.agg (bv b).toArray)).run P w = .ok (decide (a = b)) w := by
  unfold Op.equalIn
  simp only [Sem.run_bind, run_underlying h.und, Result.andThen_ok, run_sizeOf (n := 1), Nat.mul_one]
  simp only [Std.Legacy.Range.forIn_eq_forIn_range']
  have hp : ∀ (l : List UInt8) (i : Nat) (hi : i < l.length), (part e (bv l).toArray i).run P w = .ok (.int .u8 (l[i].toNat : Int)) w := fun l i hi => by
    have := bv_get hi
    simp [part, h1.one, List.getElem?_toArray, this]
  have key : ∀ m s, s + m = n → (forIn (List.range' s m) (none, ()) (fun i (__s : Option Bool × Unit) => do
      let __do_lift ← part e (bv a).toArray i
      let __do_lift_1 ← part e (bv b).toArray i
      let __do_lift ← Op.equalIn (d + 1) e __do_lift __do_lift_1
      if (!__do_lift) = true then pure (ForInStep.done (some false, ())) else pure (ForInStep.yield (none, ()))) : Sem (Option Bool × Unit)).run P w = .ok (if a.drop s = b.drop s then none else some false, ()) w := by
    intro m
    induction m with
    | zero =>
      intro s hs
      rw [List.drop_of_length_le (by omega), List.drop_of_length_le (by omega)]
      simp
    | succ m ih =>
      intro s hs
      have hsa : s < a.length := by omega
      have hsb : s < b.length := by omega
      rw [List.range'_succ, List.forIn_cons]
      simp only [Sem.run_bind, hp a s hsa, hp b s hsb, Result.andThen_ok, run_equalIn_int w d e .u8 .u8 _ _ he.und]
      rw [List.drop_eq_getElem_cons hsa, List.drop_eq_getElem_cons hsb]
      by_cases hc : a[s] = b[s]
      · have e1 : ((a[s].toNat : Int) == (b[s].toNat : Int)) = true := by rw [hc]; simp
        rw [e1]
        simp only [Bool.not_true, Bool.false_eq_true, if_false, Sem.run_pure, Result.andThen_ok]
        rw [ih (s + 1) (by omega), hc]
        simp only [List.cons.injEq, true_and]
      · have e1 : ((a[s].toNat : Int) == (b[s].toNat : Int)) = false := by
          simp only [beq_eq_false_iff_ne, ne_eq]
          intro h
          exact hc (UInt8.toNat_inj.1 (by omega))
        rw [e1]
        simp only [Bool.not_false, if_true, Sem.run_pure, Result.andThen_ok]
        rw [if_neg (fun h => hc (List.cons.inj h).1)]
  have hz : [:n].size = n := by simp [Std.Legacy.Range.size]
  rw [hz, key n 0 (by omega)]
  by_cases hab : a = b <;> simp [hab]
end
section
variable {P : Program} {o : Oper} {σ : Env} {w : World} {x y : Operand} {t ty e : TypeId}
/-- Comparing arrays of this type asks no interface. -/
class NoGuard (P : Program) (t : TypeId) : Prop where
  no : P.eqGuardType P.depth t = false
theorem Yl_neqArr {n : Nat} {a b : List UInt8} (ho : o.op = .binOp .neq t x y ty) (hx : ev σ x = some (.agg (bv a).toArray)) (hy : ev σ y = some (.agg (bv b).toArray)) [h : Und P t (.array n e)] [he : Und P e (.int .u8)] [hs : Siz P e 1] [h1 : One P e] [hg : NoGuard P t] (ha : a.length = n) (hb : b.length = n) :
    Yl P o σ w (.bool (decide (¬ a = b))) := ⟨fun N ds f hf => by
  have h2 := run_eqGuard_agg (P := P) (w := w) .neq t x y (bv a).toArray (bv b).toArray hg.no
  have h3 := run_neq_struct (P := P) (w := w) t (bv a).toArray (bv b).toArray
  have h4 := run_equalIn_arr (P := P) (w := w) (t := t) (e := e) 9998 n a b ha hb
  have e1 : (!(decide (a = b))) = decide (¬ a = b) := by by_cases q : a = b <;> simp [q]
  simp only [execOp, ho, hf.eval hx, hf.eval hy, Sem.run_bind, h2, h3, h4, Result.andThen_ok, e1]
  rfl⟩
theorem Yl_eqlArr {n : Nat} {a b : List UInt8} (ho : o.op = .binOp .eql t x y ty) (hx : ev σ x = some (.agg (bv a).toArray)) (hy : ev σ y = some (.agg (bv b).toArray)) [h : Und P t (.array n e)] [he : Und P e (.int .u8)] [hs : Siz P e 1] [h1 : One P e] [hg : NoGuard P t] (ha : a.length = n) (hb : b.length = n) :
    Yl P o σ w (.bool (decide (a = b))) := ⟨fun N ds f hf => by
  have h2 := run_eqGuard_agg (P := P) (w := w) .eql t x y (bv a).toArray (bv b).toArray hg.no
  have h3 := run_eql_struct (P := P) (w := w) t (bv a).toArray (bv b).toArray
  have h4 := run_equalIn_arr (P := P) (w := w) (t := t) (e := e) 9998 n a b ha hb
  simp only [execOp, ho, hf.eval hx, hf.eval hy, Sem.run_bind, h2, h3, h4, Result.andThen_ok]
  rfl⟩
end
end Cr
namespace Cr
open Go Go.Proofs
set_option maxRecDepth 100000
set_option maxHeartbeats 8000000
attribute [local irreducible] Calls

def chainB : List UInt8 := [99, 104, 97, 105, 110]
theorem start_ (rd fs : List Int) (W : World) (hG : Gl W noF rd fs) : Calls Tryz.prog 35 #[] W (Ret fun v w => v = .agg (bv (digest0 rd fs chainB)).toArray ∧ St W noF [] w) := by
  have hS := St.start W
  have hcl : bv chainB = [.int .u8 99, .int .u8 104, .int .u8 97, .int .u8 105, .int .u8 110] := rfl
  refine calls_C Tryz.func35 rfl Tryz.ntmps35 rfl ?_
  repeat (first | (refine G_id ?_; first | refine G_nil ?_ | refine G_plain rfl rfl ?_) | (refine X_id ?_; first | refine X_alloc rfl rfl rfl hS (fun _ _ hS _ => ?_) | refine X_buildSlice rfl rfl rfl rfl rfl rfl rfl rfl hS (fun _ _ hS _ => ?_)) | (refine C_id ?_; first | refine C_seq ?_ | refine C_region ?_) | (refine E_id ?_; first | refine E_code ?_))
  rename_i b0 _ _
  refine X_convSame rfl rfl rfl rfl hS (by simp) (fun w hS => ?_)
  repeat (first | (refine G_id ?_; first | refine G_plain rfl rfl ?_) | (refine X_id ?_; first | refine X_buildSlice rfl rfl rfl rfl rfl rfl rfl rfl hS (fun _ _ hS _ => ?_)))
  rename_i b1 w1 _
  have hB : Bss w1 noF (some ⟨b1, 0, none⟩) [⟨some ⟨b0, 0, none⟩, 5, chainB⟩] := ⟨(show Rd w1 (row (some ⟨b1, 0, none⟩) _) by simpa [Bs.val, chainB] using hS.ownRd (a := some ⟨b1, 0, none⟩)).ro, fun x hx => by
    rw [List.mem_singleton] at hx
    subst hx
    exact (hS.rd (r := bytes (some ⟨b0, 0, none⟩) chainB) (by simp [bytes, ← hcl])).ro⟩
  have hl32 : LenO (bv (digest0 rd fs (joined [⟨some ⟨b0, 0, none⟩, 5, chainB⟩]))) 32 := ⟨by rw [bv_length]; exact digest0_length _ _ _⟩
  refine X_callq _ rfl rfl rfl rfl rfl hS (dof_ _ 1 _ rd fs _ (by simp [joined, chainB]) (by simp) (hG.mono fun r hr => (hr.rd hS).ro) hB) ?_
  rintro _ w rfl hS
  clear hB
  repeat (first | (refine G_id ?_; first | refine G_nil ?_ | refine G_plain rfl rfl ?_) | (refine X_id ?_; first | refine X_store rfl rfl rfl rfl hS (fun _ hS _ => ?_)) | (refine C_id ?_; first | refine C_ret ?_) | (refine E_id ?_; first | refine E_code ?_ | refine E_ret1 rfl (by first | exact Rv_tmp rfl | exact Rv_cell rfl (run_load1 hS.cell) | exact Rv_cell rfl (run_loadN hS.cellsN)) (Ret.mk ?_)))
  exact ⟨by rw [show joined [⟨some ⟨b0, 0, none⟩, 5, chainB⟩] = chainB by simp [joined]], hS.drops⟩
theorem tabof_nilA (s : Value) (W : World) : Calls Tryz.prog 66 #[.pointer none, s] W (Ret fun v w => v = .tuple #[.pointer none, .int .i64 16] ∧ W = w) := by
  refine calls_C Tryz.func66 rfl Tryz.ntmps66 rfl ?_
  repeat (first | (refine G_id ?_; first | refine G_nil ?_ | refine G_plain rfl rfl ?_) | (refine X_id ?_; first | refine X_yl (Yl_move rfl rfl) rfl rfl ?_ | refine X_yl (Yl_assign rfl rfl) rfl rfl ?_ | refine X_yl (Yl_eqlNil_none rfl rfl rfl) rfl rfl ?_) | (refine C_id ?_; first | refine C_seq ?_ | refine C_region ?_ | refine C_block ?_ | refine C_ret ?_ | refine C_cond_t rfl ?_) | (refine E_id ?_; first | refine E_code ?_ | refine E_then_ret ?_ | refine E_blk_ret ?_ | refine E_ret2 rfl (Rv_tmp rfl) (Rv_tmp rfl) (Ret.mk ?_)))
  exact ⟨rfl, rfl⟩
theorem auof_nil (W : World) : Calls Tryz.prog 26 #[.pointer none] W (Ret fun v w => v = .tuple #[.pointer none, .int .i64 16] ∧ W = w) := by
  refine calls_C Tryz.func26 rfl Tryz.ntmps26 rfl ?_
  repeat (first | (refine G_id ?_; first | refine G_nil ?_ | refine G_plain rfl rfl ?_) | (refine X_id ?_; first | (refine X_callg 66 rfl rfl rfl rfl rfl (tabof_nilA _ _) ?_; rintro _ _ ⟨rfl, rfl⟩) | refine X_yl (Yl_move rfl rfl) rfl rfl ?_ | refine X_yl (Yl_assign rfl rfl) rfl rfl ?_ | refine X_yl (Yl_extract rfl rfl) rfl rfl ?_ | refine X_yl (Yl_neq_t rfl rfl rfl (by omega)) rfl rfl ?_) | (refine C_id ?_; first | refine C_seq ?_ | refine C_region ?_ | refine C_ret ?_ | refine C_cond_t rfl ?_) | (refine E_id ?_; first | refine E_code ?_ | refine E_then_ret ?_ | refine E_ret2 rfl (Rv_tmp rfl) (Rv_tmp rfl) (Ret.mk ?_)))
  exact ⟨rfl, rfl⟩
theorem auverify_nil (W : World) : Calls Tryz.prog 29 #[.pointer none] W (Ret fun v w => v = .tuple #[.int .i64 0, .int .i64 16] ∧ W = w) := by
  refine calls_C Tryz.func29 rfl Tryz.ntmps29 rfl ?_
  repeat (first | (refine G_id ?_; first | refine G_nil ?_ | refine G_plain rfl rfl ?_) | (refine X_id ?_; first | (refine X_callg 66 rfl rfl rfl rfl rfl (tabof_nilA _ _) ?_; rintro _ _ ⟨rfl, rfl⟩) | refine X_yl (Yl_move rfl rfl) rfl rfl ?_ | refine X_yl (Yl_assign rfl rfl) rfl rfl ?_ | refine X_yl (Yl_extract rfl rfl) rfl rfl ?_ | refine X_yl (Yl_neq_t rfl rfl rfl (by omega)) rfl rfl ?_) | (refine C_id ?_; first | refine C_seq ?_ | refine C_region ?_ | refine C_ret ?_ | refine C_cond_t rfl ?_) | (refine E_id ?_; first | refine E_code ?_ | refine E_then_ret ?_ | refine E_ret2 rfl (Rv_tmp rfl) (Rv_tmp rfl) (Ret.mk ?_)))
  exact ⟨rfl, rfl⟩
theorem aunote_nil (a : Option Addr) (n c : Nat) (W : World) : Calls Tryz.prog 27 #[.pointer none, .slice a n c] W (Ret fun v w => v = .tuple #[.int .i64 0, .int .i64 16] ∧ W = w) := by
  refine calls_C Tryz.func27 rfl Tryz.ntmps27 rfl ?_
  repeat (first | (refine G_id ?_; first | refine G_nil ?_ | refine G_plain rfl rfl ?_) | (refine X_id ?_; first | refine X_yl (Yl_move rfl rfl) rfl rfl ?_ | refine X_yl (Yl_assign rfl rfl) rfl rfl ?_ | refine X_yl (Yl_eqlNil_none rfl rfl rfl) rfl rfl ?_) | (refine C_id ?_; first | refine C_seq ?_ | refine C_region ?_ | refine C_ret ?_ | refine C_cond_t rfl ?_) | (refine E_id ?_; first | refine E_code ?_ | refine E_then_ret ?_ | refine E_ret2 rfl (Rv_tmp rfl) (Rv_tmp rfl) (Ret.mk ?_)))
  exact ⟨rfl, rfl⟩
theorem auall_nil (W : World) : Calls Tryz.prog 31 #[.pointer none] W (Ret fun v w => v = .slice none 0 0 ∧ W = w) := by
  refine calls_C Tryz.func31 rfl Tryz.ntmps31 rfl ?_
  repeat (first | (refine G_id ?_; first | refine G_nil ?_ | refine G_plain rfl rfl ?_) | (refine X_id ?_; first | refine X_yl (Yl_move rfl rfl) rfl rfl ?_ | refine X_yl (Yl_assign rfl rfl) rfl rfl ?_ | refine X_yl (Yl_eqlNil_none rfl rfl rfl) rfl rfl ?_) | (refine C_id ?_; first | refine C_seq ?_ | refine C_region ?_ | refine C_ret ?_ | refine C_cond_t rfl ?_) | (refine E_id ?_; first | refine E_code ?_ | refine E_then_ret ?_ | refine E_ret1 rfl (Rv_tmp rfl) (Ret.mk ?_)))
  exact ⟨rfl, rfl⟩
theorem aulen_nil (W : World) : Calls Tryz.prog 33 #[.pointer none] W (Ret fun v w => v = .int .i64 0 ∧ W = w) := by
  refine calls_C Tryz.func33 rfl Tryz.ntmps33 rfl ?_
  repeat (first | (refine G_id ?_; first | refine G_nil ?_ | refine G_plain rfl rfl ?_) | (refine X_id ?_; first | refine X_yl (Yl_move rfl rfl) rfl rfl ?_ | refine X_yl (Yl_assign rfl rfl) rfl rfl ?_ | refine X_yl (Yl_eqlNil_none rfl rfl rfl) rfl rfl ?_) | (refine C_id ?_; first | refine C_seq ?_ | refine C_region ?_ | refine C_ret ?_ | refine C_cond_t rfl ?_) | (refine E_id ?_; first | refine E_code ?_ | refine E_then_ret ?_ | refine E_ret1 rfl (Rv_tmp rfl) (Ret.mk ?_)))
  exact ⟨rfl, rfl⟩
theorem auask_nil (r : Rec) (W : World) : Calls Tryz.prog 32 #[.pointer none, .agg r.cells.toArray] W (Ret fun v w => v = .slice none 0 0 ∧ St W noF [] w) := by
  have hS := St.start W
  refine calls_C Tryz.func32 rfl Tryz.ntmps32 rfl ?_
  repeat (first | (refine G_id ?_; first | refine G_nil ?_ | refine G_plain rfl rfl ?_) | (refine X_id ?_; first | (refine X_callg 31 rfl rfl rfl rfl rfl (auall_nil _) ?_; rintro _ _ ⟨rfl, rfl⟩) | refine X_yl (Yl_move rfl rfl) rfl rfl ?_ | refine X_yl (Yl_assign rfl rfl) rfl rfl ?_ | refine X_yl (Yl_len rfl rfl) rfl rfl ?_ | refine X_box rfl rfl rfl rfl hS (fun _ _ hS _ => ?_)) | (refine C_id ?_; first | refine C_seq ?_ | refine C_label ?_ | refine C_scope rfl ?_ | refine C_region ?_ | refine C_block ?_) | (refine E_id ?_; first | refine E_code ?_))
  refine C_loop (α := Unit) (fun _ => [(5, .slice none 0 0), (10, .int .i64 (0 : Nat)), (11, .int .i64 (0 : Nat))]) (fun _ w => St W noF [] w) (fun _ => 0) () ⟨rfl, rfl, rfl, trivial⟩ (hS.drops) ?_
  clear hS
  rintro _ w hS
  repeat (first | (refine G_id ?_; first | refine G_nil ?_ | refine G_plain rfl rfl ?_) | (refine X_id ?_; first | refine X_yl (Yl_move rfl rfl) rfl rfl ?_ | refine X_yl (Yl_assign rfl rfl) rfl rfl ?_ | refine X_yl (Yl_lss_f rfl rfl rfl (by omega)) rfl rfl ?_) | (refine C_id ?_; first | refine C_seq ?_ | refine C_region ?_ | refine C_ret ?_ | refine C_exit ?_ | refine C_cond_f rfl ?_) | (refine E_id ?_; first | refine E_code ?_ | refine E_noGoto (fun _ h => by cases h) ?_ | refine E_then_exit ?_ | refine E_blk_same ?_ | refine E_ret1 rfl (Rv_tmp rfl) (Ret.mk ?_)))
  exact ⟨rfl, hS⟩
theorem auhead_nil (rd fs : List Int) (W : World) (hG : Gl W noF rd fs) : Calls Tryz.prog 34 #[.pointer none] W (Ret fun v w => v = .agg (bv (digest0 rd fs chainB)).toArray ∧ St W noF [] w) := by
  have hS := St.start W
  have hl32 : LenO (bv (digest0 rd fs chainB)) 32 := ⟨by rw [bv_length]; exact digest0_length _ _ _⟩
  refine calls_C Tryz.func34 rfl Tryz.ntmps34 rfl ?_
  repeat (first | (refine G_id ?_; first | refine G_nil ?_ | refine G_plain rfl rfl ?_) | (refine X_id ?_; first | (refine X_callq 35 rfl rfl rfl rfl rfl hS (start_ rd fs _ (hG.mono fun r hr => (hr.rd hS).ro)) ?_; rintro _ _ rfl hS) | refine X_yl (Yl_move rfl rfl) rfl rfl ?_ | refine X_yl (Yl_eqlNil_none rfl rfl rfl) rfl rfl ?_ | refine X_store rfl rfl rfl rfl hS (fun _ hS _ => ?_) | refine X_alloc rfl rfl rfl hS (fun _ _ hS _ => ?_)) | (refine C_id ?_; first | refine C_seq ?_ | refine C_region ?_ | refine C_ret ?_ | refine C_cond_t rfl ?_) | (refine E_id ?_; first | refine E_code ?_ | refine E_then_ret ?_ | refine E_ret1 rfl (by first | exact Rv_tmp rfl | exact Rv_cell rfl (run_load1 hS.cell) | exact Rv_cell rfl (run_loadN hS.cellsN)) (Ret.mk ?_)))
  exact ⟨rfl, hS.drops⟩
instance : NoGuard Tryz.prog 93 := ⟨by kernel_rfl⟩
theorem auditNil_ (r : Rec) (rd fs : List Int) (W : World) (hG : Gl W noF rd fs) (hL : Lg W noF) (hT : Sp W noF) :
    Calls Tryz.prog 5 #[.agg r.cells.toArray] W (Ret fun v w => v = .bool true ∧ St W noF [] w) := by
  have hS := St.start W
  have hTo := fun W => to27_ r W
  have hK := fun W h g => known27_ W h g
  have hA := fun W => auask_nil r.cut W
  have hd := digest0_length rd fs chainB
  refine calls_C Tryz.func5 rfl Tryz.ntmps5 rfl ?_
  repeat (first | (refine G_id ?_; first | refine G_nil ?_ | refine G_plain rfl rfl ?_) | (refine X_id ?_; first | (refine X_callq 28 rfl rfl rfl rfl rfl hS (hTo _) ?_; rintro _ _ rfl hS) | (refine X_callg 26 rfl rfl rfl rfl rfl (auof_nil _) ?_; rintro _ _ ⟨rfl, rfl⟩) | (refine X_callg 27 rfl rfl rfl rfl rfl (aunote_nil _ _ _ _) ?_; rintro _ _ ⟨rfl, rfl⟩) | (refine X_callg 29 rfl rfl rfl rfl rfl (auverify_nil _) ?_; rintro _ _ ⟨rfl, rfl⟩) | refine X_yl (Yl_move rfl rfl) rfl rfl ?_ | refine X_yl (Yl_assign rfl rfl) rfl rfl ?_ | refine X_yl (Yl_extract rfl rfl) rfl rfl ?_ | refine X_yl (Yl_loadN rfl rfl hS.cellsN) rfl rfl ?_ | refine X_box rfl rfl rfl rfl hS (fun _ _ hS _ => ?_) | refine X_buildSlice rfl rfl rfl rfl rfl rfl rfl rfl hS (fun _ _ hS _ => ?_)) | (refine C_id ?_; first | refine C_seq ?_ | refine C_region ?_) | (refine E_id ?_; first | refine E_code ?_))
  repeat (first | (refine G_id ?_; first | refine G_plain rfl rfl ?_ | refine G_yes rfl rfl rfl rfl ?_) | (refine X_id ?_; first | (refine X_callq 30 rfl rfl rfl rfl rfl hS (hK _ (hL.at_ hS) (hT.at_ hS)) ?_; rintro _ _ rfl hS) | (refine X_callq 28 rfl rfl rfl rfl rfl hS (hTo _) ?_; rintro _ _ rfl hS) | (refine X_callq 32 rfl rfl rfl rfl rfl hS (hA _) ?_; rintro _ _ rfl hS) | (refine X_callq 34 rfl rfl rfl rfl rfl hS (auhead_nil rd fs _ (hG.mono fun r hr => (hr.rd hS).ro)) ?_; rintro _ _ rfl hS) | (refine X_callq 35 rfl rfl rfl rfl rfl hS (start_ rd fs _ (hG.mono fun r hr => (hr.rd hS).ro)) ?_; rintro _ _ rfl hS) | (refine X_callg 31 rfl rfl rfl rfl rfl (auall_nil _) ?_; rintro _ _ ⟨rfl, rfl⟩) | (refine X_callg 33 rfl rfl rfl rfl rfl (aulen_nil _) ?_; rintro _ _ ⟨rfl, rfl⟩) | refine X_yl (Yl_move rfl rfl) rfl rfl ?_ | refine X_yl (Yl_pick_t rfl rfl rfl) rfl rfl ?_ | refine X_yl (Yl_len rfl rfl) rfl rfl ?_ | refine X_yl (Yl_eql_t rfl rfl rfl (by omega)) rfl rfl ?_ | refine X_yl (Yl_loadN rfl rfl hS.cellsN) rfl rfl ?_))
  refine X_yl (Yl_eqlArr rfl rfl rfl hd hd) rfl rfl ?_
  rw [decide_eq_true rfl]
  repeat (first | (refine G_id ?_; first | refine G_nil ?_ | refine G_plain rfl rfl ?_) | (refine X_id ?_; first | refine X_yl (Yl_assign rfl rfl) rfl rfl ?_ | refine X_yl (Yl_pick_t rfl rfl rfl) rfl rfl ?_) | (refine C_id ?_; first | refine C_ret ?_) | (refine E_id ?_; first | refine E_code ?_ | refine E_ret1 rfl (Rv_tmp rfl) (Ret.mk ?_)))
  exact ⟨rfl, hS.drops⟩
end Cr
namespace Cr
open Go Go.Proofs Go.ChangeShapes Go.WideShapes Go.Deep
section
variable {H : Type} {enc : TypeId × Value → H} {P : Program} {w : World} {base : Nat} {sp : Nat → Bool} {held : Bool}
theorem Rd.ofCellsA {a : Addr} {l : List Value} (h : ∀ i v, l[i]? = some v → w.cell? (a.add i) = some v) : Rd w (row (some a) l) := by
  cases l with
  | nil => exact Rd_nil w _
  | cons x r =>
    have h0 := h 0 x rfl
    have hsp : a.spot = none := by
      have := World.cell?_spot h0
      simpa [Addr.add] using this
    obtain ⟨b, off, spot⟩ := a
    obtain rfl : spot = none := hsp
    unfold World.cell? at h0
    split at h0
    · rename_i c t fz hb
      have hb : w.heap[b]? = some (.cells c t fz) := by simpa [Addr.add] using hb
      refine ⟨single b (.cells c t fz), .inr ⟨b, off, c, t, fz, rfl, rfl, fun i v hv => ?_⟩, fun k o e => ?_⟩
      · have := h i v hv
        have e : (⟨b, off, none⟩ : Addr).add i = ⟨b, off + i, none⟩ := by
          unfold Addr.add; split
          · rename_i h; subst h; rfl
          · rfl
        rw [e, cell_of_row w b (off + i) c t fz hb] at this
        exact this
      · obtain ⟨rfl, rfl⟩ := of_single e
        exact hb
    · cases h0
theorem u8_back {n : Int} (h : (Lit.int .u8 n).wf = true) : Value.int .u8 n = .int .u8 ((UInt8.ofNat n.toNat).toNat : Int) := by
  simp only [Lit.wf, Bool.and_eq_true, decide_eq_true_eq] at h
  have h1 : 0 ≤ n := h.1
  have h2 : n ≤ 255 := h.2
  congr 1
  have : (UInt8.ofNat n.toNat).toNat = n.toNat := by rw [UInt8.toNat_ofNat']; omega
  rw [this]; omega
/-- A slice of bytes. -/
theorem open_bytes {t e : TypeId} {fuel : Nat} {cs : List Value} {x : DataW H × List MemPlace} (ht : P.underlying t = some (.slice e)) (he : P.underlying e = some (.int .u8)) (hc : P.cellsOf e = 1)
    (h : DataW.trod enc P w base sp held fuel t cs = some x) : ∃ a s c, cs = [.slice a s.length c] ∧ s.length ≤ c ∧ c ≤ maxLen ∧ Rd w (bytes a s) := by
  rcases open_ints ht he hc h with ⟨rfl, _⟩ | ⟨a, len, cap, zs, rfl, _, hl, hm, hz, _, hcell, hwf⟩
  · exact ⟨none, [], 0, rfl, Nat.le_refl _, Nat.zero_le _, Rd_nil w _⟩
  · have hlz : len ≤ zs.length := by rw [hz]; split <;> omega
    have e1 : bv ((zs.take len).map fun n => UInt8.ofNat n.toNat) = (zs.take len).map fun n => Value.int .u8 n := by
      unfold bv
      rw [List.map_map]
      refine List.map_congr_left fun n hn => ?_
      exact (u8_back (hwf n (List.mem_of_mem_take hn))).symm
    have e2 : ((zs.take len).map fun n => UInt8.ofNat n.toNat).length = len := by simp; omega
    refine ⟨some a, (zs.take len).map fun n => UInt8.ofNat n.toNat, cap, by rw [e2], by rw [e2]; exact hl, hm, ?_⟩
    unfold bytes
    rw [e1]
    refine Rd.ofCellsA fun i v hv => ?_
    rw [List.getElem?_map, List.getElem?_take] at hv
    split at hv
    · rename_i hi
      rw [hcell i (by omega)]
      have h3 : zs[i]? = some zs[i] := List.getElem?_eq_getElem (by omega)
      rw [h3] at hv
      rw [List.getD_eq_getElem?_getD, h3]
      exact hv
    · cases hv
end
end Cr
namespace Cr
open Go Go.Proofs Go.ChangeShapes Go.WideShapes
set_option maxRecDepth 100000
section
variable {H : Type} {enc : TypeId × Value → H} {w : World} {base : Nat} {sp : Nat → Bool} {held : Bool}
theorem len5 {cs : List Value} (h : cs.length = 5) : ∃ a0 a1 a2 a3 a4, cs = [a0, a1, a2, a3, a4] := by
  match cs, h with
  | [a0, a1, a2, a3, a4], _ => exact ⟨_, _, _, _, _, rfl⟩
theorem one_str7 {n : Nat} {v : Value} {y : DataW H × List MemPlace} (h : DataW.trod enc Tryz.prog w base sp held n 9 [v] = some y) : ∃ s, v = .string (str s) := by
  obtain ⟨s, hs, _⟩ := DataW.trod_string Tryz.underlying9 h
  obtain ⟨l, rfl⟩ := str_of s
  exact ⟨l, by simpa using hs⟩
theorem one_int7 {n : Nat} {v : Value} {y : DataW H × List MemPlace} (h : DataW.trod enc Tryz.prog w base sp held n 3 [v] = some y) : ∃ k : Int, v = .int .i64 k ∧ -9223372036854775808 ≤ k ∧ k ≤ 9223372036854775807 := by
  obtain ⟨k, hk, _, hw⟩ := DataW.trod_int Tryz.underlying3 h
  simp only [Lit.wf, Bool.and_eq_true, decide_eq_true_eq] at hw
  exact ⟨k, by simpa using hk, hw.1, hw.2⟩
theorem cells_str7 : Tryz.prog.cellsOf 9 = 1 := by kernel_rfl
theorem cells_int7 : Tryz.prog.cellsOf 3 = 1 := by kernel_rfl
theorem cells_rr : Tryz.prog.cellsOf 80 = 5 := by kernel_rfl
theorem open_rec {fuel : Nat} {cs : List Value} {x : DataW H × List MemPlace} (h : DataW.trod enc Tryz.prog w base sp held fuel 80 cs = some x) :
    ∃ r : Rec, cs = r.cells ∧ (-9223372036854775808 ≤ r.rev ∧ r.rev ≤ 9223372036854775807) ∧ -9223372036854775808 ≤ r.out ∧ r.out ≤ 9223372036854775807 := by
  obtain ⟨xs, n, _, _, hl, hxl, hf⟩ := DataW.trod_struct Tryz.underlying80 h
  rw [cells_rr] at hl
  have hxl : xs.length = 5 := hxl
  obtain ⟨a0, a1, a2, a3, a4, rfl⟩ := len5 hl
  have f0 : DataW.trod enc Tryz.prog w base sp held n 9 [a0] = xs[0]? := by
    have h : DataW.trod enc Tryz.prog w base sp held n 9 ((List.drop 0 [a0, a1, a2, a3, a4]).take (Tryz.prog.cellsOf 9)) = xs[0]? := by
      have h0 := hf 0 _ rfl
      exact h0
    rw [cells_str7] at h
    exact h
  have f1 : DataW.trod enc Tryz.prog w base sp held n 9 [a1] = xs[1]? := by
    have h : DataW.trod enc Tryz.prog w base sp held n 9 ((List.drop 1 [a0, a1, a2, a3, a4]).take (Tryz.prog.cellsOf 9)) = xs[1]? := by
      have h0 := hf 1 _ rfl
      exact h0
    rw [cells_str7] at h
    exact h
  have f2 : DataW.trod enc Tryz.prog w base sp held n 9 [a2] = xs[2]? := by
    have h : DataW.trod enc Tryz.prog w base sp held n 9 ((List.drop 2 [a0, a1, a2, a3, a4]).take (Tryz.prog.cellsOf 9)) = xs[2]? := by
      have h0 := hf 2 _ rfl
      exact h0
    rw [cells_str7] at h
    exact h
  have f3 : DataW.trod enc Tryz.prog w base sp held n 3 [a3] = xs[3]? := by
    have h : DataW.trod enc Tryz.prog w base sp held n 3 ((List.drop 3 [a0, a1, a2, a3, a4]).take (Tryz.prog.cellsOf 3)) = xs[3]? := by
      have h0 := hf 3 _ rfl
      exact h0
    rw [cells_int7] at h
    exact h
  have f4 : DataW.trod enc Tryz.prog w base sp held n 3 [a4] = xs[4]? := by
    have h : DataW.trod enc Tryz.prog w base sp held n 3 ((List.drop 4 [a0, a1, a2, a3, a4]).take (Tryz.prog.cellsOf 3)) = xs[4]? := by
      have h0 := hf 4 _ rfl
      exact h0
    rw [cells_int7] at h
    exact h
  rw [List.getElem?_eq_getElem (by omega)] at f0 f1 f2 f3 f4
  obtain ⟨s0, rfl⟩ := one_str7 f0
  obtain ⟨s1, rfl⟩ := one_str7 f1
  obtain ⟨s2, rfl⟩ := one_str7 f2
  obtain ⟨n0, rfl, h1⟩ := one_int7 f3
  obtain ⟨n1, rfl, h2⟩ := one_int7 f4
  exact ⟨⟨s0, s1, s2, n0, n1⟩, rfl, h1, h2⟩
end
end Cr
namespace Go.Proofs.YtflbhldcnjmkkaaGreatDoor
open Go.ChangeShapes Go.WideShapes Go.ChangeAt Go.RowKit
set_option maxRecDepth 100000
set_option maxHeartbeats 64000000
theorem auditNil_facts : joinedFacts Tryz.pinned.checked.prog 5 Tryz.f5 (OpenSpec.ofChange Rows.auditNilSpec).bare Rows.auditNilRow = true := by
  unfold joinedFacts
  repeat' (with_reducible refine Bool.and_eq_true_iff.2 ⟨?_, ?_⟩)
  all_goals (as_aux_lemma => kernel_rfl)
theorem auditNil_inst : Tryz.f5.isInstance Tryz.pinned.checked.prog Rows.auditNilRow.origin Rows.auditNilRow.targs := of_decide_eq_true (by kernel_rfl)
theorem auditNil_wrap : Tryz.f5.isWrapper Tryz.pinned.checked.prog Rows.auditNilRow.wrapper Rows.auditNilRow.mainSum := by
  unfold Func.isWrapper; first | (rw [if_pos (by decide +kernel)]; kernel_rfl) | (rw [if_neg (by decide +kernel)]; exact ⟨rfl, rfl⟩)
end Go.Proofs.YtflbhldcnjmkkaaGreatDoor
namespace Go.Proofs.YtflbhldcnjmkkaaGreatDoor
open Go.ChangeShapes Go.WideShapes Go.ChangeAt Go.RowKit
set_option maxRecDepth 100000

abbrev zRec7 : Value := .agg #[.string (Cr.str []), .string (Cr.str []), .string (Cr.str []), .int .i64 0, .int .i64 0]
theorem gl_of_laidA {W : World} (h : laidMetH Tryz.prog Rows.auditNilRow.laid W) : Cr.Gl W Cr.noF Cr.roundL Cr.firstL := by
  have h1 : Lib.TabIs Tryz.prog W "creel/digest.round" .u32 Cr.roundL := Lib.tabIs_of_head (g := 3) (t := 439) (e := 201) (n := 64) (rest := [_, _, _, _, _, _, _, _]) (by kernel_rfl) (by kernel_rfl) Tryz.underlying439 Tryz.underlying201 (by kernel_rfl) (by kernel_rfl) h
  have h2 : Lib.TabIs Tryz.prog W "creel/digest.first" .u32 Cr.firstL := Lib.tabIs_of_head (g := 1) (t := 280) (e := 201) (n := 8) (rest := [_, _, _, _, _, _, _]) (by kernel_rfl) (by kernel_rfl) Tryz.underlying280 Tryz.underlying201 (by kernel_rfl) (by kernel_rfl) (laidMet.tail h)
  refine ⟨(Cr.Rd.ofCells (fun i v hv => ?_) (by simp [Cr.ints, Cr.roundL])).ro, (Cr.Rd.ofCells (fun i v hv => ?_) (by simp [Cr.ints, Cr.firstL])).ro, rfl, rfl⟩
  · have hi : i < Cr.roundL.length := by
      rcases Nat.lt_or_ge i Cr.roundL.length with h | h
      · exact h
      · rw [List.getElem?_eq_none (by rw [Cr.ints_length]; omega)] at hv; cases hv
    rw [Cr.ints_get hi] at hv
    rw [← Option.some.inj hv]
    exact h1.cell (by kernel_rfl) i hi
  · have hi : i < Cr.firstL.length := by
      rcases Nat.lt_or_ge i Cr.firstL.length with h | h
      · exact h
      · rw [List.getElem?_eq_none (by rw [Cr.ints_length]; omega)] at hv; cases hv
    rw [Cr.ints_get hi] at hv
    rw [← Option.some.inj hv]
    exact h2.cell (by kernel_rfl) i hi
theorem lg_of_laidA {W : World} (h : laidMetH Tryz.prog Rows.auditNilRow.laid W) : Cr.Lg W Cr.noF := by
  have h2 := laidMet.tail (laidMet.tail (laidMet.tail (laidMet.tail h)))
  have h1 : Lib.TabIs Tryz.prog W "internal/strconv.uint64pow10" .u64 Lib.pow10Tab := Lib.tabIs_of_head (g := 5) (t := 485) (e := 292) (n := 20) (rest := [_, _, _, _]) (by kernel_rfl) (by kernel_rfl) Tryz.underlying485 Tryz.underlying292 (by kernel_rfl) (by kernel_rfl) h2
  obtain ⟨a0, s0, hv, _, _, _⟩ := laid_sentinel (g := 7) (laidMet.tail h2) (by kernel_rfl) (show (Tryz.prog.globals[7]?).map (·.type) = some 401 by kernel_rfl) Tryz.underlying401 errRow Tryz.underlying498 Tryz.underlying500 rfl rfl Tryz.underlying9 (by kernel_rfl) (by kernel_rfl)
  refine ⟨?_, 498, .pointer (some a0), ?_⟩
  · have := Cr.glob_of_var (P := Tryz.prog) (n := "internal/strconv.uint64pow10") (g := 5) (by kernel_rfl) h1
    simpa using this.ro
  · have := Cr.glob_of_var (P := Tryz.prog) (n := "strconv.ErrRange") (g := 7) (by kernel_rfl) hv
    simpa using this.ro
theorem sp_of_laidA {W : World} (h : laidMetH Tryz.prog Rows.auditNilRow.laid W) : Cr.Sp W Cr.noF := by
  have h2 := laidMet.tail (laidMet.tail (laidMet.tail (laidMet.tail (laidMet.tail (laidMet.tail (laidMet.tail (laidMet.tail h)))))))
  have h1 : Lib.TabIs Tryz.prog W "strings.asciiSpace" .u8 Lib.asciiSpaceTab := Lib.tabIs_of_head (g := 0) (t := 392) (e := 5) (n := 256) (rest := []) (by kernel_rfl) (by kernel_rfl) Tryz.underlying392 Tryz.underlying5 (by kernel_rfl) (by kernel_rfl) h2
  have := Cr.glob_of_var (P := Tryz.prog) (n := "strings.asciiSpace") (g := 0) (by kernel_rfl) h1
  have e : (Array.map (fun z => Value.int .u8 z) Lib.asciiSpaceTab.toArray).toList = Lib.asciiSpaceTab.map fun z => Value.int .u8 z := by simp
  unfold Cr.Sp
  simpa using this.ro
theorem auditNil_contract (H : Type) (enc : TypeId × Value → H) (W : World) (base : Nat) (args : Array Value) (ds gs : List (DataW H)) (before : List MemPlace)
    (hval : ∀ (j : Nat) t v, Tryz.f5.params[j]? = some t → args[j]? = some v → Value.okWide Tryz.prog W .any base t v)
    (hW : DataW.Whole enc Tryz.prog Tryz.f5.params.toList Rows.auditNilSpec.vars false W args.toList ds gs before) (hL : laidMetH Tryz.prog Rows.auditNilRow.laid W) :
    Calls Tryz.prog 5 args W fun e W' => ∃ v, e = .returned v ∧ Rows.auditNilSpec.post enc Tryz.prog Tryz.f5 false true false false W args v W' := by
  have hW' := hW
  obtain ⟨p, q, hA0, hV, rfl, hfz, hnd⟩ := hW
  have hA : DataW.TrodAll enc Tryz.prog W 0 (fun _ => true) true Tryz.f5.params.toList args.toList ds p := hA0
  rw [Tryz.params5] at hA hval
  obtain ⟨rfl, rfl⟩ := trodVars_none hV
  have hAk := hA
  obtain ⟨v0, vs0, d0, ds0, p0, q0, hargs, rfl, rfl, h0, r0⟩ := trodAll_cons hA
  obtain ⟨rfl, rfl, rfl⟩ := trodAll_nil r0
  obtain rfl : args = #[v0] := by cases args; simp_all
  obtain ⟨cs, rfl, _⟩ := okWide_struct Tryz.underlying80 (hval 0 80 v0 rfl rfl)
  obtain ⟨fuel, hf⟩ := h0
  obtain ⟨r, e, _, _⟩ := Cr.open_rec hf
  have e : cs.toList = r.cells := e
  obtain rfl : cs = r.cells.toArray := by rw [← e]
  clear hA0
  simp only [List.append_nil] at hW' hAk
  refine (Cr.auditNil_ r _ _ W (gl_of_laidA hL) (lg_of_laidA hL) (sp_of_laidA hL)).mono fun e W' ⟨v, he, hv, hS⟩ => ?_
  subst he hv
  have hb := hS.toBelow
  exact ⟨_, rfl, post_of_law (pa := p0) (pv := []) hW' (fun _ _ _ => trodAll_cons_mk (shut_bool Tryz.underlying4 _) trodAll_mk0)
    (fun sp hsp => trodAll_stays lawLaid hb (fun t ht => by
      have ht : t ∈ [80] := ht
      simp only [List.mem_cons, List.not_mem_nil, or_false] at ht
      rcases ht with rfl
      exact ⟨by kernel_rfl, of_decide_eq_true (by kernel_rfl)⟩) hAk hW'.lt hsp) (fun _ _ => rfl) (by simp)
    (hb.frame _) (fun _ h => hb.frozen h) (ok_one (by kernel_rfl) rfl (okWide_bool_mk Tryz.underlying4 _))⟩
theorem auditNil_laid (os : Os) : laidMet Tryz.prog Rows.auditNilRow.laid ((lawWorldE os).forCall (fun _ _ => 0) ⟨#[], #[zRec7], []⟩).memory :=
  laidMet_of_run' 8 (by kernel_rfl) (by kernel_rfl)
theorem auditNil_reads (os : Os) {H : Type} (enc : TypeId × Value → H) : ∃ places, DataW.whole enc Tryz.prog ((lawWorldE os).forCall (fun _ _ => 0) ⟨#[], #[zRec7], []⟩).memory Tryz.f5.params.toList Rows.auditNilSpec.vars false #[zRec7].toList 8 = some ([.agg [.lit (.string []), .lit (.string []), .lit (.string []), .lit (.int .i64 0), .lit (.int .i64 0)]], [], places) :=
  ⟨[], by kernel_rfl⟩
theorem auditNil_lifted (os : Os) (started : os.Started) (H : Type) (enc : TypeId × Value → H) (F : Stop.Interp) :
    ReturnsInHanded {} Tryz.checked os 5 .any ((OpenSpec.ofChange Rows.auditNilSpec).preRow enc Tryz.prog Tryz.f5 Rows.auditNilRow.domain false Rows.auditNilRow.laid) (((OpenSpec.ofChange Rows.auditNilSpec).at F).post enc Tryz.prog Tryz.f5 false true false false) := by
  obtain ⟨places, hx⟩ := auditNil_reads os enc
  refine returnsInHanded_of_row (C := Tryz.checked) (s := OpenSpec.ofChange Rows.auditNilSpec) lawOwn started (by kernel_rfl) Tryz.func5
    (witness_row_atRef (enc := enc) (C := Tryz.checked) false (lawWorldE os) #[zRec7] rfl (by kernel_rfl) (by kernel_rfl) (by kernel_rfl)
      (OpenSpec.preRow_of_cond 8 hx (by kernel_rfl) (fun k hk => by cases hk) (by kernel_rfl) (auditNil_laid os))) ?_
  intro W base args ds gs before hval hW _ _ _ hL _ _
  exact auditNil_contract H enc W base args ds gs before hval hW hL
theorem auditNil_said : Rows.AuditNilSaid :=
  OpenClaim.holds_of_cond 5 Tryz.f5 rfl rfl rfl rfl rfl rfl rfl ⟨rfl, rfl, rfl, rfl, rfl⟩ rfl rfl rfl rfl rfl (by kernel_rfl) Tryz.func5 auditNil_facts
    auditNil_inst auditNil_wrap
    (fun os started H enc _ F => by rw [OpenClaim.pre_eq_preRow]; exact auditNil_lifted os started H enc F)
theorem auditNil_plain (f : FuncId) (fn : Func) (hf : Tryz.pinned.checked.prog.funcNamed Rows.auditNilRow.func = some f) (hfn : Tryz.pinned.checked.prog.funcs[f]? = some fn) :
    true = Tryz.pinned.checked.prog.looks [] ∧ ∀ (j : Nat) t, fn.params[j]? = some t → Tryz.pinned.checked.prog.wantsStandIn t = false := by
  obtain rfl : f = 5 := Option.some.inj ((show Tryz.prog.funcNamed Rows.auditNilRow.func = some 5 by kernel_rfl).symm.trans hf) |>.symm
  obtain rfl : fn = Tryz.f5 := (Option.some.inj (Tryz.func5.symm.trans hfn)).symm
  refine ⟨by kernel_rfl, fun j t ht => ?_⟩
  rw [Tryz.params5] at ht
  have ht : t = 80 := by simpa using Array.mem_of_getElem? ht
  rcases ht with rfl
  exact (show Tryz.prog.wantsStandIn 80 = false by kernel_rfl)
theorem auditNil_card : Rows.AuditNilCardSaid :=
  Claim7.holds_tied_plain_at .later [] _ _ _ _ auditNil_said (fun _ h => by cases h) (by kernel_rfl) (fun _ h => by cases h) auditNil_row_tie rfl ⟨rfl, rfl⟩ (by kernel_rfl) rfl auditNil_plain (by kernel_rfl)
end Go.Proofs.YtflbhldcnjmkkaaGreatDoor
