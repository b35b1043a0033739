/-
  Conversions between bytes and strings, strings' comparison, copy, append of zeros. Over any program.
-/
import Derived.Test.YtobnnhlgdoddgaaDoorBit3
import Derived.Laws.BytesString
import Derived.Laws.Strings
import Derived.Laws.CopyRow
namespace Cr
open Go
set_option maxRecDepth 10000
def str (s : List UInt8) : ByteArray := ⟨s.toArray⟩
section
variable {P : Program} {o : Oper} {σ : Env} {w : World} {x y : Operand} {t ty e : TypeId} {N : Nat} {ds : Md} {K : Env → World → Prop}
theorem fold_push (s : List UInt8) : ∀ acc : ByteArray, (s.map fun b => (b.toNat : Int)).foldl (fun r n => r.push (UInt8.ofNat n.toNat)) acc = ⟨acc.data ++ s.toArray⟩ := by
  induction s with
  | nil => intro acc; simp
  | cons c s ih =>
    intro acc
    rw [List.map_cons, List.foldl_cons, ih]
    congr 1
    have : UInt8.ofNat ((c.toNat : Int)).toNat = c := by simp
    rw [this]
    simp [ByteArray.push]
theorem run_bytesStr {a : Option Addr} {s : List UInt8} {n c : Nat} (h : Rd w (bytes a s)) (hn : s.length = n) : (Conv.bytesToString (.slice a n c)).run P w = .ok (.string (str s)) w := by
  cases a with
  | none =>
    have : bv s = [] := h.none_nil
    have hs : s = [] := by cases s with
      | nil => rfl
      | cons => simp [bv] at this
    subst hs
    rfl
  | some ad =>
    have hf := firstCells_row (P := P) (size := 1) (m := n) (c := c) h (by simp [hn])
    simp only [Builtin.firstCells, Nat.mul_one] at hf
    rw [run_bytesToString w ad n c (s.map fun b => (b.toNat : Int)) (by rw [hf, List.map_map]; rfl), fold_push]
    simp [str]
theorem Yl_bytesStr {src dst : TypeId} {a : Option Addr} {s : List UInt8} {n c : Nat} (ho : o.op = .convert src dst x) (hx : ev σ x = some (.slice a n c)) [hs : Und P src (.slice e)] [he : Und P e (.int .u8)] [hd : Und P dst .string] (h : Rd w (bytes a s)) (hn : s.length = n) : Yl P o σ w (.string (str s)) := ⟨fun N ds f ha => by
  have := run_bytesStr (P := P) (c := c) h hn
  simp only [execOp, ho, ha.eval hx, convert, Sem.run_bind, run_underlying hs.und, run_underlying hd.und, run_underlying he.und, Result.andThen_ok, this]
  rfl⟩
theorem str_toList (s : List UInt8) : (str s).toList = s := ByteArray.toList_mk s
theorem str_inj {s t : List UInt8} (h : str s = str t) : s = t := by rw [← str_toList s, h, str_toList]
theorem Yl_eqlStr {a b : List UInt8} (ho : o.op = .binOp .eql t x y ty) (hx : ev σ x = some (.string (str a))) (hy : ev σ y = some (.string (str b))) : Yl P o σ w (.bool (decide (a = b))) := ⟨fun N ds f ha => by
  simp only [execOp, ho, ha.eval hx, ha.eval hy, binOp, eqGuard, Op.stringOp, str_toList]
  have : (a == b) = decide (a = b) := by by_cases h : a = b <;> simp [h]
  rw [this]; rfl⟩
theorem Yl_neqStr {a b : List UInt8} (ho : o.op = .binOp .neq t x y ty) (hx : ev σ x = some (.string (str a))) (hy : ev σ y = some (.string (str b))) : Yl P o σ w (.bool (decide (¬ a = b))) := ⟨fun N ds f ha => by
  simp only [execOp, ho, ha.eval hx, ha.eval hy, binOp, eqGuard, Op.stringOp, str_toList]
  have : (!(a == b)) = decide (¬ a = b) := by by_cases h : a = b <;> simp [h]
  rw [this]; rfl⟩
/-- copy into a block of the run's own. -/
theorem X_copy {sT T : TypeId} {g off n c m c2 d : Nat} {a : Option Addr} {l news : List Value} {W : World} {F : Nat → Prop} {rs rs' : List Res} {z : Value} {bytes : Nat} {TT : TypeId} (ho : o.op = .call { callee := .builtin .copy, args := #[x, y], argTypes := #[t, sT] }) (hx : ev σ x = some (.slice (some ⟨g, off, none⟩) n c)) (hy : ev σ y = some (.slice a m c2))
    [h : Und P t (.slice T)] [hi : Inf P T z 1 bytes] (hd : o.dst = some d) (hN : Nat.blt d N = true) (hS : St W F rs w) [hh : Has rs g (.cells l.toArray TT (0, 0))] (hnews : Rd w (row a news)) (hl : news.length = m) (h1 : ∀ u ∈ news, u.oneCell' = true) (hfit : off + n ≤ l.length)
    [hu : Upd rs g (.cells (splice l off (news.take n)).toArray TT (0, 0)) rs'] (hk : ∀ w', St W F rs' w' → K ((d, .int .i64 ((min m n : Nat) : Int)) :: σ) w') : X P o N ds σ w K := ⟨fun f ha K' Q' hK => by
  have hb := hS.has (b := g) (o := .cells l.toArray TT (0, 0))
  obtain ⟨i, hi', hz', hsz, hby⟩ := info_parts hi.inf
  have hmin : (news.take n).length = Nat.min m n := by simp [hl]; exact Nat.min_comm _ _
  have hfc : (Builtin.firstCells 1 (Nat.min m n) (.slice a m c2)).run P w = .ok (news.take n).toArray w := by
    have h2 : Rd w (row a (news.take n)) := hnews.mono fun h hr => by
      rcases hr with ⟨rfl, h0⟩ | ⟨b, o', cells, T', fz, hb', rfl, hc⟩
      · exact ⟨h, .inl ⟨by simp, h0⟩, fun _ _ e => e⟩
      · refine ⟨_, .inr ⟨b, o', cells, T', fz, hb', rfl, fun j v hv => ?_⟩, fun _ _ e => e⟩
        rw [List.getElem?_take] at hv
        split at hv
        · exact hc j v hv
        · cases hv
    have := firstCells_row (P := P) (size := 1) (m := Nat.min m n) (c := c2) h2 (by omega)
    cases a <;> exact this
  have h1' : ∀ v ∈ news.take n, v.oneCell' = true := fun v hv => h1 v (List.mem_of_mem_take hv)
  have hst := run_storeCells_at P g off TT (news.take n) 0 l.toArray w hb (by simp; omega) h1'
  simp only [Nat.add_zero] at hst
  have hexec : (execOp f.eval o).run P w = .ok (.value (.int .i64 ((Nat.min m n : Nat) : Int))) (w.setRow g (splice l off (news.take n)).toArray) := by
    simp only [execOp, ho, resolve, invoke, builtin, ha.eval hx, ha.eval hy, Builtin.copy_, Sem.run_bind, Sem.run_pure, Result.andThen_ok, List.map_toArray, List.map_cons, List.map_nil]
    simp [run_underlying h.und, Builtin.lenOf, Go.sizeOf, typeInfo, hi', hsz, hfc, hst, goInt, splice]
  unfold Oper.wp
  rw [hexec]
  have u := setBlock_row hb (splice l off (news.take n)).toArray
  have := hK _ _ _ (ha.put (lt_of_blt hN) (.int .i64 ((Nat.min m n : Nat) : Int))) (hk _ (hS.upd u))
  rw [← hd] at this
  exact this⟩
theorem zeroCells_one {z : Value} (hz : z.cells = #[z]) (m : Nat) : Builtin.zeroCells z.cells m = (List.replicate m z).toArray := by
  rw [hz]
  apply Array.ext
  · simp [Builtin.zeroCells]
  · intro i h1 h2
    have : i % 1 = 0 := by omega
    simp [Builtin.zeroCells, this]
theorem run_appendZ {T bytes c n m : Nat} {k k' : IntKind} {a : Option Addr} {cs : List Value} {z : Value} {W : World} {F : Nat → Prop} {rest : List Res} (tx : TypeId) [h : Und P t (.slice T)] [hx : Und P tx (.int k')] [hi : Inf P T z 1 bytes] (hzc : z.cells = #[z]) (hz1 : z.oneCell' = true)
    (hS : St W F (own T 1 a c cs :: rest) w) (hcs : cs.length = n) (hnc : n ≤ c) (hfit : (n + m) * bytes ≤ 140737488355328) (hmax : n + m ≤ maxLen) :
    ∃ a' c' w', (Builtin.append_ #[t, tx] ty #[.slice a n c, .int k (m : Nat)]).run P w = .ok (.slice a' (n + m) c') w' ∧ St W F (own T 1 a' c' (cs ++ List.replicate m z) :: rest) w' ∧ n + m ≤ c' ∧ (a' = none ↔ a = none ∧ m = 0) := by
  obtain ⟨i, hi', hz', hsz, hby⟩ := info_parts hi.inf
  subst hby
  obtain ⟨f, ⟨f1, f2, ho, hs, hd, hu⟩, s⟩ := hS
  have hlt : ((n + m : Nat) : Int) ≤ 9223372036854775807 := by simp only [maxLen] at hmax; omega
  have hw64 : IntKind.i64.wrap (m : Int) = m := w64 (by omega) (by omega)
  have hm0 : ¬ ((m : Int) < 0) := by omega
  have hmb : ¬ (281474976710656 < (m : Int) * i.bytes) := by
    have h1 : (n + m) * i.bytes = n * i.bytes + m * i.bytes := Nat.add_mul ..
    rw [← Int.natCast_mul]
    generalize m * i.bytes = q at h1 ⊢
    omega
  have hnew : ∀ w : World, (if m = 0 then pure #[] else do pure (Builtin.zeroCells (← zeroValue T).cells m) : Sem (Array Value)).run P w = .ok (List.replicate m z).toArray w := fun w => by
    by_cases h0 : m = 0
    · subst h0; simp
    · rw [if_neg h0]
      simp [zeroValue, typeInfo, hi', hz', zeroCells_one hzc]
  by_cases hroom : n + m ≤ c
  · have ho' := ho
    obtain ⟨_, hcm, ⟨rfl, he⟩ | ⟨b, cells, rfl, hf1, hcz, ht⟩⟩ := ho
    · obtain rfl : n = 0 := by omega
      obtain rfl : m = 0 := by omega
      obtain rfl : cs = [] := List.eq_nil_of_length_eq_zero hcs
      refine ⟨a, 0, w, ?_, ⟨f, ⟨f1, f2, by simpa using ho', hs, hd, hu⟩, s⟩, by omega, by simp⟩
      cases a <;> simp [Builtin.append_, run_underlying h.und, run_underlying hx.und, Go.sizeOf, typeInfo, hi', asInt, asIntOf, storeCells, IntKind.wrap_i64]
    · have hb : w.heap[b]? = some (.cells cells T (0, 0)) := s.agrees b _ (by rw [hu, hf1, single_self]; rfl)
      have hfit2 : n + (List.replicate m z).length ≤ cells.size := by simp; omega
      have h1 : ∀ u ∈ List.replicate m z, u.oneCell' = true := fun u hu => by rw [List.eq_of_mem_replicate hu]; exact hz1
      have hst := run_storeCells_at P b n T (List.replicate m z) 0 cells w hb (by simpa using hfit2) h1
      simp only [Nat.add_zero] at hst
      have u := setBlock_row hb (cells.toList.take n ++ List.replicate m z ++ cells.toList.drop (n + (List.replicate m z).length)).toArray
      have hlen : (cells.toList.take n ++ List.replicate m z ++ cells.toList.drop (n + (List.replicate m z).length)).length = c * 1 := by
        simp only [List.length_append, List.length_take, List.length_drop, Array.length_toList, List.length_replicate] at hfit2 ⊢; omega
      refine ⟨some ⟨b, 0, none⟩, c, w.setRow b (cells.toList.take n ++ List.replicate m z ++ cells.toList.drop (n + (List.replicate m z).length)).toArray, ?_, ?_, hroom, by simp⟩
      · have hst2 : (storeCells ⟨b, n, none⟩ (List.replicate m z)).run P w = .ok () (w.setRow b (cells.toList.take n ++ List.replicate m z ++ cells.toList.drop (n + (List.replicate m z).length)).toArray) := hst
        rw [show (Builtin.append_ #[t, tx] ty #[.slice (some ⟨b, 0, none⟩) n c, .int k (m : Nat)]).run P w =
          ((if m = 0 then pure #[] else do pure (Builtin.zeroCells (← zeroValue T).cells m) : Sem (Array Value)).run P w).andThen (fun r w' => ((storeCells ⟨b, n, none⟩ r.toList).run P w').andThen fun _ w' => .ok (.slice (some ⟨b, 0, none⟩) (n + m) c) w') by
            simp [Builtin.append_, run_underlying h.und, run_underlying hx.und, Go.sizeOf, typeInfo, hi', hw64, hm0, hmb, hsz, hroom, add_lit, asInt, asIntOf], hnew w]
        simp only [Result.andThen_ok, hst2]
      · have hS2 : St W F (pts b (.cells cells T (0, 0)) :: rest) w := ⟨f, ⟨f1, f2, hf1, hs, hd, hu⟩, s⟩
        refine (hS2.set u).imp fun g hg => hg.mono_head (own_of_pts (c := c) hlen hcm ?_)
        rw [hcs] at ht
        rw [ht, List.take_append_of_le_length (by simp), List.take_of_length_le (by simp)]
  · have hge : n + m ≤ grownCap w (n + m) c T := grownCap_ge w (n + m) c T
    have hcm : grownCap w (n + m) c T ≤ maxLen := grownCap_le_maxLen w (n + m) c T hmax
    have hn' : ¬ (n + m ≤ c) := hroom
    have hmin : ¬ (9223372036854775807 < ((n : Int) + (m : Int))) := by omega
    have h48 : ¬ (281474976710656 < Builtin.nextslicecap (n + m) c * i.bytes) := by have := growslice_fits (show c < n + m by omega) hfit; omega
    have hod : (Builtin.firstCells 1 n (.slice a n c)).run P w.drew = .ok cs.toArray w.drew := firstCells_row (P := P) (size := 1) ⟨f1, ho.row, fun b o e => s.agrees b o (by rw [hu, e]; rfl)⟩ (by omega)
    let blk := cs.toArray ++ (List.replicate m z).toArray ++ Builtin.zeroCells z.cells (grownCap w (n + m) c T - (n + m))
    have hS2 : St W F rest w := St.drop ⟨f, ⟨f1, f2, ho, hs, hd, hu⟩, s⟩
    refine ⟨some ⟨w.heap.size, 0, none⟩, grownCap w (n + m) c T, w.drew.alloc (.cells blk T), ?_, ?_, hge, by simp; omega⟩
    · have hmm : m ≠ 0 := by omega
      simp [Builtin.append_, run_underlying h.und, run_underlying hx.und, Go.sizeOf, typeInfo, zeroValue, hi', hz', hw64, hm0, hmb, hsz, hn', hmin, h48, asInt, asIntOf, Question.forced, hod, hmm, zeroCells_one hzc, newRow, grownCap, blk]
    · have hlen : blk.toList.length = grownCap w (n + m) c T * 1 := by
        simp only [blk, Array.length_toList, Array.size_append, List.size_toArray, size_zeroCells, hzc, hcs, List.length_replicate]
        simp; omega
      have h3 := hS2.drew.alloc (.cells blk T)
      refine St.imp h3 fun g hg => hg.mono_head ?_
      have key := own_of_pts (T := T) (e := 1) (c := grownCap w (n + m) c T) (b := w.heap.size) (l := blk.toList) (cs := cs ++ List.replicate m z) hlen hcm (by
        simp only [blk, Array.toList_append]; exact List.take_left)
      simpa using key
/-- append of zeros onto a slice without room: the slice need only be read. -/
theorem X_appendZ_grow {T bytes c n m : Nat} {k k' : IntKind} {a : Option Addr} {cs : List Value} {z : Value} {W : World} {F : Nat → Prop} {rs : List Res} {d : Nat} {tx : TypeId} (ho : o.op = .call { callee := .builtin .append, args := #[x, y], argTypes := #[t, tx] }) (hx : ev σ x = some (.slice a n c)) (hy : ev σ y = some (.int k (m : Nat)))
    [h : Und P t (.slice T)] [hx' : Und P tx (.int k')] [hi : Inf P T z 1 bytes] (hzc : z.cells = #[z]) (hd : o.dst = some d) (hN : Nat.blt d N = true) (hS : St W F rs w) (hr : Rd w (row a cs)) (hcs : cs.length = n) (hg : c < n + m) (hm : 0 < m)
    (hfit : (n + m) * bytes ≤ 140737488355328) (hmax : n + m ≤ maxLen)
    (hk : ∀ b c' w', St W F (own T 1 (some ⟨b, 0, none⟩) c' (cs ++ List.replicate m z) :: rs) w' → n + m ≤ c' → K ((d, .slice (some ⟨b, 0, none⟩) (n + m) c') :: σ) w') : X P o N ds σ w K := ⟨fun f ha K' Q' hK => by
  obtain ⟨i, hi', hz', hsz, hby⟩ := info_parts hi.inf
  subst hby
  have hlt : ((n + m : Nat) : Int) ≤ 9223372036854775807 := by simp only [maxLen] at hmax; omega
  have hw64 : IntKind.i64.wrap (m : Int) = m := w64 (by omega) (by omega)
  have hm0 : ¬ ((m : Int) < 0) := by omega
  have hmb : ¬ (281474976710656 < (m : Int) * i.bytes) := by
    have h1 : (n + m) * i.bytes = n * i.bytes + m * i.bytes := Nat.add_mul ..
    rw [← Int.natCast_mul]
    generalize m * i.bytes = q at h1 ⊢
    omega
  have hge : n + m ≤ grownCap w (n + m) c T := grownCap_ge w (n + m) c T
  have hcm : grownCap w (n + m) c T ≤ maxLen := grownCap_le_maxLen w (n + m) c T hmax
  have hn' : ¬ (n + m ≤ c) := by omega
  have hmin : ¬ (9223372036854775807 < ((n : Int) + (m : Int))) := by omega
  have h48 : ¬ (281474976710656 < Builtin.nextslicecap (n + m) c * i.bytes) := by have := growslice_fits (show c < n + m by omega) hfit; omega
  have hod : (Builtin.firstCells 1 n (.slice a n c)).run P w.drew = .ok cs.toArray w.drew := firstCells_row (P := P) (size := 1) (by obtain ⟨g, hg, ha⟩ := hr; exact ⟨g, hg, ha⟩) (by omega)
  let blk := cs.toArray ++ (List.replicate m z).toArray ++ Builtin.zeroCells z.cells (grownCap w (n + m) c T - (n + m))
  have hlen : blk.toList.length = grownCap w (n + m) c T * 1 := by
    simp only [blk, Array.length_toList, Array.size_append, List.size_toArray, size_zeroCells, hzc, hcs, List.length_replicate]
    simp; omega
  have hexec : (execOp f.eval o).run P w = .ok (.value (.slice (some ⟨w.heap.size, 0, none⟩) (n + m) (grownCap w (n + m) c T))) (w.drew.alloc (.cells blk T)) := by
    have hmm : m ≠ 0 := by omega
    simp [execOp, ho, resolve, invoke, builtin, ha.eval hx, ha.eval hy, Builtin.append_, run_underlying h.und, run_underlying hx'.und, Go.sizeOf, typeInfo, zeroValue, hi', hz', hw64, hm0, hmb, hsz, hn', hmin, h48, asInt, asIntOf, Question.forced, hod, hmm, zeroCells_one hzc, newRow, grownCap, blk]
  unfold Oper.wp
  rw [hexec]
  have := hK _ _ _ (ha.put (lt_of_blt hN) (.slice (some ⟨w.heap.size, 0, none⟩) (n + m) (grownCap w (n + m) c T))) (hk w.heap.size _ (w.drew.alloc (.cells blk T)) (St.imp (hS.drew.alloc (.cells blk T)) fun g hg => hg.mono_head (by
    have key := own_of_pts (T := T) (e := 1) (c := grownCap w (n + m) c T) (b := w.heap.size) (l := blk.toList) (cs := cs ++ List.replicate m z) hlen hcm (by
      simp only [blk, Array.toList_append]; exact List.take_left)
    simpa using key)) hge)
  rw [← hd] at this
  exact this⟩
theorem X_appendZ {T bytes c n m : Nat} {k k' : IntKind} {a : Option Addr} {cs : List Value} {z : Value} {W : World} {F : Nat → Prop} {rs rest : List Res} {d : Nat} {tx : TypeId} (ho : o.op = .call { callee := .builtin .append, args := #[x, y], argTypes := #[t, tx] }) (hx : ev σ x = some (.slice a n c)) (hy : ev σ y = some (.int k (m : Nat)))
    [h : Und P t (.slice T)] [hx' : Und P tx (.int k')] [hi : Inf P T z 1 bytes] (hzc : z.cells = #[z]) (hz1 : z.oneCell' = true) (hd : o.dst = some d) (hN : Nat.blt d N = true) (hS : St W F rs w) [hh : HasOwn rs a T 1 c cs rest] (hcs : cs.length = n) (hnc : n ≤ c)
    (hfit : (n + m) * bytes ≤ 140737488355328) (hmax : n + m ≤ maxLen)
    (hk : ∀ a' c' w', St W F (own T 1 a' c' (cs ++ List.replicate m z) :: rest) w' → n + m ≤ c' → (a' = none ↔ a = none ∧ m = 0) → K ((d, .slice a' (n + m) c') :: σ) w') : X P o N ds σ w K := ⟨fun f ha K' Q' hK => by
  obtain ⟨a', c', w', hr, hS', hc', hn⟩ := run_appendZ (P := P) (t := t) (ty := o.type) (k := k) (m := m) tx hzc hz1 (hS.perm hh.has) hcs hnc hfit hmax
  unfold Oper.wp
  have hexec : (execOp f.eval o).run P w = .ok (.value (.slice a' (n + m) c')) w' := by
    simp [execOp, ho, resolve, invoke, builtin, ha.eval hx, ha.eval hy, hr]
  rw [hexec]
  have := hK _ _ _ (ha.put (lt_of_blt hN) (.slice a' (n + m) c')) (hk a' c' w' hS' hc' hn)
  rw [← hd] at this
  exact this⟩
end
end Cr
