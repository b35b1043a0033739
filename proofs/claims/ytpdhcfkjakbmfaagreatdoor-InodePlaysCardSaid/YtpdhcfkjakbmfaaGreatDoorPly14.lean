/-
  Layer 7 (inode): Used: the keys of a map, gone through by a range over a function, and sorted.
  Layer 7 (inode): Free; Format of a log that isn't new.
  The law InodePlays: fresh; tells.
  The law InodePlays: tells.
  The law InodePlays: whatever changes are applied, what is refused, and what is there, is the document's.
  The argument of InodePlays, opened: a slice of slices of changes.
-/
import Derived.Test.YtpdhcfkjakbmfaaGreatDoorPly13
import Derived.Test.YtpdhcfkjakbmfaaGreatDoorPly12
import Derived.Test.YtpdhcfkjakbmfaaGreatDoorPly6
import Derived.Sort.Row
import Derived.Sort.Grow
import Derived.Test.YtpdhcfkjakbmfaaGreatDoorPly11
import Derived.Test.YtpdhcfkjakbmfaaGreatDoorPly4
namespace Cr
open Go Go.Proofs
set_option maxRecDepth 100000
set_option maxHeartbeats 16000000
attribute [local irreducible] Calls

/-- What Sort leaves of a row. -/
theorem St.sorted {W : World} {F : Nat → Prop} {rs : List Res} {w : World} {T : TypeId} {b c : Nat} {P : List Int} (Q : List Int) (hQ : Q.length = P.length) (hpos : 0 < P.length) (n : Nat) (os : Array Obj) (hS : St W F (own T 1 (some ⟨b, 0, none⟩) c (ints .i64 P) :: rs) w) :
    St W F (own T 1 (some ⟨b, 0, none⟩) c (ints .i64 Q) :: rs) (Sort.grow (Sort.putRow (Value.int .i64) (Sort.ahead w n) b 0 Q.toArray) os) := by
  obtain ⟨g, ⟨g1, g2, hown, hrest, hdj, hun⟩, s⟩ := hS
  obtain ⟨hle, hcm, ⟨rfl, _⟩ | ⟨b', cells, hbe, rfl, hcz, ht⟩⟩ := hown
  · rw [Nat.zero_mul, ints_length] at hle; omega
  · obtain rfl : b = b' := by simpa using hbe
    have hb : w.heap[b]? = some (.cells cells T (0, 0)) := s.agrees b _ (by rw [hun, single_self]; rfl)
    have hS2 : St W F (pts b (.cells cells T (0, 0)) :: rs) w := ⟨g, ⟨_, g2, rfl, hrest, hdj, hun⟩, s⟩
    have u : SetBlock w (Sort.putRow (Value.int .i64) (Sort.ahead w n) b 0 Q.toArray) b (.cells (Sort.putCells (Value.int .i64) 0 Q.toArray cells) T (0, 0)) := by
      refine ⟨by simp, ?_, fun k hk => ?_, rfl, rfl, rfl⟩
      · simp only [Sort.putRow, Sort.mapBlock, Sort.heap_ahead]
        rw [Array.getElem?_modify, if_pos rfl, hb]; rfl
      · simp only [Sort.putRow, Sort.mapBlock, Sort.heap_ahead]
        rw [Array.getElem?_modify, if_neg (Ne.symm hk)]
    have hS3 := hS2.set u
    have hbel : RowKit.Below (Sort.putRow (Value.int .i64) (Sort.ahead w n) b 0 Q.toArray).heap.size (Sort.putRow (Value.int .i64) (Sort.ahead w n) b 0 Q.toArray) (Sort.grow (Sort.putRow (Value.int .i64) (Sort.ahead w n) b 0 Q.toArray) os) :=
      ⟨rfl, rfl, rfl, by simp [Sort.grow], fun k hk => by
        simp only [Sort.grow]
        rw [Array.getElem?_append_left hk]⟩
    refine (hS3.below hbel).head fun h hh => ?_
    have hPl : P.length ≤ cells.size := by rw [ints_length] at hle; omega
    have key := own_of_pts (T := T) (e := 1) (c := c) (b := b) (l := (Sort.putCells (Value.int .i64) 0 Q.toArray cells).toList) (cs := ints .i64 Q) (by simp [Sort.putCells, hcz]) hcm (by
      apply List.ext_getElem?
      intro k
      rw [List.getElem?_take, ints_length]
      by_cases hk : k < Q.length
      · rw [if_pos hk]
        simp only [Sort.putCells, Array.toList_mapIdx, List.getElem?_mapIdx]
        have hkc : k < cells.toList.length := by simp; omega
        rw [List.getElem?_eq_getElem hkc]
        simp [ints, hk]
      · rw [if_neg hk, List.getElem?_eq_none (by rw [ints_length]; omega)])
    exact key h (by simpa using hh)
theorem St.ownHolds {W : World} {F : Nat → Prop} {rs : List Res} {w : World} {T b c : Nat} {P : List Int} (hS : St W F (own T 1 (some ⟨b, 0, none⟩) c (ints .i64 P) :: rs) w) (hpos : 0 < P.length) : Sort.Holds (Value.int .i64) w b 0 P.toArray ∧ b < w.heap.size := by
  obtain ⟨g, ⟨g1, g2, hown, hrest, hdj, hun⟩, s⟩ := hS
  obtain ⟨hle, hcm, ⟨rfl, _⟩ | ⟨b', cells, hbe, rfl, hcz, ht⟩⟩ := hown
  · rw [Nat.zero_mul, ints_length] at hle; omega
  · obtain rfl : b = b' := by simpa using hbe
    have hb : w.heap[b]? = some (.cells cells T (0, 0)) := s.agrees b _ (by rw [hun, single_self]; rfl)
    refine ⟨fun j hj => ?_, lt_of_get hb⟩
    have hj : j < P.length := by simpa using hj
    rw [Nat.zero_add]
    refine ⟨?_, frozen_of_row w b j cells T hb⟩
    rw [cell_of_row w b j cells T (0, 0) hb]
    have h1 := congrArg (fun l => l[j]?) ht
    simp only [List.getElem?_take, ints_length, hj, if_true] at h1
    rw [ints_get hj] at h1
    have e : P.toArray[j]! = P.getD j 0 := by
      rw [getElem!_pos _ j (by simpa using hj)]
      simp [List.getD_eq_getElem?_getD, hj]
    rw [e]
    simpa using h1
/-- The keys of a map, handed to a yield one by one. -/
theorem keys1_ (l bx r : Nat) (A : AV) (T : TypeId) (w : World) (W : World) (F : Nat → Prop) (S : List Int → List Res) (hm : Ro W F (mapq (Value.int .i64) r A.vals)) (hbx : Ro W F (pts bx (.cells #[.map (some r)] T)))
    (hstep : ∀ (P : List Int) (k : Int) (it : Nat) (o : Obj) (w : World), P.length < A.length → St W F (pts it o :: S P) w → ∃ rc : Loop, rc.params.size = 1 ∧ w.heap[l]? = some (.loop rc) ∧
      RoundIn Fence.wide 0 Tryz.prog l rc.fn ((rc.params.zip #[.int .i64 k]).foldl (fun tmps (t, a) => tmps.setIfInBounds t a) rc.tmps) rc.assign rc.body w (Ret fun v w' => v = .bool true ∧ St W F (pts it o :: S (P ++ [k])) w'))
    (hS : St W F (S []) w) :
    CallsIn Fence.wide 0 Tryz.prog 89 #[.func (.yield l) #[] #[], .pointer (some ⟨bx, 0, none⟩)] w (Ret fun _ w' => ∃ P it o, P.Perm (keysA A) ∧ St W F (pts it o :: S P) w') := by
  refine callsIn_wide.2 ?_
  obtain ⟨es, clock, hes, hst, hmp⟩ := hm.openMap
  refine calls_C Tryz.func89 rfl Tryz.ntmps89 rfl ?_
  repeat (first | (refine G_id ?_; first | refine G_plain rfl rfl ?_) | (refine C_id ?_; first | refine C_seq ?_ | refine C_region ?_))
  refine X_yl (Yl_load rfl rfl ((cell_of_row _ bx 0 #[.map (some r)] T (0, 0) (hbx.rd hS).pts).trans rfl)) rfl rfl ?_
  repeat (first | (refine G_id ?_; first | refine G_plain rfl rfl ?_))
  refine X_rangeMap rfl rfl (hmp.rd hS) rfl rfl hS (fun it w hS _ => ?_)
  repeat (first | (refine G_id ?_; first | refine G_nil ?_) | (refine C_id ?_; first | refine C_block ?_) | (refine E_id ?_; first | refine E_code ?_))
  refine C_loop (α := Array Nat × List Int) (fun _ => [(0, .func (.yield l) #[] #[]), (5, .pointer (some ⟨it, 0, none⟩))])
    (fun z w => (z.2.map (Value.int .i64) ++ (leftL es z.1).map (·.key)).Perm (es.toList.map (·.key)) ∧ St W F (pts it (.mapIter (some r) clock z.1 clock) :: S z.2) w) (fun z => (leftL es z.1).length) (#[], []) ⟨rfl, rfl, trivial⟩ ⟨by rw [leftL_start]; exact List.Perm.refl _, hS⟩ ?_
  clear hS
  rintro ⟨seen, P⟩ w ⟨hp, hS⟩
  simp only at hp hS ⊢
  have hek : es.toList.map (·.key) = (keysA A).map (Value.int .i64) := by
    have e1 : es.toList.map (·.key) = (kvs es).map (·.1) := by simp [kvs, Function.comp_def]
    rw [e1, hes]
    simp [AV.vals, keysA, Function.comp_def]
  repeat (first | (refine G_id ?_; first | refine G_plain rfl rfl ?_) | (refine C_id ?_; first | refine C_seq ?_ | refine C_region ?_))
  refine X_nextMap rfl rfl hst (hmp.rd hS) rfl rfl hS (fun h0 => ?_) (fun e he w hS => ?_)
  · repeat (first | (refine G_id ?_; first | refine G_nil ?_ | refine G_plain rfl rfl ?_) | (refine X_id ?_; first | refine X_yl (Yl_extract rfl rfl) rfl rfl ?_) | (refine C_id ?_; first | refine C_seq ?_ | refine C_exit ?_ | refine C_cond_f rfl ?_) | (refine E_id ?_; first | refine E_code ?_ | refine E_then_exit ?_ | refine E_blk_same ?_ | refine E_end0 rfl (Ret.mk ?_)))
    rw [h0, List.map_nil, List.append_nil, hek] at hp
    have hp2 := hp.map (fun v => match v with | Value.int _ i => i | _ => 0)
    simp only [List.map_map, Function.comp_def, List.map_id'] at hp2
    exact ⟨P, it, _, hp2, hS⟩
  · have hel : e ∈ es.toList := (List.mem_filter.1 he).1
    have hstep2 := leftL_step hst he
    obtain ⟨x, hxA, hk, hv⟩ := entry_of hes hel
    have hlt : (leftL es (seen.push e.born)).length < (leftL es seen).length := by rw [hstep2.length_eq]; simp
    have hp3 : ((P ++ [x.1]).map (Value.int .i64) ++ (leftL es (seen.push e.born)).map (·.key)).Perm (es.toList.map (·.key)) := by
      refine List.Perm.trans ?_ hp
      rw [List.map_append, List.append_assoc]
      refine List.Perm.append_left _ ?_
      have := (hstep2.map (·.key)).symm
      rw [List.map_cons, hk] at this
      exact this
    repeat (first | (refine G_id ?_; first | refine G_nil ?_ | refine G_plain rfl rfl ?_) | (refine X_id ?_; first | refine X_yl (Yl_extract rfl rfl) rfl rfl ?_) | (refine C_id ?_; first | refine C_seq ?_ | refine C_region ?_ | refine C_block ?_ | refine C_skip ?_ | refine C_cond_t rfl ?_) | (refine E_id ?_; first | refine E_code ?_))
    refine X_yl (Yl_entry rfl rfl hst hel hS.has (hmp.rd hS).pts) rfl rfl ?_
    rw [hk]
    iterate 12 (first | (refine G_id ?_; first | refine G_nil ?_ | refine G_plain rfl rfl ?_) | (refine X_id ?_; first | refine X_yl (Yl_move rfl rfl) rfl rfl ?_ | refine X_yl (Yl_assign rfl rfl) rfl rfl ?_ | refine X_yl (Yl_extract rfl rfl) rfl rfl ?_) | (refine C_id ?_; first | refine C_seq ?_ | refine C_region ?_) | (refine E_id ?_; first | refine E_code ?_))
    have hPl : P.length < A.length := by
      have h1 := hp3.length_eq
      rw [hek] at h1
      simp [keysA] at h1
      omega
    obtain ⟨rc, hps, hl, hr⟩ := hstep P x.1 it _ w hPl hS
    refine G_yield rfl rfl rfl rfl rfl rfl hl (by rw [hps]; rfl) hr ?_
    rintro v w' ⟨rfl, hS⟩
    repeat (first | (refine G_id ?_; first | refine G_nil ?_ | refine G_plain rfl rfl ?_) | (refine X_id ?_; first | refine X_yl (Yl_not_t rfl rfl) rfl rfl ?_) | (refine C_id ?_; first | refine C_skip ?_ | refine C_cond_f rfl ?_) | (refine E_id ?_; first | refine E_code ?_ | refine E_blk_n ?_))
    exact E_round (z := (seen, P)) (seen.push e.born, P ++ [x.1]) ⟨rfl, rfl, trivial⟩ ⟨hp3, hS⟩ hlt
theorem Fr.round1 {σ : Env} {N : Nat} {tm : Array Value} (hsz : tm.size = N) (h : ∀ n v, look σ n = some v → tm[n]? = some v) (l : Nat) {a : Nat} (x : Value) (ha : a < N) :
    Fr ((a, x) :: σ) N ⟨[], some l⟩ { tmps := (#[a].zip #[x]).foldl (fun tmps (t, v) => tmps.setIfInBounds t v) tm, defers := [] } := by
  have := (Fr.round (σ := σ) (N := N) hsz h l).put ha x
  simpa [Act.put] using this
/-- A box with a slice of numbers, and the slice. -/
def seqR (b : Nat) (P : List Int) : Res := fun h => ∃ a c, P.length ≤ c ∧ Sep [pts b (.cells #[.slice a P.length c] 71), own 3 1 a c (ints .i64 P)] h
theorem St.openSeq {W : World} {F : Nat → Prop} {b : Nat} {P : List Int} {rs : List Res} {w : World} (hS : St W F (seqR b P :: rs) w) : ∃ a c, P.length ≤ c ∧ St W F (pts b (.cells #[.slice a P.length c] 71) :: own 3 1 a c (ints .i64 P) :: rs) w := by
  obtain ⟨h, ⟨h1, h2, ⟨a, c, hc, hs⟩, hr, hd, hu⟩, s⟩ := hS
  exact ⟨a, c, hc, h, Sep.append_mk hs hr hd hu, s⟩
theorem St.shutSeq {W : World} {F : Nat → Prop} {b c : Nat} {a : Option Addr} {P : List Int} {rs : List Res} {w : World} (hc : P.length ≤ c) (hS : St W F (pts b (.cells #[.slice a P.length c] 71) :: own 3 1 a c (ints .i64 P) :: rs) w) : St W F (seqR b P :: rs) w :=
  St.shutR (rs' := [pts b (.cells #[.slice a P.length c] 71), own 3 1 a c (ints .i64 P)]) hS fun h hh => ⟨a, c, hc, hh⟩
theorem appendSeq_ (bx r : Nat) (A : AV) (T : TypeId) (W : World) (hm : Rd W (mapq (Value.int .i64) r A.vals)) (hbx : Rd W (pts bx (.cells #[.map (some r)] T))) (hAl : A.length ≤ 1000) :
    Calls Tryz.prog 107 #[.slice none 0 0, .func (.func 89) #[] #[.pointer (some ⟨bx, 0, none⟩)]] W (Ret fun v w => ∃ P a c, v = .slice a P.length c ∧ P.length ≤ c ∧ P.Perm (keysA A) ∧ St W noF [own 3 1 a c (ints .i64 P)] w) := by
  have hmo := hm.ro
  have hbo := hbx.ro
  have hS := St.start W
  refine calls_C Tryz.func107 rfl Tryz.ntmps107 rfl ?_
  repeat (first | (refine G_id ?_; first | refine G_nil ?_ | refine G_plain rfl rfl ?_) | (refine X_id ?_; first | refine X_yl (Yl_move rfl rfl) rfl rfl ?_ | refine X_yl (Yl_assign rfl rfl) rfl rfl ?_ | refine X_box rfl rfl rfl rfl hS (fun _ _ hS _ => ?_)) | (refine C_id ?_; first | refine C_seq ?_ | refine C_region ?_ | refine C_block ?_) | (refine E_id ?_; first | refine E_code ?_))
  rename_i b2 _ _
  have hS := hS.own_none 3 1 none
  have hS : St W noF [seqR b2 []] _ := (hS.pick [1, 0]).shutSeq (Nat.le_refl _)
  refine C_rangeFunc (first := []) (captured := [.pointer (some ⟨bx, 0, none⟩)])
    (fun l rr j w => j = none ∧ ∃ P it o lo, P.Perm (keysA A) ∧ St W noF [pts l lo, pts rr (.deferred (some [])), pts it o, seqR b2 P] w) rfl rfl hS ?_ ?_ ?_
  · intro Aa B hA hB fn tm l rr w1 htm hlook hS
    refine callsIn_post (keys1_ l bx r A T w1 W noF (fun P => [pts l (.loop (recd fn tm #[7] Aa B rr .ready none)), pts rr (.deferred (some [])), seqR b2 P]) hmo hbo ?_ hS) ?_
    · intro P k it o w hPl hS
      refine ⟨_, rfl, hS.has (b := l), ?_⟩
      show RoundIn Fence.wide 0 Tryz.prog l fn ((#[7].zip _).foldl _ tm) Aa B w _
      refine round_C (Fr.round1 (a := 7) htm hlook l (.int .i64 k) (by decide)) ?_
      refine C_eq hA ?_
      repeat (first | (refine G_id ?_; first | refine G_nil ?_ | refine G_plain rfl rfl ?_) | (refine X_id ?_; first | refine X_yl (Yl_assign rfl rfl) rfl rfl ?_) | (refine C_id ?_; first | refine C_region ?_))
      refine E_begin (hS.has (b := l)) (fun w hset => ?_)
      replace hS := hS.upd hset
      refine C_eq hB ?_
      obtain ⟨a, c, hc, hS⟩ := (hS.pick [3, 0, 0, 0]).openSeq
      repeat (first | (refine G_id ?_; first | refine G_plain rfl rfl ?_) | (refine X_id ?_; first | refine X_yl (Yl_move rfl rfl) rfl rfl ?_ | refine X_yl (Yl_load rfl rfl hS.cell) rfl rfl ?_ | refine X_buildSlice rfl rfl rfl rfl rfl rfl rfl rfl hS (fun _ _ hS _ => ?_)) | (refine C_id ?_; first | refine C_region ?_ | refine C_block ?_))
      refine X_append (m := 1) rfl rfl rfl rfl rfl hS (by rw [ints_length, Nat.mul_one]) hc ((hS.rd (List.mem_cons_self ..)).own_row) (by simp) (by simp [Value.oneCell']) (by omega) (by simp only [maxLen]; omega) (fun a' c' w hS hc' _ => ?_)
      repeat (first | (refine G_id ?_; first | refine G_nil ?_ | refine G_plain rfl rfl ?_) | (refine X_id ?_; first | refine X_store rfl rfl rfl rfl hS (fun _ hS _ => ?_)) | (refine E_id ?_; first | refine E_blk_n ?_))
      refine E_round_n (hS.has (b := l)) (fun w hset => ⟨_, rfl, rfl, ?_⟩)
      replace hS := hS.upd hset
      have h := hS.took (out := [pts b2 (.cells #[.slice a' (P.length + 1) c'] 71), own 3 1 a' c' (ints .i64 P ++ [.int .i64 k]), pts it o, pts l (.loop (recd fn tm #[7] Aa B rr .ready none)), pts rr (.deferred (some []))])
      have h2 : St W noF [seqR b2 (P ++ [k]), pts it o, pts l (.loop (recd fn tm #[7] Aa B rr .ready none)), pts rr (.deferred (some []))] w := St.shutSeq (b := b2) (P := P ++ [k]) (a := a') (c := c') (by simpa using hc') (by rw [ints_append, List.length_append]; exact h)
      exact h2.pick [1, 1, 1, 0]
    · rintro _ w3 ⟨P, it, o, hp, hS⟩
      exact ⟨_, _, by simp, hS.has (b := l), fun w4 hset => ⟨rfl, P, it, o, _, hp, (hS.upd hset).pick [1, 1, 0, 0]⟩⟩
  · rintro l rr w4 ⟨_, P, it, o, lo, hp, hS⟩
    obtain ⟨a, c, hc, hS⟩ := (hS.pick [3, 0, 0, 0]).openSeq
    repeat (first | (refine G_id ?_; first | refine G_nil ?_ | refine G_plain rfl rfl ?_) | (refine X_id ?_; first | refine X_yl (Yl_assign rfl rfl) rfl rfl ?_ | refine X_yl (Yl_load rfl rfl hS.cell) rfl rfl ?_) | (refine C_id ?_; first | refine C_seq ?_ | refine C_region ?_ | refine C_ret ?_) | (refine E_id ?_; first | refine E_code ?_ | refine E_code2 rfl ?_ | refine E_blk_n ?_))
    refine E_mark (.inl rfl) hS.has (fun w hset => ?_)
    replace hS := hS.upd hset
    repeat (first | (refine E_id ?_; first | refine E_ret1 rfl (Rv_tmp rfl) (Ret.mk ?_)))
    exact ⟨P, a, c, rfl, hc, hp, hS.took⟩
  · rintro l rr c w4 hJ
    cases hJ.1
theorem collect_ (bx r : Nat) (A : AV) (T : TypeId) (W : World) (hm : Rd W (mapq (Value.int .i64) r A.vals)) (hbx : Rd W (pts bx (.cells #[.map (some r)] T))) (hAl : A.length ≤ 1000) :
    Calls Tryz.prog 87 #[.func (.func 89) #[] #[.pointer (some ⟨bx, 0, none⟩)]] W (Ret fun v w => ∃ P a c, v = .slice a P.length c ∧ P.length ≤ c ∧ P.Perm (keysA A) ∧ St W noF [own 3 1 a c (ints .i64 P)] w) := by
  have hmo := hm.ro
  have hbo := hbx.ro
  have hS := St.start W
  refine calls_C Tryz.func87 rfl Tryz.ntmps87 rfl ?_
  repeat (first | (refine G_id ?_; first | refine G_nil ?_ | refine G_plain rfl rfl ?_) | (refine X_id ?_; first | refine X_yl (Yl_move rfl rfl) rfl rfl ?_ | refine X_yl (Yl_assign rfl rfl) rfl rfl ?_) | (refine C_id ?_; first | refine C_seq ?_ | refine C_region ?_) | (refine E_id ?_; first | refine E_code ?_))
  refine X_callg _ rfl rfl rfl rfl rfl (appendSeq_ bx r A T _ (hmo.rd hS) (hbo.rd hS) hAl) ?_
  rintro _ w ⟨P, a, c, rfl, hc, hp, hS'⟩
  replace hS := hS.plus hS'
  clear hS'
  repeat (first | (refine G_id ?_; first | refine G_nil ?_ | refine G_plain rfl rfl ?_) | (refine X_id ?_; first | refine X_yl (Yl_assign rfl rfl) rfl rfl ?_) | (refine C_id ?_; first | refine C_ret ?_) | (refine E_id ?_; first | refine E_code ?_ | refine E_ret1 rfl (Rv_tmp rfl) (Ret.mk ?_)))
  exact ⟨P, a, c, rfl, hc, hp, hS.took⟩
theorem sort0_ (a : Option Addr) (c : Nat) (w : World) : Calls Tryz.prog 88 #[.slice a 0 c] w (Ret fun _ w' => w' = w) :=
  (Tryz.slices_Sort_int_none a c w).mono fun _ _ h => ⟨_, h.1, h.2⟩
theorem sortI_ (b c : Nat) (P : List Int) (w : World) (hH : Sort.Holds (Value.int .i64) w b 0 P.toArray) (hlt : b < w.heap.size) (hl : P.length < 4611686018427387904) :
    Calls Tryz.prog 88 #[.slice (some ⟨b, 0, none⟩) P.length c] w (Ret fun _ w' => ∃ n os, w' = Sort.grow (Sort.putRow (Value.int .i64) (Sort.ahead w n) b 0 (P.mergeSort fun x y => decide (x ≤ y)).toArray) os) :=
  (Tryz.slices_Sort_int b 0 c P w hH hlt hl).mono fun _ _ h => ⟨_, h.1, h.2⟩
theorem sorted_ (bx r : Nat) (A : AV) (T : TypeId) (W : World) (hm : Rd W (mapq (Value.int .i64) r A.vals)) (hbx : Rd W (pts bx (.cells #[.map (some r)] T))) (hAl : A.length ≤ 1000) :
    Calls Tryz.prog 65 #[.func (.func 89) #[] #[.pointer (some ⟨bx, 0, none⟩)]] W (Ret fun v w => ∃ P a c, v = .slice a P.length c ∧ P.length ≤ c ∧ P.Perm (keysA A) ∧ P.Pairwise (· ≤ ·) ∧ St W noF [own 3 1 a c (ints .i64 P)] w) := by
  have hmo := hm.ro
  have hbo := hbx.ro
  have hS := St.start W
  refine calls_C Tryz.func65 rfl Tryz.ntmps65 rfl ?_
  repeat (first | (refine G_id ?_; first | refine G_nil ?_ | refine G_plain rfl rfl ?_) | (refine X_id ?_; first | refine X_yl (Yl_move rfl rfl) rfl rfl ?_ | refine X_yl (Yl_assign rfl rfl) rfl rfl ?_) | (refine C_id ?_; first | refine C_seq ?_ | refine C_region ?_) | (refine E_id ?_; first | refine E_code ?_))
  refine X_callg _ rfl rfl rfl rfl rfl (collect_ bx r A T _ (hmo.rd hS) (hbo.rd hS) hAl) ?_
  rintro _ w ⟨P, a, c, rfl, hc, hp, hS'⟩
  replace hS := hS.plus hS'
  clear hS'
  repeat (first | (refine G_id ?_; first | refine G_nil ?_ | refine G_plain rfl rfl ?_) | (refine X_id ?_; first | refine X_yl (Yl_move rfl rfl) rfl rfl ?_ | refine X_yl (Yl_assign rfl rfl) rfl rfl ?_) | (refine C_id ?_; first | refine C_seq ?_ | refine C_region ?_) | (refine E_id ?_; first | refine E_code ?_))
  by_cases h0 : P.length = 0
  · obtain rfl : P = [] := List.length_eq_zero_iff.1 h0
    refine X_callg _ rfl rfl rfl rfl rfl (sort0_ a c _) ?_
    rintro v w' rfl
    repeat (first | (refine G_id ?_; first | refine G_nil ?_ | refine G_plain rfl rfl ?_) | (refine X_id ?_; first | refine X_yl (Yl_move rfl rfl) rfl rfl ?_ | refine X_yl (Yl_assign rfl rfl) rfl rfl ?_) | (refine C_id ?_; first | refine C_seq ?_ | refine C_region ?_ | refine C_ret ?_) | (refine E_id ?_; first | refine E_code ?_ | refine E_ret1 rfl (Rv_tmp rfl) (Ret.mk ?_)))
    exact ⟨[], a, c, rfl, hc, hp, List.Pairwise.nil, hS.took⟩
  · obtain ⟨b, rfl⟩ := hS.ownBase (by intro e; exact h0 (by simpa [ints] using congrArg List.length e))
    obtain ⟨hH, hlt⟩ := hS.ownHolds (by omega)
    have hlen := hp.length_eq
    rw [show (keysA A).length = A.length by simp [keysA]] at hlen
    refine X_callg _ rfl rfl rfl rfl rfl (sortI_ b c P _ hH hlt (by omega)) ?_
    rintro v w' ⟨n, os, rfl⟩
    have hPm : (P.mergeSort fun x y => decide (x ≤ y)).length = P.length := List.length_mergeSort _
    replace hS := hS.sorted (P.mergeSort fun x y => decide (x ≤ y)) hPm (by omega) n os
    repeat (first | (refine G_id ?_; first | refine G_nil ?_ | refine G_plain rfl rfl ?_) | (refine X_id ?_; first | refine X_yl (Yl_move rfl rfl) rfl rfl ?_ | refine X_yl (Yl_assign rfl rfl) rfl rfl ?_) | (refine C_id ?_; first | refine C_seq ?_ | refine C_region ?_ | refine C_ret ?_) | (refine E_id ?_; first | refine E_code ?_ | refine E_ret1 rfl (Rv_tmp rfl) (Ret.mk ?_)))
    refine ⟨P.mergeSort fun x y => decide (x ≤ y), _, c, by rw [hPm], by rw [hPm]; exact hc, (List.mergeSort_perm _ _).trans hp, ?_, hS.took⟩
    have := List.pairwise_mergeSort (le := fun x y => decide (x ≤ y)) (fun a b c h1 h2 => by simp only [decide_eq_true_eq] at h1 h2 ⊢; omega) (fun a b => by simp only [Bool.or_eq_true, decide_eq_true_eq]; omega) P
    exact this.imp (fun h => by simpa using h)
theorem mkeys_ (r : Nat) (W : World) : Calls Tryz.prog 66 #[.map (some r)] W (Ret fun v w => ∃ bx, v = .func (.func 89) #[] #[.pointer (some ⟨bx, 0, none⟩)] ∧ St W noF [pts bx (.cells #[.map (some r)] 69)] w) := by
  have hS := St.start W
  refine calls_C Tryz.func66 rfl Tryz.ntmps66 rfl ?_
  repeat (first | (refine G_id ?_; first | refine G_nil ?_ | refine G_plain rfl rfl ?_) | (refine X_id ?_; first | refine X_yl (Yl_assign rfl rfl) rfl rfl ?_ | refine X_yl (Yl_makeFunc rfl rfl rfl) rfl rfl ?_ | refine X_box rfl rfl rfl rfl hS (fun _ _ hS _ => ?_)) | (refine C_id ?_; first | refine C_seq ?_ | refine C_region ?_ | refine C_ret ?_) | (refine E_id ?_; first | refine E_code ?_ | refine E_ret1 rfl (Rv_tmp rfl) (Ret.mk ?_)))
  exact ⟨_, rfl, hS.took⟩
/-- The nodes that are used, rising. -/
def usedL (T : Tb) : List Int := ((List.range T.length).filter fun i => (T.getD i none).isSome).map fun i => ((i : Nat) : Int)
theorem usedL_sorted (T : Tb) : (usedL T).Pairwise (· < ·) := by
  unfold usedL
  rw [List.pairwise_map]
  exact (List.pairwise_lt_range.sublist List.filter_sublist).imp (fun h => by omega)
theorem sorted_ext : ∀ {P Q : List Int}, P.Pairwise (· < ·) → Q.Pairwise (· < ·) → (∀ x, x ∈ P ↔ x ∈ Q) → P = Q
  | [], [], _, _, _ => rfl
  | [], y :: Q, _, _, h => absurd ((h y).2 (List.mem_cons_self ..)) (List.not_mem_nil)
  | x :: P, [], _, _, h => absurd ((h x).1 (List.mem_cons_self ..)) (List.not_mem_nil)
  | x :: P, y :: Q, hP, hQ, h => by
    have hP' := List.pairwise_cons.1 hP
    have hQ' := List.pairwise_cons.1 hQ
    have e : x = y := by
      rcases List.mem_cons.1 ((h x).1 (List.mem_cons_self ..)) with e | hx
      · exact e
      · rcases List.mem_cons.1 ((h y).2 (List.mem_cons_self ..)) with e | hy
        · exact e.symm
        · have h1 := hQ'.1 x hx
          have h2 := hP'.1 y hy
          omega
    subst e
    congr 1
    refine sorted_ext hP'.2 hQ'.2 fun z => ⟨fun hz => ?_, fun hz => ?_⟩
    · rcases List.mem_cons.1 ((h z).1 (List.mem_cons_of_mem _ hz)) with e | hz'
      · subst e; exact absurd (hP'.1 z hz) (by omega)
      · exact hz'
    · rcases List.mem_cons.1 ((h z).2 (List.mem_cons_of_mem _ hz)) with e | hz'
      · subst e; exact absurd (hQ'.1 z hz) (by omega)
      · exact hz'
section
variable {rd fs : List Int} {tp lp p j m n nb : Nat} {T : Tb}
theorem usedL_keys {A : AV} {dat : List (List UInt8)} (h : TabOk rd fs n nb T A dat) {P : List Int} (hp : P.Perm (keysA A)) (hs : P.Pairwise (· ≤ ·)) : P = usedL T := by
  have hn : P.Nodup := hp.nodup_iff.2 (by rw [← keys_ents]; exact h.enc.nodup)
  refine sorted_ext ?_ (usedL_sorted T) fun x => ?_
  · have := hs.and hn
    exact this.imp (fun h => by omega)
  · rw [hp.mem_iff]
    have hat := h.at_ x
    have hk : x ∈ keysA A ↔ (atT T x).isSome = true := by
      rw [← hat, Option.isSome_map]
      have := getA_none (k := x) (l := A)
      cases hg : getA x A with
      | none => simp [this.1 hg]
      | some v =>
        simp only [Option.isSome_some, iff_true]
        exact Decidable.byContradiction fun q => by rw [this.2 q] at hg; cases hg
    rw [hk]
    unfold usedL atT
    constructor
    · intro hx
      split at hx
      · rename_i h0
        have hlt : x.toNat < T.length := by
          rcases Nat.lt_or_ge x.toNat T.length with h | h
          · exact h
          · rw [List.getD_eq_getElem?_getD, List.getElem?_eq_none h] at hx; cases hx
        exact List.mem_map.2 ⟨x.toNat, List.mem_filter.2 ⟨List.mem_range.2 hlt, hx⟩, by omega⟩
      · cases hx
    · intro hx
      obtain ⟨i, hi, rfl⟩ := List.mem_map.1 hx
      rw [if_pos (by omega), Int.toNat_natCast]
      exact (List.mem_filter.1 hi).2
theorem used_ {r : Nat} {A : AV} {dat : List (List UInt8)} (W : World) (hI : ItabRd W rd fs tp lp p j m n nb T r A dat) : Calls Tryz.prog 31 #[.pointer (some ⟨tp, 0, none⟩)] W (Ret fun v w => ∃ a c, v = .slice a (usedL T).length c ∧ (usedL T).length ≤ c ∧ St W noF [own 3 1 a c (ints .i64 (usedL T))] w) := by
  have hc := hI.t.ro
  have hmo := hI.mp.ro
  have hAl : A.length ≤ 1000 := by
    have h1 := hI.ok.enc.nodup
    have h2 := hI.ok.enc.keys
    have h4 := hI.ok.n4
    have h3 : (keysA A.ents).length ≤ ((List.range n).map fun i => ((i : Nat) : Int)).length := h1.length_le_of_subset fun k hk => by
      have := h2 k hk
      exact List.mem_map.2 ⟨k.toNat, List.mem_range.2 (by omega), by omega⟩
    simp [keysA, AV.ents] at h3
    omega
  have hS := St.start W
  refine calls_C Tryz.func31 rfl Tryz.ntmps31 rfl ?_
  repeat (first | (refine G_id ?_; first | refine G_nil ?_ | refine G_plain rfl rfl ?_) | (refine X_id ?_; first | refine X_yl (Yl_move rfl rfl) rfl rfl ?_ | refine X_yl (Yl_assign rfl rfl) rfl rfl ?_ | refine X_yl (Yl_nilCheck rfl rfl) rfl rfl ?_ | refine X_yl (Yl_fieldAddr0 rfl rfl rfl) rfl rfl ?_ | refine X_yl (Yl_eqlNil_some rfl rfl rfl) rfl rfl ?_ | refine X_yl (Yl_load rfl rfl (cell_at (hc.rd hS).pts)) rfl rfl ?_) | (refine C_id ?_; first | refine C_seq ?_ | refine C_region ?_ | refine C_skip ?_ | refine C_cond_f rfl ?_) | (refine E_id ?_; first | refine E_code ?_))
  refine X_callg _ rfl rfl rfl rfl rfl (mkeys_ r _) ?_
  rintro _ w ⟨bx, rfl, hS'⟩
  replace hS := hS.plus hS'
  clear hS'
  repeat (first | (refine G_id ?_; first | refine G_plain rfl rfl ?_))
  refine X_callg _ rfl rfl rfl rfl rfl (sorted_ bx r A _ _ (hmo.rd hS) (hS.rd (List.mem_cons_self ..)) hAl) ?_
  rintro _ w ⟨P, a, c, rfl, hc2, hp, hs, hS'⟩
  replace hS := hS.plus hS'
  clear hS'
  obtain rfl := usedL_keys hI.ok hp hs
  repeat (first | (refine G_id ?_; first | refine G_nil ?_ | refine G_plain rfl rfl ?_) | (refine X_id ?_; first | refine X_yl (Yl_assign rfl rfl) rfl rfl ?_) | (refine C_id ?_; first | refine C_ret ?_) | (refine E_id ?_; first | refine E_code ?_ | refine E_ret1 rfl (Rv_tmp rfl) (Ret.mk ?_)))
  exact ⟨a, c, rfl, hc2, hS.took⟩
end
end Cr
namespace Cr
open Go Go.Proofs
set_option maxRecDepth 100000
set_option maxHeartbeats 16000000
attribute [local irreducible] Calls

theorem contains0_ (a : Option Addr) (c : Nat) (x : Int) (w : World) : Calls Tryz.prog 69 #[.slice a 0 c, .int .i64 x] w (Ret fun v w' => v = .bool false ∧ w = w') :=
  (Tryz.slices_Contains_int_empty a c x w).mono fun _ _ h => ⟨_, h.1, rfl, h.2.symm⟩
/-- What Free tells: the lowest free node, and the error. -/
def freeFrom (T : Tb) : Nat → Nat → Int × Int
  | 0, _ => (0, 6)
  | k + 1, i => if (T.getD i none).isSome then freeFrom T k (i + 1) else ((i : Nat), 0)
def freeT (T : Tb) : Int × Int := freeFrom T T.length 0
section
variable {rd fs : List Int} {tp lp p j m n nb : Nat} {T : Tb}
theorem tfree_ {r : Nat} {A : AV} {dat : List (List UInt8)} (W : World) (hI : ItabRd W rd fs tp lp p j m n nb T r A dat) : Calls Tryz.prog 35 #[.pointer (some ⟨tp, 0, none⟩), .slice none 0 0] W (Ret fun v w => v = .tuple #[.int .i64 (freeT T).1, .int .i64 (freeT T).2] ∧ St W noF [] w) := by
  have hc := hI.t.ro
  have hmo := hI.mp.ro
  have hlen := hI.ok.tlen
  have hn4 := hI.ok.n4
  have hS := St.start W
  refine calls_C Tryz.func35 rfl Tryz.ntmps35 rfl ?_
  repeat (first | (refine G_id ?_; first | refine G_nil ?_ | refine G_plain rfl rfl ?_) | (refine X_id ?_; first | refine X_yl (Yl_move rfl rfl) rfl rfl ?_ | refine X_yl (Yl_assign rfl rfl) rfl rfl ?_ | refine X_yl (Yl_nilCheck rfl rfl) rfl rfl ?_ | refine X_yl (Yl_fieldAddr0 rfl rfl rfl) rfl rfl ?_ | refine X_yl (Yl_eqlNil_some rfl rfl rfl) rfl rfl ?_ | refine X_yl (Yl_load rfl rfl (cell_at (hc.rd hS).pts)) rfl rfl ?_) | (refine C_id ?_; first | refine C_seq ?_ | refine C_region ?_ | refine C_block ?_ | refine C_skip ?_ | refine C_cond_f rfl ?_) | (refine E_id ?_; first | refine E_code ?_))
  refine C_loop (α := Nat) (fun i => [(0, .pointer (some ⟨tp, 0, none⟩)), (1, .slice none 0 0), (14, .int .i64 (n : Nat)), (15, .int .i64 (i : Nat))]) (fun i w => i ≤ n ∧ freeT T = freeFrom T (n - i) i ∧ St W noF [] w) (fun i => n - i) 0 ⟨rfl, rfl, rfl, rfl, trivial⟩ ⟨Nat.zero_le _, by rw [Nat.sub_zero, ← hlen]; rfl, hS⟩ ?_
  clear hS
  rintro i w ⟨hi, hf, hS⟩
  by_cases hlt : i < n
  · have hat := hI.ok.at_ (i : Nat)
    have e1 : n - i = (n - (i + 1)) + 1 := by omega
    rw [e1] at hf
    simp only [freeFrom] at hf
    have ha : atT T (i : Nat) = T.getD i none := by unfold atT; rw [if_pos (by omega), Int.toNat_natCast]
    rw [ha] at hat
    cases hg : getA ((i : Nat) : Int) A with
    | none =>
      rw [hg, Option.map_none] at hat
      rw [← hat] at hf
      simp only [Option.isSome_none, Bool.false_eq_true, if_false] at hf
      rw [hf]
      have hgm : getM ((i : Nat) : Int) A.vals = none := by rw [getM_A, hg]; rfl
      repeat (first | (refine G_id ?_; first | refine G_nil ?_ | refine G_plain rfl rfl ?_) | (refine X_id ?_; first | refine X_yl (Yl_move rfl rfl) rfl rfl ?_ | refine X_yl (Yl_assign rfl rfl) rfl rfl ?_ | refine X_yl (Yl_nilCheck rfl rfl) rfl rfl ?_ | refine X_yl (Yl_fieldAddr0 rfl rfl rfl) rfl rfl ?_ | refine X_yl (Yl_lss_t rfl rfl rfl (by omega)) rfl rfl ?_ | refine X_yl (Yl_load rfl rfl (cell_at (hc.rd hS).pts)) rfl rfl ?_) | (refine C_id ?_; first | refine C_seq ?_ | refine C_region ?_ | refine C_block ?_ | refine C_skip ?_ | refine C_cond_t rfl ?_) | (refine E_id ?_; first | refine E_code ?_))
      refine X_yl (Yl_lookupOk (mk := Value.int .i64) (L := A.vals) (k := ((i : Nat) : Int)) rfl rfl rfl ((hmo.rd hS).mapq_r)) rfl rfl ?_
      rw [hgm]
      simp only [Option.getD_none, Option.isSome_none]
      repeat (first | (refine G_id ?_; first | refine G_nil ?_ | refine G_plain rfl rfl ?_ | refine G_yes rfl rfl rfl rfl ?_) | (refine X_id ?_; first | (refine X_callg 69 rfl rfl rfl rfl rfl (contains0_ _ _ _ _) ?_; rintro _ _ ⟨rfl, rfl⟩) | refine X_yl (Yl_move rfl rfl) rfl rfl ?_ | refine X_yl (Yl_assign rfl rfl) rfl rfl ?_ | refine X_yl (Yl_extract rfl rfl) rfl rfl ?_ | refine X_yl (Yl_pick_t rfl rfl rfl) rfl rfl ?_ | refine X_yl (Yl_not_f rfl rfl) rfl rfl ?_ | refine X_store rfl rfl rfl rfl hS (fun _ hS _ => ?_) | refine X_alloc rfl rfl rfl hS (fun _ _ hS _ => ?_)) | (refine C_id ?_; first | refine C_seq ?_ | refine C_region ?_ | refine C_ret ?_ | refine C_cond_t rfl ?_) | (refine E_id ?_; first | refine E_code ?_ | refine E_then_ret ?_ | refine E_blk_ret ?_ | refine E_ret2 rfl (Rv_tmp rfl) (Rv_tmp rfl) (Ret.mk ?_)))
      exact ⟨rfl, hS.drops⟩
    | some v =>
      rw [hg, Option.map_some] at hat
      rw [← hat] at hf
      simp only [Option.isSome_some, if_true] at hf
      have hgm : getM ((i : Nat) : Int) A.vals = some v.val := by rw [getM_A, hg]; rfl
      repeat (first | (refine G_id ?_; first | refine G_nil ?_ | refine G_plain rfl rfl ?_) | (refine X_id ?_; first | refine X_yl (Yl_move rfl rfl) rfl rfl ?_ | refine X_yl (Yl_assign rfl rfl) rfl rfl ?_ | refine X_yl (Yl_nilCheck rfl rfl) rfl rfl ?_ | refine X_yl (Yl_fieldAddr0 rfl rfl rfl) rfl rfl ?_ | refine X_yl (Yl_lss_t rfl rfl rfl (by omega)) rfl rfl ?_ | refine X_yl (Yl_load rfl rfl (cell_at (hc.rd hS).pts)) rfl rfl ?_) | (refine C_id ?_; first | refine C_seq ?_ | refine C_region ?_ | refine C_block ?_ | refine C_skip ?_ | refine C_cond_t rfl ?_) | (refine E_id ?_; first | refine E_code ?_))
      refine X_yl (Yl_lookupOk (mk := Value.int .i64) (L := A.vals) (k := ((i : Nat) : Int)) rfl rfl rfl ((hmo.rd hS).mapq_r)) rfl rfl ?_
      rw [hgm]
      simp only [Option.getD_some, Option.isSome_some]
      repeat (first | (refine G_id ?_; first | refine G_nil ?_ | refine G_plain rfl rfl ?_ | refine G_no rfl rfl rfl rfl rfl rfl ?_) | (refine X_id ?_; first | refine X_yl (Yl_move rfl rfl) rfl rfl ?_ | refine X_yl (Yl_assign rfl rfl) rfl rfl ?_ | refine X_yl (Yl_extract rfl rfl) rfl rfl ?_ | refine X_yl (Yl_pick_f rfl rfl rfl) rfl rfl ?_ | refine X_yl (Yl_not_t rfl rfl) rfl rfl ?_ | refine X_yl (Yl_add rfl rfl rfl (w64 (by omega) (by omega))) rfl rfl ?_ | refine X_store rfl rfl rfl rfl hS (fun _ hS _ => ?_) | refine X_alloc rfl rfl rfl hS (fun _ _ hS _ => ?_)) | (refine C_id ?_; first | refine C_seq ?_ | refine C_region ?_ | refine C_skip ?_ | refine C_cond_f rfl ?_) | (refine E_id ?_; first | refine E_code ?_ | refine E_blk_n ?_))
      exact E_round (z := i) (i + 1) ⟨rfl, rfl, rfl, rfl, trivial⟩ ⟨by omega, hf, hS.drops⟩ (by omega)
  · obtain rfl : i = n := by omega
    rw [Nat.sub_self] at hf
    simp only [freeFrom] at hf
    rw [hf]
    repeat (first | (refine G_id ?_; first | refine G_nil ?_ | refine G_plain rfl rfl ?_) | (refine X_id ?_; first | refine X_yl (Yl_assign rfl rfl) rfl rfl ?_ | refine X_yl (Yl_lss_f rfl rfl rfl (by omega)) rfl rfl ?_) | (refine C_id ?_; first | refine C_seq ?_ | refine C_region ?_ | refine C_ret ?_ | refine C_exit ?_ | refine C_cond_f rfl ?_) | (refine E_id ?_; first | refine E_code ?_ | refine E_then_exit ?_ | refine E_blk_same ?_ | refine E_ret2 rfl (Rv_tmp rfl) (Rv_tmp rfl) (Ret.mk ?_)))
    exact ⟨rfl, hS⟩
theorem format_twice (lp p j m n nb : Nat) (dat : List (List UInt8)) (rd fs : List Int) (W : World) (hq : Rd W (qlog lp p j m dat)) (hd : dat.length = 1 + n + nb) (h1 : 1 ≤ n) (h4 : n ≤ 400) (hnb : 1 ≤ nb) (h0 : dat.getD 0 [] = tfrontB rd fs n) :
    Calls Tryz.prog 11 #[.pointer (some ⟨lp, 0, none⟩), .int .i64 (n : Nat)] W (Ret fun v w => v = .tuple #[.pointer none, .int .i64 8] ∧ St W noF [] w) := by
  have hqo := hq.ro
  have hS := St.start W
  have hrd := fun w h => qread_ lp p j m dat 0 w h (by omega)
  rw [h0] at hrd
  have hl : (tfrontB rd fs n).length = 64 := fullB_length _
  have heq := fun w a c p h1 h2 => equal_ a (some ⟨p, 0, none⟩) 64 64 c 64 (tfrontB rd fs n) zero64 w h1 h2 hl zero64_length
  rw [decide_eq_false (tfrontB_ne rd fs n)] at heq
  refine calls_C Tryz.func11 rfl Tryz.ntmps11 rfl ?_
  repeat (first | (refine G_id ?_; first | refine G_nil ?_ | refine G_plain rfl rfl ?_) | (refine X_id ?_; first | refine X_yl (Yl_move rfl rfl) rfl rfl ?_ | refine X_yl (Yl_assign rfl rfl) rfl rfl ?_ | refine X_yl (Yl_eqlNil_some rfl rfl rfl) rfl rfl ?_) | (refine C_id ?_; first | refine C_seq ?_ | refine C_region ?_ | refine C_block ?_ | refine C_cond_f rfl ?_) | (refine E_id ?_; first | refine E_code ?_))
  refine X_callq _ rfl rfl rfl rfl rfl hS (may_ lp p j m n dat _ (hqo.rd hS) h1 h4 (by omega)) ?_
  rintro _ w rfl hS
  repeat (first | (refine G_id ?_; first | refine G_nil ?_ | refine G_plain rfl rfl ?_) | (refine X_id ?_; first | refine X_yl (Yl_move rfl rfl) rfl rfl ?_ | refine X_yl (Yl_assign rfl rfl) rfl rfl ?_ | refine X_yl (Yl_not_t rfl rfl) rfl rfl ?_) | (refine C_id ?_; first | refine C_seq ?_ | refine C_region ?_ | refine C_skip ?_ | refine C_cond_f rfl ?_) | (refine E_id ?_; first | refine E_code ?_ | refine E_blk_n ?_))
  refine X_callg _ rfl rfl rfl rfl rfl (hrd _ (hqo.rd hS)) ?_
  rintro _ w ⟨a, c, rfl, hc, hS'⟩
  replace hS := hS.plus hS'
  clear hS'
  repeat (first | (refine G_id ?_; first | refine G_nil ?_ | refine G_plain rfl rfl ?_) | (refine X_id ?_; first | refine X_yl (Yl_move rfl rfl) rfl rfl ?_ | refine X_yl (Yl_assign rfl rfl) rfl rfl ?_ | refine X_yl (Yl_extract rfl rfl) rfl rfl ?_ | refine X_yl (Yl_neq_f rfl rfl rfl (by omega)) rfl rfl ?_) | (refine C_id ?_; first | refine C_seq ?_ | refine C_region ?_ | refine C_skip ?_ | refine C_cond_f rfl ?_) | (refine E_id ?_; first | refine E_code ?_))
  refine X_callg _ rfl rfl rfl rfl rfl (filled_ none 0 [] _ (Rd_nil _ _)) ?_
  rintro _ w ⟨q, rfl, hS'⟩
  replace hS := hS.plus hS'
  clear hS'
  rw [fullB_nil] at hS
  repeat (first | (refine G_id ?_; first | refine G_nil ?_ | refine G_plain rfl rfl ?_) | (refine X_id ?_; first | (refine X_callg 39 rfl rfl rfl rfl rfl (heq _ a c q (hS.rd (by simp)) (hS.rd (by simp))) ?_; rintro _ _ ⟨rfl, rfl⟩) | refine X_yl (Yl_assign rfl rfl) rfl rfl ?_ | refine X_yl (Yl_not_f rfl rfl) rfl rfl ?_) | (refine C_id ?_; first | refine C_seq ?_ | refine C_region ?_ | refine C_ret ?_ | refine C_cond_t rfl ?_) | (refine E_id ?_; first | refine E_code ?_ | refine E_then_ret ?_ | refine E_ret2 rfl (Rv_tmp rfl) (Rv_tmp rfl) (Ret.mk ?_)))
  exact ⟨rfl, hS.drops⟩
end
end Cr
namespace Cr
open Go Go.Proofs
set_option maxRecDepth 100000
set_option maxHeartbeats 16000000
attribute [local irreducible] Calls

theorem Yl_neqBool7 {P : Program} {o : Oper} {σ : Env} {w : World} {t ty : TypeId} {x y : Operand} {a b : Bool} (ho : o.op = .binOp .neq t x y ty) (hx : ev σ x = some (.bool a)) (hy : ev σ y = some (.bool b)) [h : Und P t .bool] : Yl P o σ w (.bool (!(a == b))) := ⟨fun N ds f ha => by
  have h2 := run_neq_bool (P := P) w t a b h.und
  simp [execOp, ho, ha.eval hx, ha.eval hy, eqGuard, h2]⟩
theorem of06_ (s : StatM) (W : World) : Calls Tryz.prog 68 #[.agg (StatM.cells s).toArray] W (Ret fun v w => v = .agg (StatM.cells s).toArray ∧ St W noF [] w) := by
  have hS := St.start W
  refine calls_C Tryz.func68 rfl Tryz.ntmps68 rfl ?_
  repeat (first | (refine G_id ?_; first | refine G_nil ?_ | refine G_plain rfl rfl ?_) | (refine X_id ?_; first | refine X_yl (Yl_fieldAddr0 rfl rfl rfl) rfl rfl ?_ | refine X_yl (Yl_build rfl rfl rfl) rfl rfl ?_ | refine X_yl (Yl_load rfl rfl hS.cell) rfl rfl ?_ | refine X_store rfl rfl rfl rfl hS (fun _ hS _ => ?_) | refine X_box rfl rfl rfl rfl hS (fun _ _ hS _ => ?_) | refine X_alloc rfl rfl rfl hS (fun _ _ hS _ => ?_)) | (refine C_id ?_; first | refine C_seq ?_ | refine C_region ?_ | refine C_ret ?_) | (refine E_id ?_; first | refine E_code ?_ | refine E_ret1 rfl (by first | exact Rv_tmp rfl | exact Rv_cell rfl (run_load1 hS.cell) | exact Rv_cell rfl (run_loadN hS.cellsN)) (Ret.mk ?_)))
  exact ⟨rfl, hS.drops⟩
theorem of07_ (x : Nd) (a : Option Addr) (c : Nat) (W : World) : Calls Tryz.prog 34 #[.agg (ndV x a c).toArray] W (Ret fun v w => v = .agg (ndV x a c).toArray ∧ St W noF [] w) := by
  have hS := St.start W
  refine calls_C Tryz.func34 rfl Tryz.ntmps34 rfl ?_
  repeat (first | (refine G_id ?_; first | refine G_nil ?_ | refine G_plain rfl rfl ?_) | (refine X_id ?_; first | refine X_box rfl rfl rfl rfl hS (fun _ _ hS _ => ?_) | refine X_alloc rfl rfl rfl hS (fun _ _ hS _ => ?_)) | (refine C_id ?_; first | refine C_seq ?_ | refine C_region ?_) | (refine E_id ?_; first | refine E_code ?_))
  refine C_ord (.s 0 (.s 1 (.s 3 (.s 4 (.h 2 (.s 5 (.h 6 .nil .no)) .no))))) mixed (by kernel_rfl) rfl ?_
  have hS := hS.drew
  repeat (first | (refine X_id ?_; first | (refine X_callq 68 rfl rfl rfl rfl rfl hS (of06_ x.st _) ?_; rintro _ _ rfl hS) | refine X_store rfl rfl rfl rfl hS (fun _ hS _ => ?_)) | (refine C_id ?_; first | refine C_ret ?_) | (refine E_id ?_; first | refine E_code ?_ | refine E_ret1 rfl (by first | exact Rv_tmp rfl | exact Rv_cell rfl (run_load1 hS.cell) | exact Rv_cell rfl (run_loadN hS.cellsN)) (Ret.mk ?_)) | (refine GO_id ?_; first | refine GO_nil ?_ | refine GO_pure rfl rfl (fun _ => Yl_fieldAddr0 rfl rfl rfl) rfl rfl ?_ | refine GO_pure rfl rfl (fun _ => Yl_build rfl rfl rfl) rfl rfl ?_ | refine GO_read (fun w' => w'.cell? _ = some _) rfl rfl hS.cell (fun _ hc => Yl_load rfl rfl hc) rfl rfl ?_ | refine GO_read (fun w' => CellsN w' _ _ _) rfl rfl hS.cellsN (fun _ hc => Yl_loadN rfl rfl hc) rfl rfl ?_ | refine GO_hard rfl rfl ?_) | (refine Keep_id ?_; first | refine And.intro (by repeat (first | exact trivial | refine And.intro (.inl (by decide +kernel)) ?_ | refine And.intro (.inr (by first | assumption | exact hS.cell | exact cell_at (by assumption) | exact hS.cellI (by omega) | exact hS.cellIP (by omega) | exact hS.cellsN | exact ((hr.rd hS).cellX (by omega) hx) | exact ((hr2.rd hS).cellX (by omega) hx2) | exact hS.cellB (by omega) | exact hS.cellBA (by omega) | exact (hb.rd hS).cellB' (by omega) | exact (hb2.rd hS).cellB' (by omega) | exact (hg.rd hS).cellI (by omega) | exact (hg2.rd hS).cellI (by omega) | exact ((hr.rd hS).cellF (by first | omega | (dsimp only; omega)) hx) | exact ((hr2.rd hS).cellF (by first | omega | (dsimp only; omega)) hx2) | exact hS.cellO 0 (by omega) | exact hS.cellO 1 (by omega) | exact hS.cellIA (by omega) | exact (hg.rd hS).cellIA (by omega) | exact (hg2.rd hS).cellIA (by omega) | exact cell_at (hc.rd hS).pts | exact hb.rd hS | exact (hr.rd hS).cellsF7 (by first | omega | (dsimp only; omega)) hst4 rfl | exact (hr2.rd hS).cellsF7 (by first | omega | (dsimp only; omega)) hst4 rfl | exact hS.cellO 4 (by omega) | exact hS.cellO 5 (by omega) | exact hS.cellO 6 (by omega) | exact hS.cellO 7 (by omega) | exact hS.cellO 8 (by omega) | exact hS.cellO 9 (by omega) | exact hS.cellO 10 (by omega) | exact hS.cellO 11 (by omega) | exact hS.cellO 12 (by omega) | exact hS.cellO 13 (by omega) | exact hS.cellO 2 (by omega) | exact hS.cellO 3 (by omega))) ?_)) ?_))
  exact ⟨rfl, hS.drops⟩
theorem nil51 (rd fs : List Int) : openM rd fs (newDisk 51) 24 = ⟨0, newDisk 51, 0, false⟩ := by kernel_rfl
def rn0 : RN := ⟨false, ⟨⟨0, 0, 0, 0⟩, []⟩, none, 0⟩
theorem fresh7_ (rd fs : List Int) (W : World) (hG : Gl W noF rd fs) : Calls Tryz.prog 4 #[] W (Ret fun v w => ∃ (q lp tp p : Nat) (z : RZ) (dp : Nat), v = .tuple #[.pointer (some ⟨dp, 0, none⟩), .pointer (some ⟨lp, 0, none⟩), .pointer (some ⟨tp, 0, none⟩), .pointer (some ⟨p, 0, none⟩)] ∧ z.L = List.replicate 5 rn0 ∧ 5 ≤ z.nc ∧ 5 ≤ z.ic ∧ St W noF (itab rd fs tp lp q 24 1 5 20 (List.replicate 5 none) :: z.res p 5 20) w) := by
  have hS := St.start W
  refine calls_C Tryz.func4 rfl Tryz.ntmps4 rfl ?_
  repeat (first | (refine G_id ?_; first | refine G_nil ?_ | refine G_plain rfl rfl ?_) | (refine X_id ?_; first | refine X_yl (Yl_assign rfl rfl) rfl rfl ?_) | (refine C_id ?_; first | refine C_seq ?_ | refine C_region ?_) | (refine E_id ?_; first | refine E_code ?_))
  refine X_callg _ rfl rfl rfl rfl rfl (new_ 51 _ (by omega) (by omega)) ?_
  rintro _ w ⟨q, rfl, hS'⟩
  replace hS := hS.plus hS'
  clear hS'
  repeat (first | (refine G_id ?_; first | refine G_nil ?_ | refine G_plain rfl rfl ?_) | (refine X_id ?_; first | refine X_yl (Yl_move rfl rfl) rfl rfl ?_ | refine X_yl (Yl_assign rfl rfl) rfl rfl ?_ | refine X_yl (Yl_extract rfl rfl) rfl rfl ?_) | (refine C_id ?_; first | refine C_seq ?_ | refine C_region ?_) | (refine E_id ?_; first | refine E_code ?_))
  have hopen := open_ q (newDisk 51) 24 rd fs
  rw [nil51] at hopen
  obtain ⟨_, hc, hr, hw, hbk⟩ := hS.call [true]
  refine X_callg _ rfl rfl rfl rfl rfl (hopen _ _ (hG.mono hw) (by simp [newDisk]) hc) ?_
  rintro _ w (⟨h, _⟩ | ⟨_, lp, rfl, hS⟩)
  · exact absurd rfl h
  replace hS := hbk hS
  clear hc hr hw hbk hopen
  replace hS : St W noF [qlog lp q 24 0 (List.replicate 26 zero64)] w := St.newLog (k := 26) (by omega) hS
  repeat (first | (refine G_id ?_; first | refine G_nil ?_ | refine G_plain rfl rfl ?_) | (refine X_id ?_; first | refine X_yl (Yl_move rfl rfl) rfl rfl ?_ | refine X_yl (Yl_assign rfl rfl) rfl rfl ?_ | refine X_yl (Yl_extract rfl rfl) rfl rfl ?_) | (refine C_id ?_; first | refine C_seq ?_ | refine C_region ?_) | (refine E_id ?_; first | refine E_code ?_))
  obtain ⟨_, hc, hr, hw, hbk⟩ := hS.call [true]
  refine X_callg _ rfl rfl rfl rfl rfl (format_ lp q 24 0 5 20 _ rd fs _ _ (hG.mono hw) (by simp) (by omega) (by omega) (by omega) (by omega) (by simp [last]) (zeros_get (by omega)) (fun i hi => zeros_get (by omega)) hc) ?_
  rintro _ w ⟨tp, rfl, hS⟩
  replace hS := hbk hS
  clear hc hr hw hbk
  repeat (first | (refine G_id ?_; first | refine G_nil ?_ | refine G_plain rfl rfl ?_ | refine G_yes rfl rfl rfl rfl ?_) | (refine X_id ?_; first | refine X_yl (Yl_move rfl rfl) rfl rfl ?_ | refine X_yl (Yl_assign rfl rfl) rfl rfl ?_ | refine X_yl (Yl_extract rfl rfl) rfl rfl ?_ | refine X_yl (Yl_pick_f rfl rfl rfl) rfl rfl ?_ | refine X_yl (Yl_neq_f rfl rfl rfl (by omega)) rfl rfl ?_ | refine X_yl (Yl_eqlNil_some rfl rfl rfl) rfl rfl ?_) | (refine C_id ?_; first | refine C_seq ?_ | refine C_region ?_ | refine C_skip ?_ | refine C_cond_f rfl ?_) | (refine E_id ?_; first | refine E_code ?_))
  have hz1 : madeCells (Value.agg #[.int .i64 0, .int .i64 0, .int .i64 0, .int .i64 0, .slice none 0 0]).cells ((5 : Int).toNat * 5) = ((List.replicate 5 rn0).flatMap RN.cells).toArray := by kernel_rfl
  have hz2 : madeCells (Value.bool false).cells ((5 : Int).toNat * 1) = ((List.replicate 5 rn0).map RN.isV).toArray := by kernel_rfl
  refine C_ord (.s 0 (.s 1 (.s 2 (.s 7 (.s 8 (.s 9 (.h 3 (.h 4 (.s 5 (.h 6 (.s 10 .nil) .no)) .no) (.h 4 (.h 3 (.s 5 (.h 6 (.s 10 .nil) .no)) .no) .no)))))))) mixed (by kernel_rfl) rfl ?_
  have hS := hS.drew
  repeat' (first | (refine X_make (T := 62) (c := 5) (l := 5) rfl rfl rfl (by omega) (by omega) (by omega) (by omega) rfl rfl hS (fun bN _ hS _ => ?_)) | (refine X_make (T := 4) (c := 5) (l := 5) rfl rfl rfl (by omega) (by omega) (by omega) (by omega) rfl rfl hS (fun bI _ hS _ => ?_)) | refine GO_alt ?_ ?_ | (refine X_id ?_; first | refine X_box rfl rfl rfl rfl hS (fun _ _ hS _ => ?_)) | (refine C_id ?_; first | refine C_ret ?_) | (refine E_id ?_; first | refine E_code ?_ | refine E_ret4 rfl (Rv_tmp rfl) (Rv_tmp rfl) (Rv_tmp rfl) (Rv_tmp rfl) (Ret.mk ?_)) | (refine GO_id ?_; first | refine GO_nil ?_ | refine GO_pure rfl rfl (fun _ => Yl_move rfl rfl) rfl rfl ?_ | refine GO_pure rfl rfl (fun _ => Yl_assign rfl rfl) rfl rfl ?_ | refine GO_pure rfl rfl (fun _ => Yl_build rfl rfl rfl) rfl rfl ?_ | refine GO_hard rfl rfl ?_) | (refine Keep_id ?_; first | refine And.intro (by repeat (first | exact trivial | refine And.intro (.inl (by decide +kernel)) ?_ | refine And.intro (.inr (by first | assumption | exact hS.cell | exact cell_at (by assumption) | exact hS.cellI (by omega) | exact hS.cellIP (by omega) | exact hS.cellsN | exact ((hr.rd hS).cellX (by omega) hx) | exact ((hr2.rd hS).cellX (by omega) hx2) | exact hS.cellB (by omega) | exact hS.cellBA (by omega) | exact (hb.rd hS).cellB' (by omega) | exact (hb2.rd hS).cellB' (by omega) | exact (hg.rd hS).cellI (by omega) | exact (hg2.rd hS).cellI (by omega) | exact ((hr.rd hS).cellF (by first | omega | (dsimp only; omega)) hx) | exact ((hr2.rd hS).cellF (by first | omega | (dsimp only; omega)) hx2) | exact hS.cellO 0 (by omega) | exact hS.cellO 1 (by omega) | exact hS.cellIA (by omega) | exact (hg.rd hS).cellIA (by omega) | exact (hg2.rd hS).cellIA (by omega) | exact cell_at (hc.rd hS).pts | exact hb.rd hS | exact (hr.rd hS).cellsF7 (by first | omega | (dsimp only; omega)) hst4 rfl | exact (hr2.rd hS).cellsF7 (by first | omega | (dsimp only; omega)) hst4 rfl | exact hS.cellO 4 (by omega) | exact hS.cellO 5 (by omega) | exact hS.cellO 6 (by omega) | exact hS.cellO 7 (by omega) | exact hS.cellO 8 (by omega) | exact hS.cellO 9 (by omega) | exact hS.cellO 10 (by omega) | exact hS.cellO 11 (by omega) | exact hS.cellO 12 (by omega) | exact hS.cellO 13 (by omega) | exact hS.cellO 2 (by omega) | exact hS.cellO 3 (by omega))) ?_)) ?_))
  all_goals
    rename_i p _ _
    refine ⟨q, lp, tp, p, ⟨some ⟨bN, 0, none⟩, 5, some ⟨bI, 0, none⟩, 5, List.replicate 5 rn0, []⟩, q, rfl, rfl, Nat.le_refl _, Nat.le_refl _, ?_⟩
    rw [hz1, hz2] at hS
    simp only [show Int.toNat 5 = 5 from rfl] at hS
    have h := (hS.bagNil).took (out := [pts bN (.cells ((List.replicate 5 rn0).flatMap RN.cells).toArray 62), pts bI (.cells ((List.replicate 5 rn0).map RN.isV).toArray 4), rtAt p (some ⟨bN, 0, none⟩) 5 5 (some ⟨bI, 0, none⟩) 5 20, bag [], itab rd fs tp lp q 24 (0 + 1) 5 20 (List.replicate 5 none)])
    have h2 := h.head (own_of_pts (e := 5) (c := 5) (cs := (List.replicate 5 rn0).flatMap RN.cells) rfl (by simp [maxLen]) rfl)
    have h3 := h2.second (own_of_pts (e := 1) (c := 5) (cs := (List.replicate 5 rn0).map RN.isV) rfl (by simp [maxLen]) rfl)
    exact h3.pick [4, 0, 0, 0, 0]
/-- How many of the first nodes are used; the lowest free one of them (below 0: there is none). -/
def cntT (T : Tb) : Nat → Nat
  | 0 => 0
  | i + 1 => if (T.getD i none).isSome then cntT T i + 1 else cntT T i
def lowT (T : Tb) : Nat → Int
  | 0 => -1
  | i + 1 => if (T.getD i none).isSome then lowT T i else if lowT T i < 0 then (i : Nat) else lowT T i
theorem usedTo (T : Tb) (i : Nat) : ((List.range i).filter fun k => (T.getD k none).isSome).length = cntT T i := by
  induction i with
  | zero => rfl
  | succ i ih =>
    rw [List.range_succ, List.filter_append, List.length_append, ih]
    by_cases h : (T.getD i none).isSome = true
    · simp only [List.filter_cons, List.filter_nil, cntT, h, if_true, List.length_cons, List.length_nil]
    · simp only [List.filter_cons, List.filter_nil, cntT, h, Bool.false_eq_true, if_false, List.length_nil, Nat.add_zero]
theorem used_len (T : Tb) : (usedL T).length = cntT T T.length := by unfold usedL; rw [List.length_map, usedTo]
theorem cntT_le (T : Tb) (i : Nat) : cntT T i ≤ i := by
  induction i with
  | zero => exact Nat.le_refl _
  | succ i ih => unfold cntT; split <;> omega
theorem used_at {T : Tb} {i : Nat} (hi : i < T.length) (h : (T.getD i none).isSome = true) : (usedL T)[cntT T i]? = some (i : Nat) := by
  unfold usedL
  have e : List.range T.length = List.range i ++ (i :: (List.range' (i + 1) (T.length - (i + 1)))) := by
    rw [List.range_eq_range', List.range_eq_range']
    have h1 : List.range' 0 T.length = List.range' 0 i ++ List.range' (0 + i) (T.length - i) := by
      rw [List.range'_append_1]; congr 1; omega
    rw [h1, Nat.zero_add, show T.length - i = (T.length - (i + 1)) + 1 by omega, List.range'_succ]
  rw [e, List.filter_append, List.map_append, List.getElem?_append_right (by rw [List.length_map, usedTo]; exact Nat.le_refl _), List.length_map, usedTo, Nat.sub_self]
  rw [List.filter_cons_of_pos (by simpa using h)]
  rfl
theorem cnt_lt {T : Tb} {i : Nat} (hi : i < T.length) (h : (T.getD i none).isSome = true) : cntT T i < (usedL T).length := (List.getElem?_eq_some_iff.1 (used_at hi h)).1
theorem low_free (T : Tb) : ∀ (k i : Nat), i + k = T.length → (if lowT T i < 0 then freeFrom T k i else (lowT T i, 0)) = (if lowT T T.length < 0 then (0, 6) else (lowT T T.length, 0))
  | 0, i, h => by
    obtain rfl : i = T.length := by omega
    rfl
  | k + 1, i, h => by
    rw [← low_free T k (i + 1) (by omega)]
    simp only [freeFrom, lowT]
    by_cases hs : (T.getD i none).isSome = true
    · simp only [hs, if_true]
    · simp only [hs, Bool.false_eq_true, if_false]
      by_cases hl : lowT T i < 0
      · simp only [hl, if_true]
        rw [if_neg (by omega)]
      · simp only [hl, if_false]
theorem free_low (T : Tb) : freeT T = (if lowT T T.length < 0 then (0, 6) else (lowT T T.length, 0)) := by
  rw [← low_free T T.length 0 (by omega)]
  rfl
end Cr
namespace Cr
open Go Go.Proofs
set_option maxRecDepth 100000
set_option maxHeartbeats 16000000
attribute [local irreducible] Calls

theorem tells7_ {rd fs : List Int} {tp lp q j m n nb : Nat} {T : Tb} {r : Nat} {A : AV} {dat : List (List UInt8)} (p : Nat) (L : List RN) (na : Option Addr) (nc : Nat) (ia : Option Addr) (ic : Nat) (W : World) (hI : ItabRd W rd fs tp lp q j m n nb T r A dat) (hR : RtRd W p n nb L na nc ia ic) (hT : rtb L = T) :
    Calls Tryz.prog 9 #[.pointer (some ⟨tp, 0, none⟩), .pointer (some ⟨p, 0, none⟩)] W (Ret fun v w => v = .bool true ∧ St W noF [] w) := by
  have hc := hR.t.ro
  have hnr := hR.nr.ro
  have hir := hR.ir.ro
  have hdr := fun x hx => (hR.dr x hx).ro
  have hlen := hR.len
  have hn4 := hR.n4
  have htl := hI.ok.tlen
  have hIa : ∀ (w : World) (rs : List Res), St W noF rs w → ItabRd w rd fs tp lp q j m n nb T r A dat := fun w rs h => ⟨hI.ok, hI.t.ro.rd h, hI.mp.ro.rd h, hI.bg.ro.rd h, hI.q.ro.rd h⟩
  have hRa : ∀ (w : World) (rs : List Res), St W noF rs w → RtRd w p n nb L na nc ia ic := fun w rs h => ⟨hc.rd h, hnr.rd h, hir.rd h, fun x hx => (hdr x hx).rd h, hR.len, hR.small, hR.n4, hR.nb4, hR.ncl, hR.icl⟩
  have hrr := fun W h => rroom_ p n nb L na nc ia ic W h
  rw [hT] at hrr
  have hS := St.start W
  refine calls_C Tryz.func9 rfl Tryz.ntmps9 rfl ?_
  repeat (first | (refine G_id ?_; first | refine G_nil ?_ | refine G_plain rfl rfl ?_) | (refine X_id ?_; first | refine X_yl (Yl_assign rfl rfl) rfl rfl ?_) | (refine C_id ?_; first | refine C_seq ?_ | refine C_region ?_) | (refine E_id ?_; first | refine E_code ?_))
  refine C_ord (.s 0 (.s 2 (.s 3 (.s 4 (.s 5 (.s 6 (.h 1 (.s 7 (.s 8 (.s 9 (.s 11 (.h 10 (.h 12 (.s 13 (.s 14 .nil)) .no) .no))))) .no))))))) mixed (by kernel_rfl) rfl ?_
  have hS := hS.drew
  repeat (first | (refine GO_id ?_; first | refine GO_pure rfl rfl (fun _ => Yl_move rfl rfl) rfl rfl ?_ | refine GO_pure rfl rfl (fun _ => Yl_nilCheck rfl rfl) rfl rfl ?_ | refine GO_pure rfl rfl (fun _ => Yl_fieldAddr0 rfl rfl rfl) rfl rfl ?_ | refine GO_pure rfl rfl (fun _ => Yl_len rfl rfl) rfl rfl ?_ | refine GO_hard rfl rfl ?_ | refine GO_read (fun w' => w'.cell? _ = some _) rfl rfl (cell_at (hc.rd hS).pts) (fun _ hc => Yl_load rfl rfl hc) rfl rfl ?_))
  refine X_callg _ rfl rfl rfl rfl rfl (nodes_ _ (hIa _ _ hS)) ?_
  rintro _ w ⟨rfl, rfl⟩
  repeat (first | (refine GO_id ?_; first | refine GO_pure rfl rfl (fun _ => Yl_move rfl rfl) rfl rfl ?_ | refine GO_pure rfl rfl (fun _ => Yl_neq_f rfl rfl rfl (by omega)) rfl rfl ?_ | refine GO_yes rfl rfl rfl rfl (fun _ => Yl_move rfl rfl) rfl rfl ?_ | refine GO_hard_yes rfl rfl rfl rfl ?_) | (refine Keep_id ?_; first | refine And.intro (by repeat (first | exact trivial | refine And.intro (.inl (by decide +kernel)) ?_ | refine And.intro (.inr (by first | assumption | exact hS.cell | exact cell_at (by assumption) | exact hS.cellI (by omega) | exact hS.cellIP (by omega) | exact hS.cellsN | exact ((hr.rd hS).cellX (by omega) hx) | exact ((hr2.rd hS).cellX (by omega) hx2) | exact hS.cellB (by omega) | exact hS.cellBA (by omega) | exact (hb.rd hS).cellB' (by omega) | exact (hb2.rd hS).cellB' (by omega) | exact (hg.rd hS).cellI (by omega) | exact (hg2.rd hS).cellI (by omega) | exact ((hr.rd hS).cellF (by first | omega | (dsimp only; omega)) hx) | exact ((hr2.rd hS).cellF (by first | omega | (dsimp only; omega)) hx2) | exact hS.cellO 0 (by omega) | exact hS.cellO 1 (by omega) | exact hS.cellIA (by omega) | exact (hg.rd hS).cellIA (by omega) | exact (hg2.rd hS).cellIA (by omega) | exact cell_at (hc.rd hS).pts | exact hb.rd hS | exact (hr.rd hS).cellsF7 (by first | omega | (dsimp only; omega)) hst4 rfl | exact (hr2.rd hS).cellsF7 (by first | omega | (dsimp only; omega)) hst4 rfl | exact hS.cellO 4 (by omega) | exact hS.cellO 5 (by omega) | exact hS.cellO 6 (by omega) | exact hS.cellO 7 (by omega) | exact hS.cellO 8 (by omega) | exact hS.cellO 9 (by omega) | exact hS.cellO 10 (by omega) | exact hS.cellO 11 (by omega) | exact hS.cellO 12 (by omega) | exact hS.cellO 13 (by omega) | exact hS.cellO 2 (by omega) | exact hS.cellO 3 (by omega))) ?_)) ?_))
  refine X_callq _ rfl rfl rfl rfl rfl hS (room_ _ (hIa _ _ hS)) ?_
  rintro _ w rfl hS
  repeat (first | (refine GO_id ?_; first | refine GO_hard_yes rfl rfl rfl rfl ?_) | (refine Keep_id ?_; first | refine And.intro (by repeat (first | exact trivial | refine And.intro (.inl (by decide +kernel)) ?_ | refine And.intro (.inr (by first | assumption | exact hS.cell | exact cell_at (by assumption) | exact hS.cellI (by omega) | exact hS.cellIP (by omega) | exact hS.cellsN | exact ((hr.rd hS).cellX (by omega) hx) | exact ((hr2.rd hS).cellX (by omega) hx2) | exact hS.cellB (by omega) | exact hS.cellBA (by omega) | exact (hb.rd hS).cellB' (by omega) | exact (hb2.rd hS).cellB' (by omega) | exact (hg.rd hS).cellI (by omega) | exact (hg2.rd hS).cellI (by omega) | exact ((hr.rd hS).cellF (by first | omega | (dsimp only; omega)) hx) | exact ((hr2.rd hS).cellF (by first | omega | (dsimp only; omega)) hx2) | exact hS.cellO 0 (by omega) | exact hS.cellO 1 (by omega) | exact hS.cellIA (by omega) | exact (hg.rd hS).cellIA (by omega) | exact (hg2.rd hS).cellIA (by omega) | exact cell_at (hc.rd hS).pts | exact hb.rd hS | exact (hr.rd hS).cellsF7 (by first | omega | (dsimp only; omega)) hst4 rfl | exact (hr2.rd hS).cellsF7 (by first | omega | (dsimp only; omega)) hst4 rfl | exact hS.cellO 4 (by omega) | exact hS.cellO 5 (by omega) | exact hS.cellO 6 (by omega) | exact hS.cellO 7 (by omega) | exact hS.cellO 8 (by omega) | exact hS.cellO 9 (by omega) | exact hS.cellO 10 (by omega) | exact hS.cellO 11 (by omega) | exact hS.cellO 12 (by omega) | exact hS.cellO 13 (by omega) | exact hS.cellO 2 (by omega) | exact hS.cellO 3 (by omega))) ?_)) ?_))
  refine X_callq _ rfl rfl rfl rfl rfl hS (hrr _ (hRa _ _ hS)) ?_
  rintro _ w rfl hS
  repeat (first | (refine G_id ?_; first | refine G_plain rfl rfl ?_) | (refine X_id ?_; first | refine X_yl (Yl_move rfl rfl) rfl rfl ?_) | (refine C_id ?_; first | refine C_seq ?_ | refine C_region ?_ | refine C_skip ?_ | refine C_cond_f rfl ?_) | (refine E_id ?_; first | refine E_code ?_) | (refine GO_id ?_; first | refine GO_nil ?_ | refine GO_pure rfl rfl (fun _ => Yl_pick_f rfl rfl rfl) rfl rfl ?_ | refine GO_yes rfl rfl rfl rfl (fun _ => Yl_neq_f rfl rfl rfl (by omega)) rfl rfl ?_) | (refine Keep_id ?_; first | refine And.intro (by repeat (first | exact trivial | refine And.intro (.inl (by decide +kernel)) ?_ | refine And.intro (.inr (by first | assumption | exact hS.cell | exact cell_at (by assumption) | exact hS.cellI (by omega) | exact hS.cellIP (by omega) | exact hS.cellsN | exact ((hr.rd hS).cellX (by omega) hx) | exact ((hr2.rd hS).cellX (by omega) hx2) | exact hS.cellB (by omega) | exact hS.cellBA (by omega) | exact (hb.rd hS).cellB' (by omega) | exact (hb2.rd hS).cellB' (by omega) | exact (hg.rd hS).cellI (by omega) | exact (hg2.rd hS).cellI (by omega) | exact ((hr.rd hS).cellF (by first | omega | (dsimp only; omega)) hx) | exact ((hr2.rd hS).cellF (by first | omega | (dsimp only; omega)) hx2) | exact hS.cellO 0 (by omega) | exact hS.cellO 1 (by omega) | exact hS.cellIA (by omega) | exact (hg.rd hS).cellIA (by omega) | exact (hg2.rd hS).cellIA (by omega) | exact cell_at (hc.rd hS).pts | exact hb.rd hS | exact (hr.rd hS).cellsF7 (by first | omega | (dsimp only; omega)) hst4 rfl | exact (hr2.rd hS).cellsF7 (by first | omega | (dsimp only; omega)) hst4 rfl | exact hS.cellO 4 (by omega) | exact hS.cellO 5 (by omega) | exact hS.cellO 6 (by omega) | exact hS.cellO 7 (by omega) | exact hS.cellO 8 (by omega) | exact hS.cellO 9 (by omega) | exact hS.cellO 10 (by omega) | exact hS.cellO 11 (by omega) | exact hS.cellO 12 (by omega) | exact hS.cellO 13 (by omega) | exact hS.cellO 2 (by omega) | exact hS.cellO 3 (by omega))) ?_)) ?_))
  refine X_callg _ rfl rfl rfl rfl rfl (used_ _ (hIa _ _ hS)) ?_
  rintro _ w ⟨ua, uc, rfl, huc, hS'⟩
  replace hS := hS.plus hS'
  clear hS'
  repeat (first | (refine G_id ?_; first | refine G_nil ?_ | refine G_plain rfl rfl ?_) | (refine X_id ?_; first | refine X_yl (Yl_assign rfl rfl) rfl rfl ?_) | (refine C_id ?_; first | refine C_seq ?_ | refine C_region ?_ | refine C_block ?_) | (refine E_id ?_; first | refine E_code ?_))
  refine C_joinB (α := Unit) (fun _ => [(0, .pointer (some ⟨tp, 0, none⟩)), (5, .slice ua (usedL T).length uc), (6, .int .i64 (cntT T n : Nat)), (7, .int .i64 (lowT T n))]) (fun _ w => St W noF [] w) ?_ ?_
  · refine C_loop (α := Nat) (fun i => [(0, .pointer (some ⟨tp, 0, none⟩)), (1, .pointer (some ⟨p, 0, none⟩)), (5, .slice ua (usedL T).length uc), (6, .int .i64 (cntT T i : Nat)), (7, .int .i64 (lowT T i)), (8, .int .i64 (i : Nat))])
      (fun i w => i ≤ n ∧ St W noF [own 3 1 ua uc (ints .i64 (usedL T))] w) (fun i => n - i) 0 ⟨rfl, rfl, rfl, rfl, rfl, rfl, trivial⟩ ⟨Nat.zero_le _, hS.took⟩ ?_
    clear hS
    rintro i w ⟨hi, hS⟩
    by_cases hlt : i < n
    · have hx0 : L[i]? = some L[i] := List.getElem?_eq_getElem (by omega)
      generalize L[i] = x at hx0
      have hxm := List.mem_of_getElem? hx0
      have htb : T.getD i none = x.tb := by rw [← hT, List.getD_eq_getElem?_getD, rtb, List.getElem?_map, hx0]; rfl
      have hat : atT T (i : Nat) = x.tb := by unfold atT; rw [if_pos (by omega), Int.toNat_natCast, htb]
      have hr := hir
      have hx : (L.map RN.isV)[i]? = some (.bool x.is_) := by simp [hx0]
      obtain ⟨yb, yo, hya⟩ := (hir.rd hS).base (by intro e; rw [e] at hx; simp at hx)
      have hst4 : ((L.flatMap RN.cells).drop (i * 5)).take 5 = ndV x.nd x.a x.c := flatMap_seg (f := RN.cells) (n := 5) (fun _ _ => rfl) hx0
      obtain ⟨xb, xo, hxa⟩ := (hnr.rd hS).base (by intro e; rw [e] at hst4; simp at hst4)
      have hr2 := hnr
      rw [hxa] at hr2 hc
      rw [hya] at hr hc
      cases hb : x.is_ with
      | true =>
        rw [hb] at hx
        have htx : x.tb = some x.nd := by unfold RN.tb; rw [if_pos hb]
        rw [htx] at hat htb
        have hsome : (T.getD i none).isSome = true := by rw [htb]; rfl
        have hua := used_at (by omega) hsome
        have hcl := cnt_lt (by omega) hsome
        have hcle := cntT_le T i
        have hcn : cntT T (i + 1) = cntT T i + 1 := by rw [cntT, if_pos hsome]
        have hln : lowT T (i + 1) = lowT T i := by rw [lowT, if_pos hsome]
        have hsm := fun W ga gc h1 h2 => rsame7_ x.nd x.nd ga x.a gc x.c W h1 h2 (by have := hR.small x hxm; omega)
        simp only [decide_true] at hsm
        obtain ⟨ub, rfl⟩ := St.ownBase hS (by intro e; have := congrArg List.length e; rw [ints_length] at this; simp at this; rw [this] at hcl; simp at hcl)
        repeat (first | (refine G_id ?_; first | refine G_nil ?_ | refine G_plain rfl rfl ?_) | (refine X_id ?_; first | refine X_yl (Yl_move rfl rfl) rfl rfl ?_ | refine X_yl (Yl_nilCheck rfl rfl) rfl rfl ?_ | refine X_yl (Yl_fieldAddr0 rfl rfl rfl) rfl rfl ?_ | refine X_yl (Yl_len rfl rfl) rfl rfl ?_ | refine X_yl (Yl_lss_t rfl rfl rfl (by omega)) rfl rfl ?_ | refine X_yl (Yl_load rfl rfl (cell_at (hc.rd hS).pts)) rfl rfl ?_) | (refine C_id ?_; first | refine C_seq ?_ | refine C_region ?_ | refine C_block ?_ | refine C_skip ?_ | refine C_cond_t rfl ?_) | (refine E_id ?_; first | refine E_code ?_))
        refine X_callg _ rfl rfl rfl rfl rfl (get_some (i : Nat) x.nd hat _ (hIa _ _ hS)) ?_
        rintro _ w ⟨ga, gc, rfl, hgc, hS'⟩
        replace hS := hS.plus hS'
        clear hS'
        repeat (first | (refine G_id ?_; first | refine G_nil ?_ | refine G_plain rfl rfl ?_) | (refine X_id ?_; first | refine X_yl (Yl_move rfl rfl) rfl rfl ?_ | refine X_yl (Yl_assign rfl rfl) rfl rfl ?_ | refine X_yl (Yl_extract rfl rfl) rfl rfl ?_ | refine X_store rfl rfl rfl rfl hS (fun _ hS _ => ?_) | refine X_alloc rfl rfl rfl hS (fun _ _ hS _ => ?_)) | (refine C_id ?_; first | refine C_seq ?_) | (refine E_id ?_; first | refine E_code ?_))
        refine C_ord (.s 0 (.s 1 (.s 2 (.s 3 (.s 4 (.s 5 (.s 6 (.s 7 (.s 8 (.s 9 (.s 10 (.s 11 (.s 12 (.s 13 (.s 14 (.s 15 (.s 16 (.s 17 (.s 18 (.s 19 (.s 21 (.s 22 (.s 23 (.s 24 (.s 25 (.s 26 (.s 27 (.h 20 (.h 28 (.s 29 (.s 30 (.s 31 .nil))) .no) .no)))))))))))))))))))))))))))) mixed (by kernel_rfl) rfl ?_
        have hS := hS.drew
        repeat (first | (refine GO_id ?_; first | refine GO_pure rfl rfl (fun _ => Yl_move rfl rfl) rfl rfl ?_ | refine GO_pure rfl rfl (fun _ => Yl_nilCheck rfl rfl) rfl rfl ?_ | refine GO_pure rfl rfl (fun _ => Yl_fieldAddr0 rfl rfl rfl) rfl rfl ?_ | refine GO_pure rfl rfl (fun _ => Yl_eql_t rfl rfl rfl (by omega)) rfl rfl ?_ | refine GO_pure rfl rfl (fun _ => Yl_indexAddr rfl rfl rfl (by omega) (by omega) (by first | assumption | exact ⟨_, _, rfl⟩)) rfl rfl ?_ | refine GO_read (fun w' => w'.cell? _ = some _) rfl rfl ((hr.rd hS).cellX (by omega) hx) (fun _ hc => Yl_load rfl rfl hc) rfl rfl ?_ | refine GO_read (fun w' => w'.cell? _ = some _) rfl rfl (cell_at (hc.rd hS).pts) (fun _ hc => Yl_load rfl rfl hc) rfl rfl ?_))
        refine GO_pure rfl rfl (fun _ => Yl_neqBool7 (a := true) (b := true) rfl rfl rfl) rfl rfl ?_
        rw [show (!(true == true)) = false from rfl]
        repeat (first | (refine GO_id ?_; first | refine GO_pure rfl rfl (fun _ => Yl_move rfl rfl) rfl rfl ?_ | refine GO_yes rfl rfl rfl rfl (fun _ => Yl_move rfl rfl) rfl rfl ?_ | refine GO_yes rfl rfl rfl rfl (fun _ => Yl_nilCheck rfl rfl) rfl rfl ?_ | refine GO_yes rfl rfl rfl rfl (fun _ => Yl_fieldAddr0 rfl rfl rfl) rfl rfl ?_ | refine GO_yes rfl rfl rfl rfl (fun _ => Yl_indexAddr rfl rfl rfl (by omega) (by omega) (by first | assumption | exact ⟨_, _, rfl⟩)) rfl rfl ?_ | refine GO_yes_read (fun w' => CellsN w' _ _ _) rfl rfl rfl rfl hS.cellsN (fun _ hc => Yl_loadN rfl rfl hc) rfl rfl ?_ | refine GO_yes_read (fun w' => w'.cell? _ = some _) rfl rfl rfl rfl (cell_at (hc.rd hS).pts) (fun _ hc => Yl_load rfl rfl hc) rfl rfl ?_ | refine GO_yes_read (fun w' => w'.cell? _ = some _) rfl rfl rfl rfl ((hr.rd hS).cellX (by omega) hx) (fun _ hc => Yl_load rfl rfl hc) rfl rfl ?_))
        refine GO_yes_read (fun w' => CellsN w' _ _ _) rfl rfl rfl rfl ((hr2.rd hS).cellsF7 (by first | omega | (dsimp only; omega)) hst4 rfl) (fun _ hc => Yl_loadN rfl rfl hc) rfl rfl ?_
        repeat (first | (refine G_id ?_; first | refine G_nil ?_ | refine G_plain rfl rfl ?_ | refine G_yes rfl rfl rfl rfl ?_) | (refine X_id ?_; first | (refine X_callq 34 rfl rfl rfl rfl rfl hS (of07_ x.nd ga gc _) ?_; rintro _ _ rfl hS) | (refine X_callq 33 rfl rfl rfl rfl rfl hS (hsm _ ga gc (hS.ownRd (a := ga)) ((hdr x hxm).rd hS)) ?_; rintro _ _ rfl hS) | refine X_yl (Yl_move rfl rfl) rfl rfl ?_ | refine X_yl (Yl_nilCheck rfl rfl) rfl rfl ?_ | refine X_yl (Yl_fieldAddr0 rfl rfl rfl) rfl rfl ?_ | refine X_yl (Yl_not_t rfl rfl) rfl rfl ?_ | refine X_yl (Yl_len rfl rfl) rfl rfl ?_ | refine X_yl (Yl_geq_f rfl rfl rfl (by omega)) rfl rfl ?_ | refine X_yl (Yl_indexAddr rfl rfl rfl (by omega) (by omega) (by first | assumption | exact ⟨_, _, rfl⟩)) rfl rfl ?_ | refine X_yl (Yl_load rfl rfl ((hr.rd hS).cellX (by omega) hx)) rfl rfl ?_ | refine X_yl (Yl_load rfl rfl (cell_at (hc.rd hS).pts)) rfl rfl ?_) | (refine C_id ?_; first | refine C_seq ?_ | refine C_region ?_ | refine C_skip ?_ | refine C_cond_f rfl ?_) | (refine E_id ?_; first | refine E_code ?_) | (refine GO_id ?_; first | refine GO_nil ?_ | refine GO_pure rfl rfl (fun _ => Yl_pick_f rfl rfl rfl) rfl rfl ?_ | refine GO_yes rfl rfl rfl rfl (fun _ => Yl_pick_t rfl rfl rfl) rfl rfl ?_ | refine GO_yes rfl rfl rfl rfl (fun _ => Yl_not_t rfl rfl) rfl rfl ?_ | refine GO_hard_yes rfl rfl rfl rfl ?_) | (refine Keep_id ?_; first | refine And.intro (by repeat (first | exact trivial | refine And.intro (.inl (by decide +kernel)) ?_ | refine And.intro (.inr (by first | assumption | exact hS.cell | exact cell_at (by assumption) | exact hS.cellI (by omega) | exact hS.cellIP (by omega) | exact hS.cellsN | exact ((hr.rd hS).cellX (by omega) hx) | exact ((hr2.rd hS).cellX (by omega) hx2) | exact hS.cellB (by omega) | exact hS.cellBA (by omega) | exact (hb.rd hS).cellB' (by omega) | exact (hb2.rd hS).cellB' (by omega) | exact (hg.rd hS).cellI (by omega) | exact (hg2.rd hS).cellI (by omega) | exact ((hr.rd hS).cellF (by first | omega | (dsimp only; omega)) hx) | exact ((hr2.rd hS).cellF (by first | omega | (dsimp only; omega)) hx2) | exact hS.cellO 0 (by omega) | exact hS.cellO 1 (by omega) | exact hS.cellIA (by omega) | exact (hg.rd hS).cellIA (by omega) | exact (hg2.rd hS).cellIA (by omega) | exact cell_at (hc.rd hS).pts | exact hb.rd hS | exact (hr.rd hS).cellsF7 (by first | omega | (dsimp only; omega)) hst4 rfl | exact (hr2.rd hS).cellsF7 (by first | omega | (dsimp only; omega)) hst4 rfl | exact hS.cellO 4 (by omega) | exact hS.cellO 5 (by omega) | exact hS.cellO 6 (by omega) | exact hS.cellO 7 (by omega) | exact hS.cellO 8 (by omega) | exact hS.cellO 9 (by omega) | exact hS.cellO 10 (by omega) | exact hS.cellO 11 (by omega) | exact hS.cellO 12 (by omega) | exact hS.cellO 13 (by omega) | exact hS.cellO 2 (by omega) | exact hS.cellO 3 (by omega))) ?_)) ?_))
        have hua2 : (ints .i64 (usedL T))[cntT T i]? = some (.int .i64 ((i : Nat) : Int)) := by simp [ints, hua]
        refine X_yl (Yl_load rfl rfl ((hS.ownRd (a := some ⟨ub, 0, none⟩)).cellX (i := cntT T i) (by omega) hua2)) rfl rfl ?_
        repeat (first | (refine G_id ?_; first | refine G_nil ?_ | refine G_plain rfl rfl ?_ | refine G_yes rfl rfl rfl rfl ?_) | (refine X_id ?_; first | refine X_yl (Yl_move rfl rfl) rfl rfl ?_ | refine X_yl (Yl_assign rfl rfl) rfl rfl ?_ | refine X_yl (Yl_pick_f rfl rfl rfl) rfl rfl ?_ | refine X_yl (Yl_neq_f rfl rfl rfl (by omega)) rfl rfl ?_ | refine X_yl (Yl_add rfl rfl rfl (w64 (by omega) (by omega))) rfl rfl ?_) | (refine C_id ?_; first | refine C_region ?_ | refine C_skip ?_ | refine C_cond_f rfl ?_) | (refine E_id ?_; first | refine E_code ?_ | refine E_blk_n ?_))
        exact E_round (z := i) (i + 1) ⟨rfl, rfl, rfl, by rw [hcn]; rfl, by rw [hln]; rfl, rfl, trivial⟩ ⟨by omega, hS.took⟩ (by omega)
      | false =>
        rw [hb] at hx
        have htx : x.tb = none := by unfold RN.tb; rw [if_neg (by simp [hb])]
        rw [htx] at hat htb
        have hno : ¬ (T.getD i none).isSome = true := by rw [htb]; simp
        have hcn : cntT T (i + 1) = cntT T i := by rw [cntT, if_neg hno]
        have hln : lowT T (i + 1) = if lowT T i < 0 then ((i : Nat) : Int) else lowT T i := by rw [lowT, if_neg hno]
        repeat (first | (refine G_id ?_; first | refine G_nil ?_ | refine G_plain rfl rfl ?_) | (refine X_id ?_; first | refine X_yl (Yl_move rfl rfl) rfl rfl ?_ | refine X_yl (Yl_nilCheck rfl rfl) rfl rfl ?_ | refine X_yl (Yl_fieldAddr0 rfl rfl rfl) rfl rfl ?_ | refine X_yl (Yl_len rfl rfl) rfl rfl ?_ | refine X_yl (Yl_lss_t rfl rfl rfl (by omega)) rfl rfl ?_ | refine X_yl (Yl_load rfl rfl (cell_at (hc.rd hS).pts)) rfl rfl ?_) | (refine C_id ?_; first | refine C_seq ?_ | refine C_region ?_ | refine C_block ?_ | refine C_skip ?_ | refine C_cond_t rfl ?_) | (refine E_id ?_; first | refine E_code ?_))
        refine X_callg _ rfl rfl rfl rfl rfl (get_none (i : Nat) hat _ (hIa _ _ hS)) ?_
        rintro _ w ⟨rfl, hS'⟩
        replace hS := hS.plus hS'
        clear hS'
        repeat (first | (refine G_id ?_; first | refine G_nil ?_ | refine G_plain rfl rfl ?_) | (refine X_id ?_; first | refine X_yl (Yl_move rfl rfl) rfl rfl ?_ | refine X_yl (Yl_assign rfl rfl) rfl rfl ?_ | refine X_yl (Yl_extract rfl rfl) rfl rfl ?_ | refine X_store rfl rfl rfl rfl hS (fun _ hS _ => ?_) | refine X_alloc rfl rfl rfl hS (fun _ _ hS _ => ?_)) | (refine C_id ?_; first | refine C_seq ?_) | (refine E_id ?_; first | refine E_code ?_))
        refine C_ord (.s 0 (.s 1 (.s 2 (.s 3 (.s 4 (.s 5 (.s 6 (.s 7 (.s 8 (.s 9 (.s 10 (.s 11 (.s 12 (.s 13 (.s 14 (.s 15 (.s 16 (.s 17 (.s 18 (.s 19 (.s 21 (.s 22 (.s 23 (.s 24 (.s 25 (.s 26 (.s 27 (.h 20 (.h 28 (.s 29 (.s 30 (.s 31 .nil))) .no) .no)))))))))))))))))))))))))))) mixed (by kernel_rfl) rfl ?_
        have hS := hS.drew
        repeat (first | (refine GO_id ?_; first | refine GO_pure rfl rfl (fun _ => Yl_move rfl rfl) rfl rfl ?_ | refine GO_pure rfl rfl (fun _ => Yl_nilCheck rfl rfl) rfl rfl ?_ | refine GO_pure rfl rfl (fun _ => Yl_fieldAddr0 rfl rfl rfl) rfl rfl ?_ | refine GO_pure rfl rfl (fun _ => Yl_eql_f rfl rfl rfl (by omega)) rfl rfl ?_ | refine GO_pure rfl rfl (fun _ => Yl_indexAddr rfl rfl rfl (by omega) (by omega) (by first | assumption | exact ⟨_, _, rfl⟩)) rfl rfl ?_ | refine GO_read (fun w' => w'.cell? _ = some _) rfl rfl ((hr.rd hS).cellX (by omega) hx) (fun _ hc => Yl_load rfl rfl hc) rfl rfl ?_ | refine GO_read (fun w' => w'.cell? _ = some _) rfl rfl (cell_at (hc.rd hS).pts) (fun _ hc => Yl_load rfl rfl hc) rfl rfl ?_))
        refine GO_pure rfl rfl (fun _ => Yl_neqBool7 (a := false) (b := false) rfl rfl rfl) rfl rfl ?_
        rw [show (!(false == false)) = false from rfl]
        by_cases hl : lowT T i < 0
        · rw [if_pos hl] at hln
          repeat (first | (refine G_id ?_; first | refine G_nil ?_ | refine G_plain rfl rfl ?_) | (refine X_id ?_; first | refine X_yl (Yl_move rfl rfl) rfl rfl ?_ | refine X_yl (Yl_assign rfl rfl) rfl rfl ?_ | refine X_yl (Yl_nilCheck rfl rfl) rfl rfl ?_ | refine X_yl (Yl_fieldAddr0 rfl rfl rfl) rfl rfl ?_ | refine X_yl (Yl_not_f rfl rfl) rfl rfl ?_ | refine X_yl (Yl_lss_t rfl rfl rfl (by omega)) rfl rfl ?_ | refine X_yl (Yl_indexAddr rfl rfl rfl (by omega) (by omega) (by first | assumption | exact ⟨_, _, rfl⟩)) rfl rfl ?_ | refine X_yl (Yl_add rfl rfl rfl (w64 (by omega) (by omega))) rfl rfl ?_ | refine X_yl (Yl_load rfl rfl ((hr.rd hS).cellX (by omega) hx)) rfl rfl ?_ | refine X_yl (Yl_load rfl rfl (cell_at (hc.rd hS).pts)) rfl rfl ?_) | (refine C_id ?_; first | refine C_seq ?_ | refine C_region ?_ | refine C_skip ?_ | refine C_exit ?_ | refine C_cond_t rfl ?_ | refine C_cond_f rfl ?_) | (refine E_id ?_; first | refine E_code ?_ | refine E_then_exit ?_ | refine E_blk_same ?_) | (refine GO_id ?_; first | refine GO_nil ?_ | refine GO_pure rfl rfl (fun _ => Yl_move rfl rfl) rfl rfl ?_ | refine GO_pure rfl rfl (fun _ => Yl_pick_f rfl rfl rfl) rfl rfl ?_ | refine GO_yes rfl rfl rfl rfl (fun _ => Yl_move rfl rfl) rfl rfl ?_ | refine GO_yes rfl rfl rfl rfl (fun _ => Yl_nilCheck rfl rfl) rfl rfl ?_ | refine GO_yes rfl rfl rfl rfl (fun _ => Yl_fieldAddr0 rfl rfl rfl) rfl rfl ?_ | refine GO_yes rfl rfl rfl rfl (fun _ => Yl_pick_f rfl rfl rfl) rfl rfl ?_ | refine GO_yes rfl rfl rfl rfl (fun _ => Yl_indexAddr rfl rfl rfl (by omega) (by omega) (by first | assumption | exact ⟨_, _, rfl⟩)) rfl rfl ?_ | refine GO_hard_no rfl rfl rfl rfl rfl rfl rfl ?_ | refine GO_no rfl rfl rfl rfl rfl rfl rfl ?_ | refine GO_yes_read (fun w' => w'.cell? _ = some _) rfl rfl rfl rfl (cell_at (hc.rd hS).pts) (fun _ hc => Yl_load rfl rfl hc) rfl rfl ?_ | refine GO_yes_read (fun w' => w'.cell? _ = some _) rfl rfl rfl rfl ((hr.rd hS).cellX (by omega) hx) (fun _ hc => Yl_load rfl rfl hc) rfl rfl ?_))
          exact E_round (z := i) (i + 1) ⟨rfl, rfl, rfl, by rw [hcn]; rfl, by rw [hln]; rfl, rfl, trivial⟩ ⟨by omega, hS.took⟩ (by omega)
        · rw [if_neg hl] at hln
          repeat (first | (refine G_id ?_; first | refine G_nil ?_ | refine G_plain rfl rfl ?_) | (refine X_id ?_; first | refine X_yl (Yl_move rfl rfl) rfl rfl ?_ | refine X_yl (Yl_assign rfl rfl) rfl rfl ?_ | refine X_yl (Yl_nilCheck rfl rfl) rfl rfl ?_ | refine X_yl (Yl_fieldAddr0 rfl rfl rfl) rfl rfl ?_ | refine X_yl (Yl_not_f rfl rfl) rfl rfl ?_ | refine X_yl (Yl_lss_f rfl rfl rfl (by omega)) rfl rfl ?_ | refine X_yl (Yl_indexAddr rfl rfl rfl (by omega) (by omega) (by first | assumption | exact ⟨_, _, rfl⟩)) rfl rfl ?_ | refine X_yl (Yl_add rfl rfl rfl (w64 (by omega) (by omega))) rfl rfl ?_ | refine X_yl (Yl_load rfl rfl ((hr.rd hS).cellX (by omega) hx)) rfl rfl ?_ | refine X_yl (Yl_load rfl rfl (cell_at (hc.rd hS).pts)) rfl rfl ?_) | (refine C_id ?_; first | refine C_seq ?_ | refine C_region ?_ | refine C_skip ?_ | refine C_exit ?_ | refine C_cond_t rfl ?_ | refine C_cond_f rfl ?_) | (refine E_id ?_; first | refine E_code ?_ | refine E_then_exit ?_ | refine E_blk_same ?_) | (refine GO_id ?_; first | refine GO_nil ?_ | refine GO_pure rfl rfl (fun _ => Yl_move rfl rfl) rfl rfl ?_ | refine GO_pure rfl rfl (fun _ => Yl_pick_f rfl rfl rfl) rfl rfl ?_ | refine GO_yes rfl rfl rfl rfl (fun _ => Yl_move rfl rfl) rfl rfl ?_ | refine GO_yes rfl rfl rfl rfl (fun _ => Yl_nilCheck rfl rfl) rfl rfl ?_ | refine GO_yes rfl rfl rfl rfl (fun _ => Yl_fieldAddr0 rfl rfl rfl) rfl rfl ?_ | refine GO_yes rfl rfl rfl rfl (fun _ => Yl_pick_f rfl rfl rfl) rfl rfl ?_ | refine GO_yes rfl rfl rfl rfl (fun _ => Yl_indexAddr rfl rfl rfl (by omega) (by omega) (by first | assumption | exact ⟨_, _, rfl⟩)) rfl rfl ?_ | refine GO_hard_no rfl rfl rfl rfl rfl rfl rfl ?_ | refine GO_no rfl rfl rfl rfl rfl rfl rfl ?_ | refine GO_yes_read (fun w' => w'.cell? _ = some _) rfl rfl rfl rfl (cell_at (hc.rd hS).pts) (fun _ hc => Yl_load rfl rfl hc) rfl rfl ?_ | refine GO_yes_read (fun w' => w'.cell? _ = some _) rfl rfl rfl rfl ((hr.rd hS).cellX (by omega) hx) (fun _ hc => Yl_load rfl rfl hc) rfl rfl ?_))
          exact E_round (z := i) (i + 1) ⟨rfl, rfl, rfl, by rw [hcn]; rfl, by rw [hln]; rfl, rfl, trivial⟩ ⟨by omega, hS.took⟩ (by omega)
    · obtain rfl : i = n := by omega
      repeat (first | (refine G_id ?_; first | refine G_nil ?_ | refine G_plain rfl rfl ?_) | (refine X_id ?_; first | refine X_yl (Yl_move rfl rfl) rfl rfl ?_ | refine X_yl (Yl_nilCheck rfl rfl) rfl rfl ?_ | refine X_yl (Yl_fieldAddr0 rfl rfl rfl) rfl rfl ?_ | refine X_yl (Yl_len rfl rfl) rfl rfl ?_ | refine X_yl (Yl_lss_f rfl rfl rfl (by omega)) rfl rfl ?_ | refine X_yl (Yl_load rfl rfl (cell_at (hc.rd hS).pts)) rfl rfl ?_) | (refine C_id ?_; first | refine C_seq ?_ | refine C_region ?_ | refine C_exit ?_ | refine C_cond_f rfl ?_) | (refine E_id ?_; first | refine E_code ?_ | refine E_then_exit ?_ | refine E_blk_same ?_))
      exact E_mid () ⟨rfl, rfl, rfl, rfl, trivial⟩ hS.drops
  · clear hS
    rintro _ w hS
    have hul : (usedL T).length = cntT T n := by rw [used_len, htl]
    have hfl := free_low T
    rw [htl] at hfl
    have hF := fun W h => tfree_ (rd := rd) (fs := fs) (tp := tp) (lp := lp) (p := q) (j := j) (m := m) (n := n) (nb := nb) (T := T) (r := r) (A := A) (dat := dat) W h
    rw [hfl] at hF
    rw [hul]
    by_cases hl : lowT T n < 0
    · simp only [hl, if_true] at hF
      repeat (first | (refine G_id ?_; first | refine G_plain rfl rfl ?_) | (refine X_id ?_; first | refine X_yl (Yl_move rfl rfl) rfl rfl ?_) | (refine C_id ?_; first | refine C_seq ?_ | refine C_region ?_))
      refine X_callq _ rfl rfl rfl rfl rfl hS (hF _ (hIa _ _ hS)) ?_
      rintro _ w rfl hS
      repeat (first | (refine G_id ?_; first | refine G_nil ?_ | refine G_plain rfl rfl ?_ | refine G_yes rfl rfl rfl rfl ?_ | refine G_no rfl rfl rfl rfl rfl rfl ?_ | refine G_no_undef rfl rfl rfl rfl rfl ?_) | (refine X_id ?_; first | refine X_yl (Yl_move rfl rfl) rfl rfl ?_ | refine X_yl (Yl_assign rfl rfl) rfl rfl ?_ | refine X_yl (Yl_extract rfl rfl) rfl rfl ?_ | refine X_yl (Yl_pick_t rfl rfl rfl) rfl rfl ?_ | refine X_yl (Yl_len rfl rfl) rfl rfl ?_ | refine X_yl (Yl_eql_t rfl rfl rfl (by omega)) rfl rfl ?_ | refine X_yl (Yl_lss_t rfl rfl rfl (by omega)) rfl rfl ?_) | (refine C_id ?_; first | refine C_seq ?_ | refine C_region ?_ | refine C_ret ?_) | (refine E_id ?_; first | refine E_code ?_ | refine E_ret1 rfl (Rv_tmp rfl) (Ret.mk ?_)))
      exact ⟨rfl, hS⟩
    · simp only [hl, if_false] at hF
      repeat (first | (refine G_id ?_; first | refine G_plain rfl rfl ?_) | (refine X_id ?_; first | refine X_yl (Yl_move rfl rfl) rfl rfl ?_) | (refine C_id ?_; first | refine C_seq ?_ | refine C_region ?_))
      refine X_callq _ rfl rfl rfl rfl rfl hS (hF _ (hIa _ _ hS)) ?_
      rintro _ w rfl hS
      repeat (first | (refine G_id ?_; first | refine G_nil ?_ | refine G_plain rfl rfl ?_ | refine G_yes rfl rfl rfl rfl ?_ | refine G_no rfl rfl rfl rfl rfl rfl ?_) | (refine X_id ?_; first | refine X_yl (Yl_move rfl rfl) rfl rfl ?_ | refine X_yl (Yl_assign rfl rfl) rfl rfl ?_ | refine X_yl (Yl_extract rfl rfl) rfl rfl ?_ | refine X_yl (Yl_pick_t rfl rfl rfl) rfl rfl ?_ | refine X_yl (Yl_pick_f rfl rfl rfl) rfl rfl ?_ | refine X_yl (Yl_len rfl rfl) rfl rfl ?_ | refine X_yl (Yl_eql_t rfl rfl rfl (by omega)) rfl rfl ?_ | refine X_yl (Yl_lss_f rfl rfl rfl (by omega)) rfl rfl ?_ | refine X_yl (Yl_geq_t rfl rfl rfl (by omega)) rfl rfl ?_) | (refine C_id ?_; first | refine C_seq ?_ | refine C_region ?_ | refine C_ret ?_) | (refine E_id ?_; first | refine E_code ?_ | refine E_ret1 rfl (Rv_tmp rfl) (Ret.mk ?_)))
      exact ⟨rfl, hS⟩
end Cr
namespace Cr
open Go Go.Proofs
set_option maxRecDepth 100000
set_option maxHeartbeats 16000000
attribute [local irreducible] Calls

theorem perm_take {α : Type} : ∀ (l : List α) (k : Nat) {x : α}, l[k]? = some x → l.Perm (x :: l.eraseIdx k)
  | [], _, _, h => by simp at h
  | y :: l, 0, x, h => by
    obtain rfl : y = x := by simpa using h
    exact List.Perm.refl _
  | y :: l, k + 1, x, h => by
    have ih := perm_take l k (x := x) (by simpa using h)
    exact (ih.cons y).trans (.swap _ _ _)
theorem set_same {α : Type} : ∀ (l : List α) (k : Nat) {x : α}, l[k]? = some x → l.set k x = l
  | [], _, _, _ => rfl
  | y :: l, 0, x, h => by
    obtain rfl : y = x := by simpa using h
    rfl
  | y :: l, k + 1, x, h => by
    rw [List.set_cons_succ, set_same l k (by simpa using h)]
theorem erase_set {α : Type} : ∀ (l : List α) (k : Nat) (y : α), (l.set k y).eraseIdx k = l.eraseIdx k
  | [], _, _ => rfl
  | _ :: _, 0, _ => rfl
  | x :: l, k + 1, y => by simp [erase_set l k y]
section
variable {W : World} {F : Nat → Prop} {rs : List Res} {w : World} {T : TypeId} {D : List OB} {k : Nat} {x y : OB}
theorem St.obsOpen (h : D[k]? = some x) (hS : St W F (obs T D :: rs) w) : St W F (obR T x :: obs T (D.eraseIdx k) :: rs) w :=
  St.sepOpen (St.sepPerm (l' := obR T x :: (D.eraseIdx k).map (obR T)) ((perm_take D k h).map (obR T)) hS)
theorem St.obsShut (hk : k < D.length) (hS : St W F (obR T y :: obs T (D.eraseIdx k) :: rs) w) : St W F (obs T (D.set k y) :: rs) w := by
  have hp := perm_take (D.set k y) k (x := y) (by rw [List.getElem?_set_self hk])
  rw [erase_set] at hp
  exact St.sepPerm (l := obR T y :: (D.eraseIdx k).map (obR T)) (hp.map (obR T)).symm (St.sepShut hS)
end
/-- The lengths and places alone. -/
def OB.sh (x : OB) : Option Addr × Nat × Nat := (x.a, x.c, x.s.length)
/-- One of the law's lists of changes. -/
structure OE where
  a : Option Addr
  c : Nat
  l : List ChgA
abbrev OE.val (x : OE) : Value := .slice x.a x.l.length x.c
instance : Inhabited OE := ⟨⟨none, 0, []⟩⟩
/-- What the law's loop knows of the two tables. -/
structure PlayOk (T : Tb) (z : RZ) : Prop where
  tb : rtb z.L = T
  len : z.L.length = 5
  ncl : 5 ≤ z.nc
  icl : 5 ≤ z.ic
  small : ∀ x ∈ z.L, x.nd.data.length ≤ 512
  inX : ∀ x ∈ z.L, (x.a, bv x.nd.data) ∈ z.X
theorem PlayOk.rd {T : Tb} {z : RZ} (h : PlayOk T z) {W : World} {p : Nat} {rs : List Res} {w : World} (hS : St W noF (own 62 5 z.na z.nc (z.L.flatMap RN.cells) :: own 4 1 z.ia z.ic (z.L.map RN.isV) :: rtAt p z.na 5 z.nc z.ia z.ic 20 :: bag z.X :: rs) w) : RtRd w p 5 20 z.L z.na z.nc z.ia z.ic :=
  ⟨hS.rd (by simp), (hS.rd (List.mem_cons_self ..)).own_row, (hS.rd (List.mem_cons_of_mem _ (List.mem_cons_self ..))).own_row, fun x hx => (hS.rd (r := bag z.X) (by simp)).bag (h.inX x hx), h.len, h.small, by omega, by omega, h.ncl, h.icl⟩
theorem St.bagNone {W : World} {F : Nat → Prop} {rs : List Res} {w : World} {X : List RowD} (hS : St W F (bag X :: rs) w) : St W F (bag ((none, []) :: X) :: rs) w := hS.head fun h hg x hx => by
  rcases List.mem_cons.1 hx with rfl | hx
  · exact ⟨fun _ => none, row_nil none, fun _ _ e => by cases e⟩
  · exact hg x hx
theorem bumpB (b : UInt8) : IntKind.wrap .u8 ((b.toNat : Int) + 1) = ((b + 1).toNat : Int) := by
  have h : (b + 1).toNat = (b.toNat + 1) % 256 := UInt8.toNat_add b 1
  rw [h]
  simp [IntKind.wrap, IntKind.bits, IntKind.signed]
structure PG where
  m : Nat
  T : Tb
  p : Nat
  z : RZ
def PG.res (g : PG) (rd fs : List Int) (tp lp q : Nat) : List Res := itab rd fs tp lp q 24 g.m 5 20 g.T :: g.z.res g.p 5 20
theorem PlayOk.tlen {T : Tb} {z : RZ} (h : PlayOk T z) : T.length = 5 := by rw [← h.tb, rtb, List.length_map]; exact h.len
theorem inodePlays_ (a : Option Addr) (c : Nat) (o : List OE) (rd fs : List Int) (W : World) (hG : Gl W noF rd fs) (hrow : Ro W noF (row a (o.map OE.val))) (hall : ∀ e ∈ o, Chgs W noF e.a e.l ∧ ∀ x ∈ e.l, x.c.nd.data.length ≤ x.k) :
    Calls Tryz.prog 3 #[.slice a o.length c] W (Ret fun v w => v = .bool true ∧ St W noF [] w) := by
  have hS := St.start W
  have hG0 : ∀ w rs, St W noF rs w → Gl w noF rd fs := fun w rs h => hG.mono fun r hr => (hr.rd h).ro
  refine calls_C Tryz.func3 rfl Tryz.ntmps3 rfl ?_
  repeat (first | (refine G_id ?_; first | refine G_nil ?_ | refine G_plain rfl rfl ?_) | (refine X_id ?_; first | refine X_yl (Yl_assign rfl rfl) rfl rfl ?_) | (refine C_id ?_; first | refine C_seq ?_ | refine C_region ?_) | (refine E_id ?_; first | refine E_code ?_))
  refine X_callg _ rfl rfl rfl rfl rfl (fresh7_ rd fs _ (hG0 _ _ hS)) ?_
  rintro _ w ⟨q, lp, tp, p, z, dp, rfl, hzL, hzn, hzi, hS'⟩
  have hP0 : PlayOk (List.replicate 5 none) ⟨z.na, z.nc, z.ia, z.ic, z.L, (none, []) :: z.X⟩ := ⟨by rw [hzL]; rfl, by rw [hzL]; rfl, hzn, hzi, fun x hx => by
    rw [hzL] at hx
    obtain rfl := List.eq_of_mem_replicate hx
    exact Nat.zero_le _, fun x hx => by
    rw [hzL] at hx
    obtain rfl := List.eq_of_mem_replicate hx
    exact List.mem_cons_self ..⟩
  simp only [RZ.res] at hS'
  replace hS := hS.plus hS'
  clear hS'
  repeat (first | (refine G_id ?_; first | refine G_nil ?_ | refine G_plain rfl rfl ?_) | (refine X_id ?_; first | refine X_yl (Yl_move rfl rfl) rfl rfl ?_ | refine X_yl (Yl_assign rfl rfl) rfl rfl ?_ | refine X_yl (Yl_extract rfl rfl) rfl rfl ?_ | refine X_yl (Yl_eqlNil_some rfl rfl rfl) rfl rfl ?_) | (refine C_id ?_; first | refine C_seq ?_ | refine C_region ?_ | refine C_block ?_ | refine C_skip ?_ | refine C_cond_f rfl ?_) | (refine E_id ?_; first | refine E_code ?_))
  have hS0 : St W noF (PG.res ⟨1, List.replicate 5 none, p, ⟨z.na, z.nc, z.ia, z.ic, z.L, (none, []) :: z.X⟩⟩ rd fs tp lp q) w := by
    have h := St.bagNone (hS.pick [4, 0, 0, 0, 0])
    exact h.pick [1, 1, 1, 1, 0]
  clear hS hzL hzn hzi
  refine C_joinB (α := PG) (fun g => [(4, .pointer (some ⟨lp, 0, none⟩)), (6, .pointer (some ⟨g.p, 0, none⟩))]) (fun g w => PlayOk g.T g.z ∧ g.m ≤ 21 ∧ St W noF (g.res rd fs tp lp q) w) ?_ ?_
  · refine C_loop (α := Nat × PG) (fun g => [(0, .slice a o.length c), (4, .pointer (some ⟨lp, 0, none⟩)), (5, .pointer (some ⟨tp, 0, none⟩)), (6, .pointer (some ⟨g.2.p, 0, none⟩)), (7, .int .i64 (g.1 : Nat))])
      (fun g w => g.1 ≤ o.length ∧ g.1 ≤ 20 ∧ g.2.m = 1 + g.1 ∧ PlayOk g.2.T g.2.z ∧ St W noF (g.2.res rd fs tp lp q) w) (fun g => 20 - g.1) (0, ⟨1, List.replicate 5 none, p, ⟨z.na, z.nc, z.ia, z.ic, z.L, (none, []) :: z.X⟩⟩) ⟨rfl, rfl, rfl, rfl, rfl, trivial⟩ ⟨Nat.zero_le _, Nat.zero_le _, rfl, hP0, hS0⟩ ?_
    clear hS0 hP0
    rintro ⟨i, m, T, p, z⟩ w ⟨hi, hi20, hm, hP, hS⟩
    simp only at hi hi20 hm hP hS ⊢
    by_cases h1 : i < o.length
    · by_cases h2 : i < 20
      · have hx0 : o[i]? = some o[i] := List.getElem?_eq_getElem h1
        generalize o[i] = e at hx0
        have hem := List.mem_of_getElem? hx0
        have hx : (o.map OE.val)[i]? = some (.slice e.a e.l.length e.c) := by simp [hx0]
        have hr := hrow
        obtain ⟨xb, xo, hxa⟩ := (hr.rd hS).base (by intro h; rw [h] at hx; simp at hx)
        rw [hxa] at hr ⊢
        have htl := hP.tlen
        repeat (first | (refine G_id ?_; first | refine G_nil ?_ | refine G_plain rfl rfl ?_ | refine G_yes rfl rfl rfl rfl ?_) | (refine X_id ?_; first | refine X_yl (Yl_move rfl rfl) rfl rfl ?_ | refine X_yl (Yl_pick_t rfl rfl rfl) rfl rfl ?_ | refine X_yl (Yl_len rfl rfl) rfl rfl ?_ | refine X_yl (Yl_lss_t rfl rfl rfl (by omega)) rfl rfl ?_ | refine X_yl (Yl_indexAddr rfl rfl rfl (by omega) (by omega) (by first | assumption | exact ⟨_, _, rfl⟩)) rfl rfl ?_ | refine X_yl (Yl_load rfl rfl ((hr.rd hS).cellX (by omega) hx)) rfl rfl ?_) | (refine C_id ?_; first | refine C_seq ?_ | refine C_region ?_ | refine C_block ?_ | refine C_skip ?_ | refine C_cond_t rfl ?_) | (refine E_id ?_; first | refine E_code ?_))
        refine X_callg _ rfl rfl rfl rfl rfl (changes_ e.a e.c e.l _ ((hall e hem).1.mono fun r hr => (hr.rd hS).ro) (hall e hem).2) ?_
        rintro _ w ⟨cz, rfl, hcz, hS'⟩
        simp only [CZ.res] at hS'
        simp only [PG.res, RZ.res] at hS
        replace hS := hS.plus hS'
        clear hS'
        obtain ⟨cl, hcl⟩ : ∃ cl, cl = ((e.l.take 6).map ChgA.c).map cutC := ⟨_, rfl⟩
        have hd1 := hcz.d1
        have hd2 := hcz.d2
        rw [← hcl] at hd1 hd2
        have hl6 : cl.length ≤ 6 := by rw [hcl]; simp; omega
        have hl1 : cz.L1.length = cl.length := by rw [← hd1]; simp
        have hl2 : cz.L2.length = cl.length := by rw [← hd2]; simp
        have hC2 : ∀ (w : World) (rs : List Res), St W noF (own 44 7 cz.a1 cz.c1 (cz.L1.flatMap ChgA.cells) :: own 64 7 cz.a2 cz.c2 (cz.L2.flatMap ChgA.cells) :: obs 5 cz.D :: bag cz.X :: rs) w → Chgs w noF cz.a2 cz.L2 := fun w rs h => ⟨(h.rd (r := own 64 7 cz.a2 cz.c2 (cz.L2.flatMap ChgA.cells)) (by simp)).own_row.ro, fun y hy => ((h.rd (r := bag cz.X) (by simp)).bag (hcz.x2 y hy)).ro⟩
        obtain ⟨K, hK⟩ : ∃ K, K = checkC cl 5 := ⟨_, rfl⟩
        have hchk := fun W h => rcheck7_ cz.a2 cz.c2 5 cz.L2 W h (by omega) (by omega)
        rw [hd2, ← hK] at hchk
        repeat (first | (refine G_id ?_; first | refine G_nil ?_ | refine G_plain rfl rfl ?_) | (refine X_id ?_; first | (refine X_callq 6 rfl rfl rfl rfl rfl hS (hchk _ (hC2 _ _ hS)) ?_; rintro _ _ rfl hS) | refine X_yl (Yl_move rfl rfl) rfl rfl ?_ | refine X_yl (Yl_assign rfl rfl) rfl rfl ?_ | refine X_yl (Yl_extract rfl rfl) rfl rfl ?_ | refine X_yl (Yl_eql rfl rfl rfl) rfl rfl ?_) | (refine C_id ?_; first | refine C_seq ?_ | refine C_region ?_) | (refine E_id ?_; first | refine E_code ?_))
        refine C_join (α := Int × PG) (fun g => [(0, .slice (some ⟨xb, xo, none⟩) o.length c), (4, .pointer (some ⟨lp, 0, none⟩)), (5, .pointer (some ⟨tp, 0, none⟩)), (7, .int .i64 (i : Nat)), (8, .slice cz.a1 cz.L1.length cz.c1), (10, .int .i64 g.1), (11, .pointer (some ⟨g.2.p, 0, none⟩))])
          (fun g w => g.1 = (applyT T 20 12 cl).1 ∧ g.2.m = m ∧ g.2.T = T ∧ PlayOk (applyT T 20 12 cl).2 g.2.z ∧ St W noF (itab rd fs tp lp q 24 m 5 20 T :: own 44 7 cz.a1 cz.c1 (cz.L1.flatMap ChgA.cells) :: obs 5 cz.D :: g.2.z.res g.2.p 5 20) w) ?_ ?_
        · by_cases hk0 : K = 0
          · have hap : applyT T 20 12 cl = putT T 20 12 cl := by unfold applyT; rw [if_neg (by rw [htl, ← hK]; simp [hk0])]
            rw [hap]
            have hA7 := fun W h1 h2 => rapply7_ p 5 20 12 z.L z.na z.nc z.ia z.ic cz.a2 cz.c2 cz.L2 W h1 h2 (by omega) (by omega) (by rw [hd2, ← hK]; exact hk0)
            rw [hd2, hP.tb] at hA7
            repeat (first | (refine G_id ?_; first | refine G_plain rfl rfl ?_) | (refine X_id ?_; first | refine X_yl (Yl_move rfl rfl) rfl rfl ?_) | (refine C_id ?_; first | refine C_region ?_ | refine C_cond_dt rfl (by first | assumption | omega) ?_))
            have hS1 := hS.pick [5, 5, 5, 5]
            refine X_callg _ rfl rfl rfl rfl rfl (hA7 _ (hP.rd hS1) (hC2 _ _ hS)) ?_
            clear hS1
            rintro _ w (⟨hput, rfl, hS'⟩ | ⟨p2, z2, rfl, hput, hz2, hS'⟩)
            · replace hS := hS.plus hS'
              clear hS'
              rw [hput]
              repeat (first | (refine G_id ?_; first | refine G_nil ?_ | refine G_plain rfl rfl ?_) | (refine X_id ?_; first | refine X_yl (Yl_move rfl rfl) rfl rfl ?_ | refine X_yl (Yl_assign rfl rfl) rfl rfl ?_ | refine X_yl (Yl_extract rfl rfl) rfl rfl ?_))
              refine E_mid (α := Int × PG) (6, ⟨m, T, p, z⟩) ⟨rfl, rfl, rfl, rfl, rfl, rfl, rfl, trivial⟩ ⟨rfl, rfl, rfl, hP, ?_⟩
              simp only [RZ.res]
              exact hS.took
            · simp only [RZ.res] at hS'
              replace hS := hS.plus hS'
              clear hS'
              rw [hput]
              have hP2 : PlayOk (rtb z2.L) ⟨z2.na, z2.nc, z2.ia, z2.ic, z2.L, z2.X ++ z.X⟩ := ⟨rfl, hz2.len, hz2.ncl, hz2.icl, hz2.small, fun x hx => by
                rcases hz2.from_ x hx with h | ⟨y, hy, e1, e2⟩
                · exact List.mem_append_left _ h
                · exact List.mem_append_right _ (by rw [e1, e2]; exact hP.inX y hy)⟩
              repeat (first | (refine G_id ?_; first | refine G_nil ?_ | refine G_plain rfl rfl ?_) | (refine X_id ?_; first | refine X_yl (Yl_move rfl rfl) rfl rfl ?_ | refine X_yl (Yl_assign rfl rfl) rfl rfl ?_ | refine X_yl (Yl_extract rfl rfl) rfl rfl ?_))
              refine E_mid (α := Int × PG) (0, ⟨m, T, p2, ⟨z2.na, z2.nc, z2.ia, z2.ic, z2.L, z2.X ++ z.X⟩⟩) ⟨rfl, rfl, rfl, rfl, rfl, rfl, rfl, trivial⟩ ⟨rfl, rfl, rfl, hP2, ?_⟩
              simp only [RZ.res]
              have h := hS.took (out := [bag z2.X, bag z.X, itab rd fs tp lp q 24 m 5 20 T, own 44 7 cz.a1 cz.c1 (cz.L1.flatMap ChgA.cells), obs 5 cz.D, own 62 5 z2.na z2.nc (z2.L.flatMap RN.cells), own 4 1 z2.ia z2.ic (z2.L.map RN.isV), rtAt p2 z2.na 5 z2.nc z2.ia z2.ic 20])
              exact h.bagJoin.pick [1, 1, 1, 1, 1, 1, 0]
          · have hap : applyT T 20 12 cl = (K, T) := by unfold applyT; rw [if_pos (by rw [htl, ← hK]; exact hk0), htl, ← hK]
            rw [hap]
            repeat (first | (refine C_id ?_; first | refine C_skip ?_ | refine C_cond_df rfl (by first | assumption | omega) ?_))
            refine E_mid (α := Int × PG) (K, ⟨m, T, p, z⟩) ⟨rfl, rfl, rfl, rfl, rfl, rfl, rfl, trivial⟩ ⟨rfl, rfl, rfl, hP, ?_⟩
            simp only [RZ.res]
            exact hS.took
        · clear hS
          rintro ⟨want, m', T', p', z'⟩ w ⟨hw1, hm1, hT1, hP', hS⟩
          simp only at hw1 hm1 hT1 hP' hS ⊢
          subst hm1 hT1
          simp only [RZ.res] at hS
          have hm12 : (24 : Nat) / 2 = 12 := rfl
          repeat (first | (refine G_id ?_; first | refine G_plain rfl rfl ?_) | (refine X_id ?_; first | refine X_yl (Yl_move rfl rfl) rfl rfl ?_) | (refine C_id ?_; first | refine C_seq ?_ | refine C_region ?_))
          obtain ⟨_, hc, hr2, hw, hbk⟩ := hS.call [true]
          have hC1 : Chgs _ _ cz.a1 cz.L1 := ⟨(hr2 (own 44 7 cz.a1 cz.c1 (cz.L1.flatMap ChgA.cells)) (by simp)).own_row, fun x hx => (hr2 (obs 5 cz.D) (by simp)).obs ⟨x.a, x.k, x.c.nd.data⟩ (by rw [hcz.o]; exact List.mem_map.2 ⟨x, hx, rfl⟩)⟩
          refine X_callg _ rfl rfl rfl rfl rfl (apply_ cz.a1 cz.c1 cz.L1 _ _ (hG.mono hw) hC1 (by omega) (by rw [hl1]; have := hcz.k1; omega) (by simp [last]; omega) hc) ?_
          rw [hd1, hm12]
          rintro _ w ⟨rfl, hS⟩
          replace hS := hbk hS
          clear hc hr2 hw hbk hC1
          rw [← hw1]
          repeat (first | (refine G_id ?_; first | refine G_nil ?_ | refine G_plain rfl rfl ?_) | (refine X_id ?_; first | refine X_yl (Yl_assign rfl rfl) rfl rfl ?_) | (refine C_id ?_; first | refine C_seq ?_ | refine C_region ?_ | refine C_block ?_) | (refine E_id ?_; first | refine E_code ?_))
          have hxl : ∀ (k : Nat) (x : ChgA), cz.L1[k]? = some x → (cz.L1.flatMap ChgA.cells)[k * 7 + 5]? = some (.slice x.a x.c.nd.data.length x.k) := fun k x h => chg_get h 5 (by omega)
          refine C_joinB (α := Unit) (fun _ => [(0, .slice (some ⟨xb, xo, none⟩) o.length c), (4, .pointer (some ⟨lp, 0, none⟩)), (5, .pointer (some ⟨tp, 0, none⟩)), (7, .int .i64 (i : Nat)), (10, .int .i64 want), (11, .pointer (some ⟨p', 0, none⟩)), (12, .int .i64 want)])
            (fun _ w => St W noF [itab rd fs tp lp q 24 (m' + 1) 5 20 (applyT T' 20 12 cl).2, own 62 5 z'.na z'.nc (z'.L.flatMap RN.cells), own 4 1 z'.ia z'.ic (z'.L.map RN.isV), rtAt p' z'.na 5 z'.nc z'.ia z'.ic 20, bag z'.X] w) ?_ ?_
          · refine C_loop (α := Nat × List OB) (fun g => [(0, .slice (some ⟨xb, xo, none⟩) o.length c), (4, .pointer (some ⟨lp, 0, none⟩)), (5, .pointer (some ⟨tp, 0, none⟩)), (7, .int .i64 (i : Nat)), (8, .slice cz.a1 cz.L1.length cz.c1), (10, .int .i64 want), (11, .pointer (some ⟨p', 0, none⟩)), (12, .int .i64 want), (13, .int .i64 (g.1 : Nat))])
              (fun g w => g.1 ≤ cz.L1.length ∧ g.2.map OB.sh = cz.D.map OB.sh ∧ St W noF [obs 5 g.2, own 44 7 cz.a1 cz.c1 (cz.L1.flatMap ChgA.cells), itab rd fs tp lp q 24 (m' + 1) 5 20 (applyT T' 20 12 cl).2, own 62 5 z'.na z'.nc (z'.L.flatMap RN.cells), own 4 1 z'.ia z'.ic (z'.L.map RN.isV), rtAt p' z'.na 5 z'.nc z'.ia z'.ic 20, bag z'.X] w) (fun g => cz.L1.length - g.1) (0, cz.D) ⟨rfl, rfl, rfl, rfl, rfl, rfl, rfl, rfl, rfl, trivial⟩ ⟨Nat.zero_le _, rfl, hS.took⟩ ?_
            clear hS
            rintro ⟨k, D⟩ w ⟨hk, hD, hS⟩
            simp only at hk hD hS ⊢
            by_cases hkl : k < cz.L1.length
            · have hx0 : cz.L1[k]? = some cz.L1[k] := List.getElem?_eq_getElem hkl
              generalize cz.L1[k] = x at hx0
              have hcell := hxl k x hx0
              have hlen6 : x.c.nd.data.length ≤ 600 := by
                have hm : x.c ∈ cl := by rw [← hd1]; exact List.mem_map.2 ⟨x, List.mem_of_getElem? hx0, rfl⟩
                rw [hcl] at hm
                obtain ⟨c', _, h⟩ := List.mem_map.1 hm
                rw [← h]
                simp [cutC, cutN]
                omega
              obtain ⟨y, hy, hsh⟩ : ∃ y, D[k]? = some y ∧ y.sh = (x.a, x.k, x.c.nd.data.length) := by
                have h := congrArg (fun q => q[k]?) hD
                simp only [List.getElem?_map] at h
                rw [hcz.o, List.getElem?_map, hx0] at h
                cases hy : D[k]? with
                | none => rw [hy] at h; cases h
                | some y => rw [hy] at h; exact ⟨y, rfl, by simpa [OB.sh] using h⟩
              obtain ⟨ya, yc, ys⟩ := y
              simp only [OB.sh, Prod.mk.injEq] at hsh
              obtain ⟨rfl, rfl, hys⟩ := hsh
              replace hS := St.obsOpen hy hS
              have hDk : k < D.length := (List.getElem?_eq_some_iff.1 hy).1
              obtain ⟨xc, xo2, hxca⟩ := (hS.ownRd (a := cz.a1)).base (by intro h; rw [h] at hcell; simp at hcell)
              rw [hxca] at hS ⊢
              repeat (first | (refine G_id ?_; first | refine G_nil ?_ | refine G_plain rfl rfl ?_) | (refine X_id ?_; first | refine X_yl (Yl_move rfl rfl) rfl rfl ?_ | refine X_yl (Yl_assign rfl rfl) rfl rfl ?_ | refine X_yl (Yl_len rfl rfl) rfl rfl ?_ | refine X_yl (Yl_lss_t rfl rfl rfl (by omega)) rfl rfl ?_) | (refine C_id ?_; first | refine C_seq ?_ | refine C_region ?_ | refine C_block ?_ | refine C_skip ?_ | refine C_cond_t rfl ?_) | (refine E_id ?_; first | refine E_code ?_))
              refine C_loop (α := Nat × List UInt8) (fun g => [(0, .slice (some ⟨xb, xo, none⟩) o.length c), (4, .pointer (some ⟨lp, 0, none⟩)), (5, .pointer (some ⟨tp, 0, none⟩)), (7, .int .i64 (i : Nat)), (8, .slice (some ⟨xc, xo2, none⟩) cz.L1.length cz.c1), (10, .int .i64 want), (11, .pointer (some ⟨p', 0, none⟩)), (12, .int .i64 want), (13, .int .i64 (k : Nat)), (14, .int .i64 (g.1 : Nat))])
                (fun g w => g.1 ≤ x.c.nd.data.length ∧ g.2.length = x.c.nd.data.length ∧ St W noF [own 5 1 x.a x.k (bv g.2), obs 5 (D.eraseIdx k), own 44 7 (some ⟨xc, xo2, none⟩) cz.c1 (cz.L1.flatMap ChgA.cells), itab rd fs tp lp q 24 (m' + 1) 5 20 (applyT T' 20 12 cl).2, own 62 5 z'.na z'.nc (z'.L.flatMap RN.cells), own 4 1 z'.ia z'.ic (z'.L.map RN.isV), rtAt p' z'.na 5 z'.nc z'.ia z'.ic 20, bag z'.X] w) (fun g => x.c.nd.data.length - g.1) (0, ys) ⟨rfl, rfl, rfl, rfl, rfl, rfl, rfl, rfl, rfl, rfl, trivial⟩ ⟨Nat.zero_le _, hys, hS⟩ ?_
              clear hS hys hy
              rintro ⟨j, s⟩ w ⟨hj, hsl, hS⟩
              simp only at hj hsl hS ⊢
              have hrd := hS.ownRd (a := some ⟨xc, xo2, none⟩)
              by_cases hjl : j < x.c.nd.data.length
              · obtain ⟨xd, hxd⟩ := St.ownBase hS (by intro h; have := congrArg List.length h; rw [bv_length] at this; simp at this; rw [this] at hsl; simp at hsl; omega)
                have hcell2 := hcell
                rw [hxd] at hS hcell2
                have hb := bv_get (l := s) (i := j) (by omega)
                repeat (first | (refine G_id ?_; first | refine G_plain rfl rfl ?_) | (refine X_id ?_; first | refine X_yl (Yl_move rfl rfl) rfl rfl ?_ | refine X_yl (Yl_fieldAddr rfl rfl rfl) rfl rfl ?_ | refine X_yl (Yl_indexAddr rfl rfl rfl (by omega) (by omega) (by first | assumption | exact ⟨_, _, rfl⟩)) rfl rfl ?_) | (refine C_id ?_; first | refine C_seq ?_ | refine C_region ?_))
                refine X_yl (Yl_load rfl rfl (hrd.cellF (by first | omega | (dsimp only; omega)) hcell2)) rfl rfl ?_
                repeat (first | (refine G_id ?_; first | refine G_nil ?_ | refine G_plain rfl rfl ?_) | (refine X_id ?_; first | refine X_yl (Yl_move rfl rfl) rfl rfl ?_ | refine X_yl (Yl_fieldAddr rfl rfl rfl) rfl rfl ?_ | refine X_yl (Yl_len rfl rfl) rfl rfl ?_ | refine X_yl (Yl_lss_t rfl rfl rfl (by omega)) rfl rfl ?_ | refine X_yl (Yl_indexAddr rfl rfl rfl (by omega) (by omega) (by first | assumption | exact ⟨_, _, rfl⟩)) rfl rfl ?_) | (refine C_id ?_; first | refine C_seq ?_ | refine C_region ?_ | refine C_block ?_ | refine C_skip ?_ | refine C_cond_t rfl ?_) | (refine E_id ?_; first | refine E_code ?_))
                refine X_yl (Yl_load rfl rfl (hrd.cellF (by first | omega | (dsimp only; omega)) hcell2)) rfl rfl ?_
                repeat (first | (refine G_id ?_; first | refine G_plain rfl rfl ?_) | (refine X_id ?_; first | refine X_yl (Yl_move rfl rfl) rfl rfl ?_ | refine X_yl (Yl_indexAddr rfl rfl rfl (by omega) (by omega) (by first | assumption | exact ⟨_, _, rfl⟩)) rfl rfl ?_))
                refine X_yl (Yl_load rfl rfl ((hS.ownRd (a := some ⟨xd, 0, none⟩)).cellX (i := j) (by omega) hb)) rfl rfl ?_
                repeat (first | (refine G_id ?_; first | refine G_plain rfl rfl ?_) | (refine X_id ?_; first | refine X_yl (Yl_indexAddr rfl rfl rfl (by omega) (by omega) (by first | assumption | exact ⟨_, _, rfl⟩)) rfl rfl ?_ | refine X_yl (Yl_add rfl rfl rfl rfl) rfl rfl ?_))
                refine X_storeOwn (a := some ⟨xd, 0, none⟩) (i := j) rfl rfl (by rw [Int.toNat_natCast, Nat.mul_one]) rfl rfl rfl rfl hS (by rw [bv_length]; omega) (fun w hS => ?_)
                repeat (first | (refine G_id ?_; first | refine G_nil ?_ | refine G_plain rfl rfl ?_) | (refine X_id ?_; first | refine X_yl (Yl_move rfl rfl) rfl rfl ?_ | refine X_yl (Yl_assign rfl rfl) rfl rfl ?_ | refine X_yl (Yl_add rfl rfl rfl (w64 (by omega) (by omega))) rfl rfl ?_) | (refine C_id ?_; first | refine C_region ?_) | (refine E_id ?_; first | refine E_code ?_ | refine E_blk_n ?_))
                refine E_round (α := Nat × List UInt8) (z := (j, s)) (j + 1, s.set j (s[j] + 1)) ⟨rfl, rfl, rfl, rfl, rfl, rfl, rfl, rfl, rfl, rfl, trivial⟩ ⟨by simp only; omega, by simp [hsl], ?_⟩ (by simp only; omega)
                simp only
                have hbv : bv (s.set j (s[j] + 1)) = (bv s).set j (.int .u8 (IntKind.wrap .u8 ((s[j].toNat : Int) + 1))) := by rw [bumpB]; simp [bv, List.map_set]
                rw [hbv, hxd]
                exact hS
              · obtain rfl : j = x.c.nd.data.length := by omega
                repeat (first | (refine G_id ?_; first | refine G_plain rfl rfl ?_) | (refine X_id ?_; first | refine X_yl (Yl_move rfl rfl) rfl rfl ?_ | refine X_yl (Yl_fieldAddr rfl rfl rfl) rfl rfl ?_ | refine X_yl (Yl_indexAddr rfl rfl rfl (by omega) (by omega) (by first | assumption | exact ⟨_, _, rfl⟩)) rfl rfl ?_) | (refine C_id ?_; first | refine C_seq ?_ | refine C_region ?_))
                refine X_yl (Yl_load rfl rfl (hrd.cellF (by first | omega | (dsimp only; omega)) hcell)) rfl rfl ?_
                repeat (first | (refine G_id ?_; first | refine G_nil ?_ | refine G_plain rfl rfl ?_) | (refine X_id ?_; first | refine X_yl (Yl_move rfl rfl) rfl rfl ?_ | refine X_yl (Yl_assign rfl rfl) rfl rfl ?_ | refine X_yl (Yl_len rfl rfl) rfl rfl ?_ | refine X_yl (Yl_lss_f rfl rfl rfl (by omega)) rfl rfl ?_ | refine X_yl (Yl_add rfl rfl rfl (w64 (by omega) (by omega))) rfl rfl ?_) | (refine C_id ?_; first | refine C_region ?_ | refine C_exit ?_ | refine C_cond_f rfl ?_) | (refine E_id ?_; first | refine E_code ?_ | refine E_then_exit ?_ | refine E_blk_same ?_ | refine E_blk_n ?_))
                refine E_round (α := Nat × List OB) (z := (k, D)) (k + 1, D.set k ⟨x.a, x.k, s⟩) ⟨rfl, rfl, rfl, rfl, rfl, rfl, rfl, rfl, rfl, trivial⟩ ⟨by simp only; omega, ?_, St.obsShut (T := 5) (y := ⟨x.a, x.k, s⟩) hDk hS⟩ (by simp only; omega)
                simp only
                rw [List.map_set, ← hD]
                refine set_same _ _ ?_
                have h := congrArg (fun q => q[k]?) hD
                simp only [List.getElem?_map] at h
                rw [List.getElem?_map, h, hcz.o, List.getElem?_map, hx0]
                simp [OB.sh, hsl]
            · obtain rfl : k = cz.L1.length := by omega
              repeat (first | (refine G_id ?_; first | refine G_nil ?_ | refine G_plain rfl rfl ?_) | (refine X_id ?_; first | refine X_yl (Yl_move rfl rfl) rfl rfl ?_ | refine X_yl (Yl_len rfl rfl) rfl rfl ?_ | refine X_yl (Yl_lss_f rfl rfl rfl (by omega)) rfl rfl ?_) | (refine C_id ?_; first | refine C_seq ?_ | refine C_region ?_ | refine C_exit ?_ | refine C_cond_f rfl ?_) | (refine E_id ?_; first | refine E_code ?_ | refine E_then_exit ?_ | refine E_blk_same ?_))
              exact E_mid (α := Unit) () ⟨rfl, rfl, rfl, rfl, rfl, rfl, rfl, trivial⟩ hS.took
          · clear hS
            rintro _ w hS
            obtain ⟨r, A, dat, hI⟩ := (hS.rd (List.mem_cons_self ..)).itab
            repeat (first | (refine G_id ?_; first | refine G_nil ?_ | refine G_plain rfl rfl ?_ | refine G_yes rfl rfl rfl rfl ?_) | (refine X_id ?_; first | refine X_yl (Yl_move rfl rfl) rfl rfl ?_ | refine X_yl (Yl_assign rfl rfl) rfl rfl ?_ | refine X_yl (Yl_neq_f rfl rfl rfl (by omega)) rfl rfl ?_) | (refine C_id ?_; first | refine C_seq ?_ | refine C_region ?_) | (refine E_id ?_; first | refine E_code ?_))
            have hS1 := hS.pick [1, 1, 1, 1]
            refine X_callq _ rfl rfl rfl rfl rfl hS (tells7_ p' z'.L z'.na z'.nc z'.ia z'.ic _ hI (hP'.rd hS1) hP'.tb) ?_
            clear hS1
            rintro _ w rfl hS
            repeat (first | (refine G_id ?_; first | refine G_nil ?_ | refine G_plain rfl rfl ?_ | refine G_yes rfl rfl rfl rfl ?_) | (refine X_id ?_; first | refine X_yl (Yl_move rfl rfl) rfl rfl ?_ | refine X_yl (Yl_assign rfl rfl) rfl rfl ?_ | refine X_yl (Yl_pick_f rfl rfl rfl) rfl rfl ?_ | refine X_yl (Yl_not_t rfl rfl) rfl rfl ?_ | refine X_yl (Yl_add rfl rfl rfl (w64 (by omega) (by omega))) rfl rfl ?_) | (refine C_id ?_; first | refine C_region ?_ | refine C_skip ?_ | refine C_cond_f rfl ?_) | (refine E_id ?_; first | refine E_code ?_ | refine E_blk_n ?_))
            refine E_round (α := Nat × PG) (z := (i, ⟨m', T', p, z⟩)) (i + 1, ⟨m' + 1, (applyT T' 20 12 cl).2, p', z'⟩) ⟨rfl, rfl, rfl, rfl, rfl, trivial⟩ ⟨by simp only; omega, by simp only; omega, by simp only; omega, hP', hS⟩ (by simp only; omega)
      · obtain rfl : i = 20 := by omega
        repeat (first | (refine G_id ?_; first | refine G_nil ?_ | refine G_plain rfl rfl ?_ | refine G_yes rfl rfl rfl rfl ?_) | (refine X_id ?_; first | refine X_yl (Yl_move rfl rfl) rfl rfl ?_ | refine X_yl (Yl_pick_t rfl rfl rfl) rfl rfl ?_ | refine X_yl (Yl_len rfl rfl) rfl rfl ?_ | refine X_yl (Yl_lss_t rfl rfl rfl (by omega)) rfl rfl ?_ | refine X_yl (Yl_lss_f rfl rfl rfl (by omega)) rfl rfl ?_) | (refine C_id ?_; first | refine C_seq ?_ | refine C_region ?_ | refine C_exit ?_ | refine C_cond_f rfl ?_) | (refine E_id ?_; first | refine E_code ?_ | refine E_then_exit ?_ | refine E_blk_same ?_))
        exact E_mid (α := PG) ⟨m, T, p, z⟩ ⟨rfl, rfl, trivial⟩ ⟨hP, by simp only; omega, hS⟩
    · obtain rfl : i = o.length := by omega
      repeat (first | (refine G_id ?_; first | refine G_nil ?_ | refine G_plain rfl rfl ?_ | refine G_no rfl rfl rfl rfl rfl rfl ?_) | (refine X_id ?_; first | refine X_yl (Yl_move rfl rfl) rfl rfl ?_ | refine X_yl (Yl_pick_f rfl rfl rfl) rfl rfl ?_ | refine X_yl (Yl_len rfl rfl) rfl rfl ?_ | refine X_yl (Yl_lss_f rfl rfl rfl (by omega)) rfl rfl ?_) | (refine C_id ?_; first | refine C_seq ?_ | refine C_region ?_ | refine C_exit ?_ | refine C_cond_f rfl ?_) | (refine E_id ?_; first | refine E_code ?_ | refine E_then_exit ?_ | refine E_blk_same ?_))
      exact E_mid (α := PG) ⟨m, T, p, z⟩ ⟨rfl, rfl, trivial⟩ ⟨hP, by simp only; omega, hS⟩
  · clear hS0 hP0
    rintro ⟨m, T, p, z⟩ w ⟨hP, hm, hS⟩
    simp only [PG.res, RZ.res] at hP hm hS ⊢
    obtain ⟨r, A, dat, hok, hS⟩ := hS.openItab
    have hqr : ∀ (w : World) (rs : List Res), St W noF rs w → qlog lp q 24 m dat ∈ rs → Rd w (qlog lp q 24 m dat) := fun w rs h hm => h.rd hm
    repeat (first | (refine G_id ?_; first | refine G_plain rfl rfl ?_) | (refine X_id ?_; first | refine X_yl (Yl_move rfl rfl) rfl rfl ?_) | (refine C_id ?_; first | refine C_seq ?_ | refine C_region ?_))
    refine X_callg _ rfl rfl rfl rfl rfl (topen_ rd fs lp q 24 m 5 20 dat A.ents _ (hG0 _ _ hS) (hqr _ _ hS (by simp)) hok.enc (by omega) (by omega) (by omega)) ?_
    rintro _ w ⟨tp2, r2, A2, rfl, hget, hE2, hS'⟩
    replace hS := hS.plus hS'
    clear hS'
    repeat (first | (refine G_id ?_; first | refine G_nil ?_ | refine G_plain rfl rfl ?_) | (refine X_id ?_; first | refine X_yl (Yl_move rfl rfl) rfl rfl ?_ | refine X_yl (Yl_assign rfl rfl) rfl rfl ?_ | refine X_yl (Yl_extract rfl rfl) rfl rfl ?_) | (refine C_id ?_; first | refine C_seq ?_ | refine C_region ?_) | (refine E_id ?_; first | refine E_code ?_))
    refine X_callq _ rfl rfl rfl rfl rfl hS (format_twice lp q 24 m 5 20 dat rd fs _ (hqr _ _ hS (by simp)) hok.enc.len (by omega) (by omega) (by omega) hok.enc.front) ?_
    rintro _ w rfl hS
    repeat (first | (refine G_id ?_; first | refine G_nil ?_ | refine G_plain rfl rfl ?_ | refine G_yes rfl rfl rfl rfl ?_) | (refine X_id ?_; first | (refine X_callq 12 rfl rfl rfl rfl rfl hS (known7_ rd fs _ (hG0 _ _ hS)) ?_; rintro _ _ rfl hS) | refine X_yl (Yl_move rfl rfl) rfl rfl ?_ | refine X_yl (Yl_assign rfl rfl) rfl rfl ?_ | refine X_yl (Yl_extract rfl rfl) rfl rfl ?_ | refine X_yl (Yl_pick_t rfl rfl rfl) rfl rfl ?_ | refine X_yl (Yl_eql_t rfl rfl rfl (by omega)) rfl rfl ?_ | refine X_yl (Yl_neqNil_some rfl rfl rfl) rfl rfl ?_) | (refine C_id ?_; first | refine C_seq ?_ | refine C_region ?_) | (refine E_id ?_; first | refine E_code ?_))
    have hok2 : TabOk rd fs 5 20 T A2 dat := ⟨by
      rw [← hok.tab]
      unfold tabOf
      exact List.map_congr_left fun i _ => by rw [hget], hE2, hok.n1, hok.n4, hok.nb1⟩
    have hI2 : ItabRd _ rd fs tp2 lp q 24 m 5 20 T r2 A2 dat := ⟨hok2, hS.rd (r := tabAt tp2 lp 5 r2) (by simp), hS.rd (r := mapq (Value.int .i64) r2 A2.vals) (by simp), hS.rd (r := bag A2.rows) (by simp), hqr _ _ hS (by simp)⟩
    have hR2 : RtRd _ p 5 20 z.L z.na z.nc z.ia z.ic := ⟨hS.rd (r := rtAt p z.na 5 z.nc z.ia z.ic 20) (by simp), (hS.rd (r := own 62 5 z.na z.nc (z.L.flatMap RN.cells)) (by simp)).own_row, (hS.rd (r := own 4 1 z.ia z.ic (z.L.map RN.isV)) (by simp)).own_row, fun x hx => (hS.rd (r := bag z.X) (by simp)).bag (hP.inX x hx), hP.len, hP.small, by omega, by omega, hP.ncl, hP.icl⟩
    refine X_callq _ rfl rfl rfl rfl rfl hS (tells7_ p z.L z.na z.nc z.ia z.ic _ hI2 hR2 hP.tb) ?_
    rintro _ w rfl hS
    repeat (first | (refine G_id ?_; first | refine G_nil ?_ | refine G_plain rfl rfl ?_ | refine G_yes rfl rfl rfl rfl ?_) | (refine X_id ?_; first | refine X_yl (Yl_move rfl rfl) rfl rfl ?_ | refine X_yl (Yl_assign rfl rfl) rfl rfl ?_ | refine X_yl (Yl_pick_t rfl rfl rfl) rfl rfl ?_ | refine X_yl (Yl_eql_t rfl rfl rfl (by omega)) rfl rfl ?_) | (refine C_id ?_; first | refine C_ret ?_) | (refine E_id ?_; first | refine E_code ?_ | refine E_ret1 rfl (Rv_tmp rfl) (Ret.mk ?_)))
    exact ⟨rfl, hS.drops⟩
end Cr
namespace Cr
open Go Go.Proofs Go.ChangeShapes Go.WideShapes Go.Deep
set_option maxRecDepth 100000
section
variable {H : Type} {enc : TypeId × Value → H} {w : World} {base : Nat} {sp : Nat → Bool} {held : Bool}
instance : Inhabited ChgA := ⟨⟨⟨0, ⟨⟨0, 0, 0, 0⟩, []⟩, false⟩, none, 0⟩⟩
theorem fm1 : ∀ o : List OE, o.flatMap (fun e : OE => [e.val]) = o.map OE.val
  | [] => rfl
  | y :: o => by rw [List.flatMap_cons, fm1 o]; rfl
theorem cells7_chgs : Tryz.prog.cellsOf 30 = 1 := by kernel_rfl
theorem open_chg {fuel : Nat} {cs : List Value} {x : DataW H × List MemPlace} (h : DataW.trod enc Tryz.prog w base sp held fuel 64 cs = some x) :
    ∃ y : ChgA, cs = y.cells ∧ (y.c.nd.data.length ≤ y.k ∧ Rd w (bytes y.a y.c.nd.data)) := by
  obtain ⟨xs, n, _, _, hl, hxl, hf⟩ := DataW.trod_struct Tryz.underlying64 h
  rw [cells7_chg] at hl
  have hxl : xs.length = 3 := hxl
  have f0 : DataW.trod enc Tryz.prog w base sp held n 3 ((List.drop 0 cs).take (Tryz.prog.cellsOf 3)) = xs[0]? := hf 0 _ rfl
  have f1 : DataW.trod enc Tryz.prog w base sp held n 62 ((List.drop 1 cs).take (Tryz.prog.cellsOf 62)) = xs[1]? := hf 1 _ rfl
  have f2 : DataW.trod enc Tryz.prog w base sp held n 4 ((List.drop 6 cs).take (Tryz.prog.cellsOf 4)) = xs[2]? := hf 2 _ rfl
  match cs, hl with
  | [c0, c1, c2, c3, c4, c5, c6], _ =>
    rw [cells7_int, List.getElem?_eq_getElem (by omega)] at f0
    rw [cells7_node, List.getElem?_eq_getElem (by omega)] at f1
    rw [cells7_bool, List.getElem?_eq_getElem (by omega)] at f2
    simp only [List.drop_zero, List.drop_succ_cons, List.take_succ_cons, List.take_zero] at f0 f1 f2
    obtain ⟨n0, rfl⟩ := one_int7 f0
    obtain ⟨y, a, q, e, hq, hb⟩ := open_node f1
    obtain ⟨b6, rfl⟩ := one_bool7 f2
    simp only [ndV, List.cons.injEq, and_true] at e
    obtain ⟨rfl, rfl, rfl, rfl, rfl⟩ := e
    exact ⟨⟨⟨n0, y, b6⟩, a, q⟩, rfl, hq, hb⟩
theorem open_plays {fuel : Nat} {cs : List Value} {x : DataW H × List MemPlace} (h : DataW.trod enc Tryz.prog w base sp held fuel 22 cs = some x) :
    ∃ (a : Option Addr) (o : List OE) (c : Nat), cs = [.slice a o.length c] ∧ Ro w noF (row a (o.map OE.val)) ∧ ∀ e ∈ o, Chgs w noF e.a e.l ∧ ∀ x ∈ e.l, x.c.nd.data.length ≤ x.k := by
  obtain ⟨a, o, c, e, _, _, hr, hall⟩ := open_sliceG (fun e : OE => [e.val]) (fun e => Chgs w noF e.a e.l ∧ ∀ x ∈ e.l, x.c.nd.data.length ≤ x.k) 1 Tryz.underlying22 cells7_chgs (by omega) (fun fuel cs y hh => by
    obtain ⟨a1, l1, c1, e1, _, _, hr1, hall1⟩ := open_sliceG ChgA.cells (fun y => y.c.nd.data.length ≤ y.k ∧ Rd w (bytes y.a y.c.nd.data)) 7 Tryz.underlying30 cells7_chg (by omega) (fun _ _ _ h => open_chg h) hh
    exact ⟨⟨a1, c1, l1⟩, e1, ⟨hr1.ro, fun y hy => (hall1 y hy).1.2.ro⟩, fun y hy => (hall1 y hy).1.1⟩) h
  refine ⟨a, o, c, e, ?_, fun e he => (hall e he).1⟩
  rw [fm1] at hr
  exact hr.ro
end
end Cr
