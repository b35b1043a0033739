/-
  creelref03.Read: what it tells is what pv says.
  creelref27.Read: the record that bytes say, the document's.
  The law AuditReads: for every bytes it returns true.
  The law AuditReads holds: for every bytes it returns true, and what is handed reads as it did.
-/
import Derived.Test.YtkdolbmcnekeoaaDoorAud7
import Derived.Test.YtkdolbmcnekeoaaDoorAud6
import Derived.Test.YtkdolbmcnekeoaaDoorAud5
import Derived.Test.YtkdolbmcnekeoaaDoorAud3
namespace Cr
open Go Go.Proofs
set_option maxRecDepth 100000
set_option maxHeartbeats 8000000
attribute [local irreducible] Calls

theorem St.addTop {W : World} {F : Nat → Prop} {r : Res} {w : World} (y : Leaf) (nodes : List Leaf) (cs : List Value) (hS : St W F [r] w) : St W F [r, topX (.leaf y) nodes cs] w :=
  hS.imp fun _ h => Sep.swap (Sep.shut_head (ps := []) (fun _ hg => hg) h)
theorem read_of (a : Option Addr) (s : List UInt8) (c : Nat) (hsc : s.length ≤ c) (hl : s.length ≤ 65536) (f : Nat) (hv : ∀ g, g < f → ReadOk a s c g) : ReadOk a s c f := by
  intro i deep W al ql x rows hi hd hf hxi hb hal hN
  obtain ⟨f, rfl⟩ : ∃ g, f = g + 1 := ⟨f - 1, by omega⟩
  have hS := St.start W
  have at_ : ∀ {j : Nat} {x : UInt8}, s[j]? = some x → s.getD ((((j : Nat) : Int)).toNat * 1) 0 = x := fun {j x} hx => by
    rw [List.getD_eq_getElem?_getD, show ((((j : Nat) : Int)).toNat * 1) = j by omega, hx]; rfl
  by_cases hlt : i < s.length
  case neg =>
    rw [List.drop_of_length_le (by omega), pv_nil]
    refine calls_C Tryd.func45 rfl Tryd.ntmps45 rfl ?_
    repeat (first | (refine G_id ?_; first | refine G_nil ?_ | refine G_plain rfl rfl ?_) | (refine X_id ?_; first | refine X_yl (Yl_move rfl rfl) rfl rfl ?_ | refine X_yl (Yl_assign rfl rfl) rfl rfl ?_ | refine X_yl (Yl_len rfl rfl) rfl rfl ?_ | refine X_yl (Yl_geq_t rfl rfl rfl (by omega)) rfl rfl ?_) | (refine C_id ?_; first | refine C_seq ?_ | refine C_region ?_ | refine C_ret ?_ | refine C_cond_t rfl ?_) | (refine E_id ?_; first | refine E_code ?_ | refine E_then_ret ?_ | refine E_ret4 rfl (Rv_tmp rfl) (Rv_tmp rfl) (Rv_tmp rfl) (Rv_tmp rfl) (Ret.mk ?_)))
    exact ⟨_, _, _, _, _, _, rfl, by decide, hS⟩
  obtain ⟨ab, ao, rfl⟩ := hb.start.base (by intro e; have := bv_length s; rw [e] at this; simp at this; omega)
  obtain ⟨x0, hx0⟩ : ∃ x, s[i]? = some x := ⟨_, List.getElem?_eq_getElem hlt⟩
  have hdr : s.drop i = x0 :: s.drop (i + 1) := by
    rw [List.drop_eq_getElem_cons hlt]
    rw [List.getElem?_eq_getElem hlt] at hx0
    rw [Option.some.inj hx0]
  have hxa := at_ hx0
  have e40 : (40 : UInt8).toNat = 40 := rfl
  have e105 : (105 : UInt8).toNat = 105 := rfl
  by_cases h40 : x0 = 40
  case pos =>
    subst h40
    have hx40 : (s.getD ((((i : Nat) : Int)).toNat * 1) 0).toNat = 40 := by rw [hxa]; rfl
    rw [hdr, pv_list]
    by_cases h8 : 8 < deep
    · rw [if_pos h8]
      refine calls_C Tryd.func45 rfl Tryd.ntmps45 rfl ?_
      repeat (first | (refine G_id ?_; first | refine G_nil ?_ | refine G_plain rfl rfl ?_) | (refine X_id ?_; first | refine X_yl (Yl_move rfl rfl) rfl rfl ?_ | refine X_yl (Yl_assign rfl rfl) rfl rfl ?_ | refine X_yl (Yl_len rfl rfl) rfl rfl ?_ | refine X_yl (Yl_eql_t rfl rfl rfl (by omega)) rfl rfl ?_ | refine X_yl (Yl_gtr_t rfl rfl rfl (by omega)) rfl rfl ?_ | refine X_yl (Yl_geq_f rfl rfl rfl (by omega)) rfl rfl ?_ | refine X_yl (Yl_indexAddr rfl rfl rfl (by omega) (by omega) (by first | assumption | exact ⟨_, _, rfl⟩)) rfl rfl ?_ | refine X_yl (Yl_load rfl rfl ((hb.rd hS).cellB' (by omega))) rfl rfl ?_) | (refine C_id ?_; first | refine C_seq ?_ | refine C_region ?_ | refine C_ret ?_ | refine C_skip ?_ | refine C_cond_t rfl ?_ | refine C_cond_f rfl ?_) | (refine E_id ?_; first | refine E_code ?_ | refine E_then_ret ?_ | refine E_ret4 rfl (Rv_tmp rfl) (Rv_tmp rfl) (Rv_tmp rfl) (Rv_tmp rfl) (Ret.mk ?_)))
      exact ⟨_, _, _, _, _, _, rfl, by decide, hS⟩
    rw [if_neg h8]
    obtain ⟨res, hres⟩ : ∃ res, res = pl f deep (s.drop (i + 1)) := ⟨_, rfl⟩
    rw [← hres]
    refine calls_C Tryd.func45 rfl Tryd.ntmps45 rfl ?_
    repeat (first | (refine G_id ?_; first | refine G_nil ?_ | refine G_plain rfl rfl ?_) | (refine X_id ?_; first | refine X_yl (Yl_move rfl rfl) rfl rfl ?_ | refine X_yl (Yl_assign rfl rfl) rfl rfl ?_ | refine X_yl (Yl_len rfl rfl) rfl rfl ?_ | refine X_yl (Yl_eql_t rfl rfl rfl (by omega)) rfl rfl ?_ | refine X_yl (Yl_gtr_f rfl rfl rfl (by omega)) rfl rfl ?_ | refine X_yl (Yl_geq_f rfl rfl rfl (by omega)) rfl rfl ?_ | refine X_yl (Yl_indexAddr rfl rfl rfl (by omega) (by omega) (by first | assumption | exact ⟨_, _, rfl⟩)) rfl rfl ?_ | refine X_yl (Yl_add rfl rfl rfl (w64 (by omega) (by omega))) rfl rfl ?_ | refine X_yl (Yl_load rfl rfl ((hb.rd hS).cellB' (by omega))) rfl rfl ?_) | (refine C_id ?_; first | refine C_seq ?_ | refine C_region ?_ | refine C_block ?_ | refine C_skip ?_ | refine C_cond_t rfl ?_ | refine C_cond_f rfl ?_) | (refine E_id ?_; first | refine E_code ?_))
    refine C_joinB (α := Option Addr × Nat × Nat × Nat × Option Addr × Nat × Nat) (fun z => [(0, .slice z.1 z.2.1 z.2.2.1), (1, .slice (some ⟨ab, ao, none⟩) s.length c), (2, .int .i64 (z.2.2.2.1 : Nat)), (12, .slice z.2.2.2.2.1 z.2.2.2.2.2.1 z.2.2.2.2.2.2)])
      (RFin (some ⟨ab, ao, none⟩) s c i x res W) ?_ ?_
    · refine C_loop (α := Option Addr × Nat × Nat × Nat × Option Addr × Nat × Nat) (fun z => [(0, .slice z.1 z.2.1 z.2.2.1), (1, .slice (some ⟨ab, ao, none⟩) s.length c), (2, .int .i64 (z.2.2.2.1 : Nat)), (3, .int .i64 (deep : Nat)), (12, .slice z.2.2.2.2.1 z.2.2.2.2.2.1 z.2.2.2.2.2.2)])
        (RInv f (some ⟨ab, ao, none⟩) s c i deep x res W) (fun z => s.length - z.2.2.2.1) (al, x.length, ql, i + 1, none, 0, 0) ⟨rfl, rfl, rfl, rfl, rfl, trivial⟩
        ⟨f, x, rows, [], [], rfl, rfl, rfl, Nat.le_refl _, hlt, by dsimp only; omega, Nat.zero_le _, by dsimp only; omega, Nat.le_refl _, ⟨[], by simp⟩, hN, fun j q h => by simp at h, by rw [hres]; cases pl f deep (s.drop (i + 1)) <;> simp, (hS.own_none _ _ _).keepRo hal⟩ ?_
      clear hS
      rintro ⟨al1, n, ql1, p, lb, m, lc⟩ w ⟨g, y, rows1, ys, is, hn, hm, his, hlc, hp, hcnt, hysp, hg, hgt, ⟨u, hu⟩, hN1, hix, hr, hS⟩
      simp only at hn hm hlc hp hcnt hysp hg hr hS
      subst hn hm
      refine C_sub (σ' := [(0, .slice al1 y.length ql1), (1, .slice (some ⟨ab, ao, none⟩) s.length c), (2, .int .i64 (p : Nat)), (3, .int .i64 (deep : Nat)), (12, .slice lb ys.length lc)]) ⟨rfl, rfl, rfl, rfl, rfl, trivial⟩ ?_
      by_cases hlt2 : p < s.length
      · obtain ⟨x1, hx1⟩ : ∃ x, s[p]? = some x := ⟨_, List.getElem?_eq_getElem hlt2⟩
        have hxb := at_ hx1
        obtain ⟨g', rfl⟩ : ∃ g', g = g' + 1 := ⟨g - 1, by omega⟩
        by_cases h41 : x1 = 41
        · have hx41 : (s.getD ((((p : Nat) : Int)).toNat * 1) 0).toNat = 41 := by rw [hxb, h41]; rfl
          repeat (first | (refine G_id ?_; first | refine G_nil ?_ | refine G_plain rfl rfl ?_ | refine G_yes rfl rfl rfl rfl ?_) | (refine X_id ?_; first | refine X_yl (Yl_move rfl rfl) rfl rfl ?_ | refine X_yl (Yl_pick_t rfl rfl rfl) rfl rfl ?_ | refine X_yl (Yl_len rfl rfl) rfl rfl ?_ | refine X_yl (Yl_neq_f rfl rfl rfl (by omega)) rfl rfl ?_ | refine X_yl (Yl_lss_t rfl rfl rfl (by omega)) rfl rfl ?_ | refine X_yl (Yl_indexAddr rfl rfl rfl (by omega) (by omega) (by first | assumption | exact ⟨_, _, rfl⟩)) rfl rfl ?_ | refine X_yl (Yl_load rfl rfl ((hb.rd hS).cellB' (by omega))) rfl rfl ?_) | (refine C_id ?_; first | refine C_seq ?_ | refine C_region ?_ | refine C_exit ?_ | refine C_cond_f rfl ?_) | (refine E_id ?_; first | refine E_code ?_ | refine E_then_exit ?_ | refine E_blk_same ?_))
          refine E_mid (al1, y.length, ql1, p, lb, ys.length, lc) ⟨rfl, rfl, rfl, rfl, trivial⟩ (.inr ⟨y, rows1, ys, is, rfl, rfl, his, hlt2, hcnt, ⟨u, hu⟩, hN1, hix, ?_, hS⟩)
          rw [hr, List.drop_eq_getElem_cons hlt2, show s[p] = 41 by rw [List.getElem?_eq_getElem hlt2] at hx1; rw [Option.some.inj hx1, h41], pl, if_pos rfl]
          simp
        · have hx41 : ¬ (s.getD ((((p : Nat) : Int)).toNat * 1) 0).toNat = 41 := by
            rw [hxb]
            intro q
            exact h41 (UInt8.toNat_inj.1 q)
          rw [pl_step g' deep _ (by rw [List.head?_drop, hx1]; exact fun q => h41 (Option.some.inj q))] at hr
          repeat (first | (refine G_id ?_; first | refine G_nil ?_ | refine G_plain rfl rfl ?_ | refine G_yes rfl rfl rfl rfl ?_) | (refine X_id ?_; first | refine X_yl (Yl_move rfl rfl) rfl rfl ?_ | refine X_yl (Yl_pick_t rfl rfl rfl) rfl rfl ?_ | refine X_yl (Yl_len rfl rfl) rfl rfl ?_ | refine X_yl (Yl_neq_t rfl rfl rfl (by omega)) rfl rfl ?_ | refine X_yl (Yl_lss_t rfl rfl rfl (by omega)) rfl rfl ?_ | refine X_yl (Yl_indexAddr rfl rfl rfl (by omega) (by omega) (by first | assumption | exact ⟨_, _, rfl⟩)) rfl rfl ?_ | refine X_yl (Yl_add rfl rfl rfl (w64 (by omega) (by omega))) rfl rfl ?_ | refine X_yl (Yl_load rfl rfl ((hb.rd hS).cellB' (by omega))) rfl rfl ?_) | (refine C_id ?_; first | refine C_seq ?_ | refine C_region ?_ | refine C_block ?_ | refine C_skip ?_ | refine C_cond_t rfl ?_) | (refine E_id ?_; first | refine E_code ?_))
          refine X_callg _ rfl rfl rfl rfl rfl (hv g' (by omega) p (deep + 1) _ al1 ql1 y rows1 hp (by omega) (by omega) (by omega) (hb.rd hS).ro hS.keep.ro hN1) ?_
          rintro v w' hV
          cases hpv : pv g' (deep + 1) (s.drop p) with
          | none =>
            rw [hpv] at hV hr
            obtain ⟨al2, n2, q2, k2, j2, e2, rfl, he2, hS'⟩ := hV
            replace hS := hS.plus hS'
            clear hS'
            simp only at hr
            repeat (first | (refine G_id ?_; first | refine G_nil ?_ | refine G_plain rfl rfl ?_) | (refine X_id ?_; first | refine X_yl (Yl_move rfl rfl) rfl rfl ?_ | refine X_yl (Yl_assign rfl rfl) rfl rfl ?_ | refine X_yl (Yl_extract rfl rfl) rfl rfl ?_ | refine X_yl (Yl_neq_t rfl rfl rfl (by omega)) rfl rfl ?_) | (refine C_id ?_; first | refine C_seq ?_ | refine C_region ?_ | refine C_ret ?_ | refine C_cond_t rfl ?_) | (refine E_id ?_; first | refine E_code ?_ | refine E_then_ret ?_ | refine E_blk_ret ?_ | refine E_ret4 rfl (Rv_tmp rfl) (Rv_tmp rfl) (Rv_tmp rfl) (Rv_tmp rfl) (Ret.mk ?_)))
            rw [hr]
            exact ⟨_, _, _, _, _, _, rfl, he2, hS.drops⟩
          | some ul =>
            obtain ⟨t, l⟩ := ul
            rw [hpv] at hV hr
            obtain ⟨al2, q2, j2, y2, rows2, cs2, rfl, hj2, hdj2, hcnt2, hN2, hcs2, ⟨u2, hu2⟩, hS'⟩ := hV
            replace hS := hS.plus hS'
            clear hS'
            have hlen := (p_len g').1 _ _ _ _ hpv
            rw [← hdj2] at hlen hr
            simp only [List.length_drop] at hlen
            simp only at hr
            have hyl := congrArg List.length hu2
            simp only [List.length_append] at hyl
            repeat (first | (refine G_id ?_; first | refine G_nil ?_ | refine G_plain rfl rfl ?_) | (refine X_id ?_; first | refine X_yl (Yl_move rfl rfl) rfl rfl ?_ | refine X_yl (Yl_assign rfl rfl) rfl rfl ?_ | refine X_yl (Yl_extract rfl rfl) rfl rfl ?_ | refine X_yl (Yl_neq_f rfl rfl rfl (by omega)) rfl rfl ?_ | refine X_buildSlice rfl rfl rfl rfl rfl rfl rfl rfl hS (fun _ _ hS _ => ?_)) | (refine C_id ?_; first | refine C_seq ?_ | refine C_region ?_ | refine C_skip ?_ | refine C_cond_f rfl ?_) | (refine E_id ?_; first | refine E_code ?_))
            have hnw := (hS.rd (List.mem_cons_self ..)).own_row
            refine X_append rfl rfl rfl rfl rfl hS (by simp [ixs, his]) hlc hnw rfl (by simp [Value.oneCell']) (by omega) (by simp only [maxLen]; omega) (fun b' q' w hS hq' _ => ?_)
            repeat (first | (refine G_id ?_; first | refine G_nil ?_ | refine G_plain rfl rfl ?_) | (refine X_id ?_; first | refine X_yl (Yl_assign rfl rfl) rfl rfl ?_) | (refine E_id ?_; first | refine E_blk_n ?_))
            refine E_round (z := (al1, y.length, ql1, p, lb, ys.length, lc)) (al2, y2.length + 1, q2, j2, b', ys.length + 1, q') ⟨rfl, rfl, rfl, rfl, rfl, trivial⟩
              ⟨g', y2 ++ [t.shut], rows2, ys ++ [t.shut], is ++ [y2.length], by simp, by simp, by simp [his], by simpa using hq', hj2, by simp; omega, by simp; omega, by dsimp only; omega, by omega, ⟨u ++ u2 ++ [t.shut], by rw [hu2, hu]; simp⟩, hN2, ?_, ?_, ?_⟩ (by dsimp only; omega)
            · intro j q hq
              rcases Nat.lt_or_ge j ys.length with hj | hj
              · rw [List.getElem?_append_left hj] at hq
                obtain ⟨i1, h1, h2⟩ := hix j q hq
                have hiy := (List.getElem?_eq_some_iff.1 h2).1
                refine ⟨i1, by rw [List.getElem?_append_left (by rw [his]; exact hj)]; exact h1, ?_⟩
                rw [hu2, List.append_assoc, List.getElem?_append_left hiy]
                exact h2
              · have hjl := (List.getElem?_eq_some_iff.1 hq).1
                simp only [List.length_append, List.length_singleton] at hjl
                obtain rfl : j = ys.length := by omega
                rw [List.getElem?_append_right (Nat.le_refl _), Nat.sub_self] at hq
                obtain rfl := Option.some.inj hq
                exact ⟨y2.length, by rw [← his, List.getElem?_append_right (Nat.le_refl _), Nat.sub_self]; rfl, by rw [List.getElem?_append_right (Nat.le_refl _), Nat.sub_self]; rfl⟩
            · rw [hr]
              cases pl g' deep (s.drop j2) with
              | none => rfl
              | some q => simp
            · rw [show ixs (is ++ [y2.length]) = ixs is ++ [Value.int .i64 (y2.length : Nat)] by simp [ixs]]
              have hS := hS.pick [2, 0]
              exact hS.head (fun _ h => .inl h)
      · have hd0 : s.drop p = [] := List.drop_of_length_le (by omega)
        repeat (first | (refine G_id ?_; first | refine G_nil ?_ | refine G_plain rfl rfl ?_ | refine G_no rfl rfl rfl rfl rfl rfl ?_) | (refine X_id ?_; first | refine X_yl (Yl_move rfl rfl) rfl rfl ?_ | refine X_yl (Yl_pick_f rfl rfl rfl) rfl rfl ?_ | refine X_yl (Yl_len rfl rfl) rfl rfl ?_ | refine X_yl (Yl_lss_f rfl rfl rfl (by omega)) rfl rfl ?_) | (refine C_id ?_; first | refine C_seq ?_ | refine C_region ?_ | refine C_exit ?_ | refine C_cond_f rfl ?_) | (refine E_id ?_; first | refine E_code ?_ | refine E_then_exit ?_ | refine E_blk_same ?_))
        refine E_mid (al1, y.length, ql1, p, lb, ys.length, lc) ⟨rfl, rfl, rfl, rfl, trivial⟩ (.inl ⟨by dsimp only; omega, ?_, hS.drops⟩)
        rw [hr, hd0]
        obtain ⟨g', rfl⟩ : ∃ g', g = g' + 1 := ⟨g - 1, by omega⟩
        rw [pl]; rfl
    · clear hS
      rintro ⟨al1, n, ql1, p, lb, m, lc⟩ w (⟨hp, hr, hS⟩ | ⟨y, rows1, ys, is, hn, hm, his, hp, hcnt, ⟨u, hu⟩, hN1, hix, hr, hS⟩)
      · simp only at hp
        rw [hr]
        refine C_sub (σ' := [(0, .slice al1 n ql1), (1, .slice (some ⟨ab, ao, none⟩) s.length c), (2, .int .i64 (p : Nat)), (12, .slice lb m lc)]) ⟨rfl, rfl, rfl, rfl, trivial⟩ ?_
        repeat (first | (refine G_id ?_; first | refine G_nil ?_ | refine G_plain rfl rfl ?_) | (refine X_id ?_; first | refine X_yl (Yl_move rfl rfl) rfl rfl ?_ | refine X_yl (Yl_assign rfl rfl) rfl rfl ?_ | refine X_yl (Yl_len rfl rfl) rfl rfl ?_ | refine X_yl (Yl_geq_t rfl rfl rfl (by omega)) rfl rfl ?_) | (refine C_id ?_; first | refine C_seq ?_ | refine C_region ?_ | refine C_ret ?_ | refine C_cond_t rfl ?_) | (refine E_id ?_; first | refine E_code ?_ | refine E_then_ret ?_ | refine E_ret4 rfl (Rv_tmp rfl) (Rv_tmp rfl) (Rv_tmp rfl) (Rv_tmp rfl) (Ret.mk ?_)))
        exact ⟨_, _, _, _, _, _, rfl, by decide, hS⟩
      · simp only at hn hm hp hcnt hr hS
        subst hn hm
        rw [hr]
        refine C_sub (σ' := [(0, .slice al1 y.length ql1), (1, .slice (some ⟨ab, ao, none⟩) s.length c), (2, .int .i64 (p : Nat)), (12, .slice lb ys.length lc)]) ⟨rfl, rfl, rfl, rfl, trivial⟩ ?_
        repeat (first | (refine G_id ?_; first | refine G_nil ?_ | refine G_plain rfl rfl ?_) | (refine X_id ?_; first | refine X_yl (Yl_move rfl rfl) rfl rfl ?_ | refine X_yl (Yl_len rfl rfl) rfl rfl ?_ | refine X_yl (Yl_geq_f rfl rfl rfl (by omega)) rfl rfl ?_ | refine X_buildSlice rfl rfl rfl rfl rfl rfl rfl rfl hS (fun _ _ hS _ => ?_)) | (refine C_id ?_; first | refine C_seq ?_ | refine C_region ?_ | refine C_skip ?_ | refine C_cond_f rfl ?_) | (refine E_id ?_; first | refine E_code ?_))
        have hkp := (hS.pick [1]).keep
        refine X_append rfl rfl rfl rfl rfl hS rfl (Nat.le_refl _) hkp hN1.flat hN1.one (by omega) (by simp only [maxLen]; omega) (fun a2 q2 w hS hq2 _ => ?_)
        rw [Nat.zero_add] at hq2 ⊢
        rw [List.nil_append] at hS
        repeat (first | (refine G_id ?_; first | refine G_plain rfl rfl ?_) | (refine X_id ?_; first | refine X_yl (Yl_move rfl rfl) rfl rfl ?_ | refine X_yl (Yl_build rfl rfl rfl) rfl rfl ?_ | refine X_buildSlice rfl rfl rfl rfl rfl rfl rfl rfl hS (fun _ _ hS _ => ?_)))
        have hnw := (hS.rd (List.mem_cons_self ..)).own_row
        refine X_append rfl rfl rfl rfl rfl hS hN1.flat hq2 hnw rfl (by simp [Value.oneCell']) (by omega) (by simp only [maxLen]; omega) (fun a3 q3 w hS hq3 _ => ?_)
        have e1 : ((y.length + 1 : Nat) : Int) - 1 = (y.length : Int) := by omega
        repeat (first | (refine G_id ?_; first | refine G_nil ?_ | refine G_plain rfl rfl ?_) | (refine X_id ?_; first | refine X_yl (Yl_move rfl rfl) rfl rfl ?_ | refine X_yl (Yl_assign rfl rfl) rfl rfl ?_ | refine X_yl (Yl_len rfl rfl) rfl rfl ?_ | refine X_yl (Yl_add rfl rfl rfl (w64 (by omega) (by omega))) rfl rfl ?_ | refine X_yl (Yl_sub rfl rfl rfl (w64 (by omega) (by omega))) rfl rfl ?_) | (refine C_id ?_; first | refine C_seq ?_ | refine C_region ?_ | refine C_ret ?_) | (refine E_id ?_; first | refine E_code ?_ | refine E_then_ret ?_ | refine E_ret4 rfl (Rv_tmp rfl) (Rv_tmp rfl) (Rv_tmp rfl) (Rv_tmp rfl) (Ret.mk ?_)))
        rw [e1]
        refine ⟨a3, q3, p + 1, y, rows1 ++ [[.int .i64 2, .int .i64 0, .slice none 0 0, .slice lb ys.length lc]], [.int .i64 2, .int .i64 0, .slice none 0 0, .slice lb ys.length lc], rfl, hp, rfl, by omega, hN1.snoc ⟨lb, ys.length, lc, rfl⟩, ?_, ⟨u, hu⟩, ?_⟩
        · rw [← hN1.1, List.getElem?_append_right (Nat.le_refl _), Nat.sub_self]; rfl
        · rw [List.flatten_append]
          have hS := hS.pick [3, 0]
          have hS := hS.head (r' := topX (.list ys) y [.int .i64 2, .int .i64 0, .slice none 0 0, .slice lb ys.length lc]) (fun _ h => ⟨lb, lc, is, rfl, his, hix, h.row⟩)
          have hS := hS.pick [1, 0]
          exact hS.head (fun _ h => h.row)
  case neg =>
    have hx40 : ¬ (s.getD ((((i : Nat) : Int)).toNat * 1) 0).toNat = 40 := by
      rw [hxa]
      exact fun q => h40 (UInt8.toNat_inj.1 q)
    by_cases h105 : x0 = 105
    case pos =>
      subst h105
      have hx105 : (s.getD ((((i : Nat) : Int)).toNat * 1) 0).toNat = 105 := by rw [hxa]; rfl
      rw [hdr, pv_num]
      have hnum := fun W h => rnumber_ (some ⟨ab, ao, none⟩) s c (i + 1) true 59 hsc (by omega) (by omega) W h
      have hnl : ∀ n t, num true 59 (s.drop (i + 1)) = some (n, t) → t.length < s.length - (i + 1) := fun n t h => by
        have := num_len h
        rwa [List.length_drop] at this
      generalize num true 59 (s.drop (i + 1)) = res at hnum hnl ⊢
      refine calls_C Tryd.func45 rfl Tryd.ntmps45 rfl ?_
      repeat (first | (refine G_id ?_; first | refine G_nil ?_ | refine G_plain rfl rfl ?_) | (refine X_id ?_; first | refine X_yl (Yl_move rfl rfl) rfl rfl ?_ | refine X_yl (Yl_assign rfl rfl) rfl rfl ?_ | refine X_yl (Yl_len rfl rfl) rfl rfl ?_ | refine X_yl (Yl_eql_t rfl rfl rfl (by omega)) rfl rfl ?_ | refine X_yl (Yl_eql_f rfl rfl rfl (by omega)) rfl rfl ?_ | refine X_yl (Yl_geq_f rfl rfl rfl (by omega)) rfl rfl ?_ | refine X_yl (Yl_indexAddr rfl rfl rfl (by omega) (by omega) (by first | assumption | exact ⟨_, _, rfl⟩)) rfl rfl ?_ | refine X_yl (Yl_add rfl rfl rfl (w64 (by omega) (by omega))) rfl rfl ?_ | refine X_yl (Yl_load rfl rfl ((hb.rd hS).cellB' (by omega))) rfl rfl ?_) | (refine C_id ?_; first | refine C_seq ?_ | refine C_region ?_ | refine C_skip ?_ | refine C_cond_t rfl ?_ | refine C_cond_f rfl ?_) | (refine E_id ?_; first | refine E_code ?_))
      refine X_callg _ rfl rfl rfl rfl rfl (hnum _ (hb.rd hS).ro) ?_
      rintro v w hV
      cases res with
      | none =>
        obtain ⟨⟨j, e, rfl, he⟩, hS'⟩ := hV
        replace hS := hS.plus hS'
        clear hS'
        repeat (first | (refine G_id ?_; first | refine G_nil ?_ | refine G_plain rfl rfl ?_) | (refine X_id ?_; first | refine X_yl (Yl_move rfl rfl) rfl rfl ?_ | refine X_yl (Yl_assign rfl rfl) rfl rfl ?_ | refine X_yl (Yl_extract rfl rfl) rfl rfl ?_ | refine X_yl (Yl_neq_t rfl rfl rfl (by omega)) rfl rfl ?_) | (refine C_id ?_; first | refine C_seq ?_ | refine C_region ?_ | refine C_ret ?_ | refine C_cond_t rfl ?_) | (refine E_id ?_; first | refine E_code ?_ | refine E_then_ret ?_ | refine E_ret4 rfl (Rv_tmp rfl) (Rv_tmp rfl) (Rv_tmp rfl) (Rv_tmp rfl) (Ret.mk ?_)))
        exact ⟨_, _, _, _, _, _, rfl, he, hS.drops⟩
      | some u =>
        obtain ⟨n, t⟩ := u
        obtain ⟨⟨j, rfl, hj, hdj⟩, hS'⟩ := hV
        replace hS := hS.plus hS'
        clear hS'
        have hlen := hnl n t rfl
        rw [← hdj, List.length_drop] at hlen
        have hN3 : Nodes (some ⟨ab, ao, none⟩) s c (x ++ [(Top.leaf (.num n)).shut]) (rows ++ [[.int .i64 0, .int .i64 n, .slice none 0 0, .slice none 0 0]]) := hN.snoc rfl
        have hL3 : (rows ++ [[.int .i64 0, .int .i64 n, .slice none 0 0, .slice none 0 0]])[x.length]? = some [.int .i64 0, .int .i64 n, .slice none 0 0, .slice none 0 0] := by rw [← hN.1, List.getElem?_append_right (Nat.le_refl _), Nat.sub_self]; rfl
        repeat (first | (refine G_id ?_; first | refine G_nil ?_ | refine G_plain rfl rfl ?_) | (refine X_id ?_; first | refine X_yl (Yl_move rfl rfl) rfl rfl ?_ | refine X_yl (Yl_assign rfl rfl) rfl rfl ?_ | refine X_yl (Yl_extract rfl rfl) rfl rfl ?_ | refine X_yl (Yl_neq_f rfl rfl rfl (by omega)) rfl rfl ?_ | refine X_buildSlice rfl rfl rfl rfl rfl rfl rfl rfl hS (fun _ _ hS _ => ?_)) | (refine C_id ?_; first | refine C_seq ?_ | refine C_region ?_ | refine C_skip ?_ | refine C_cond_f rfl ?_) | (refine E_id ?_; first | refine E_code ?_))
        refine X_append rfl rfl rfl rfl rfl hS rfl (Nat.le_refl _) (hal.rd hS) hN.flat hN.one (by omega) (by simp only [maxLen]; omega) (fun a2 q2 w hS hq2 _ => ?_)
        rw [Nat.zero_add] at hq2 ⊢
        rw [List.nil_append] at hS
        repeat (first | (refine G_id ?_; first | refine G_plain rfl rfl ?_) | (refine X_id ?_; first | refine X_yl (Yl_move rfl rfl) rfl rfl ?_ | refine X_yl (Yl_build rfl rfl rfl) rfl rfl ?_ | refine X_buildSlice rfl rfl rfl rfl rfl rfl rfl rfl hS (fun _ _ hS _ => ?_)))
        have hnw := (hS.rd (List.mem_cons_self ..)).own_row
        refine X_append rfl rfl rfl rfl rfl hS hN.flat hq2 hnw rfl (by simp [Value.oneCell']) (by omega) (by simp only [maxLen]; omega) (fun a3 q3 w hS hq3 _ => ?_)
        have e1 : ((x.length + 1 : Nat) : Int) - 1 = (x.length : Int) := by omega
        repeat (first | (refine G_id ?_; first | refine G_nil ?_ | refine G_plain rfl rfl ?_) | (refine X_id ?_; first | refine X_yl (Yl_move rfl rfl) rfl rfl ?_ | refine X_yl (Yl_assign rfl rfl) rfl rfl ?_ | refine X_yl (Yl_len rfl rfl) rfl rfl ?_ | refine X_yl (Yl_sub rfl rfl rfl (w64 (by omega) (by omega))) rfl rfl ?_) | (refine C_id ?_; first | refine C_seq ?_ | refine C_region ?_ | refine C_ret ?_) | (refine E_id ?_; first | refine E_code ?_ | refine E_then_ret ?_ | refine E_ret4 rfl (Rv_tmp rfl) (Rv_tmp rfl) (Rv_tmp rfl) (Rv_tmp rfl) (Ret.mk ?_)))
        rw [e1]
        refine ⟨a3, q3, j, x, _, _, rfl, hj, hdj, by omega, hN3, hL3, ⟨[], by simp⟩, ?_⟩
        · rw [List.flatten_append]
          have hS := hS.pick [0]
          exact (hS.head (fun _ h => h.row)).addTop _ _ _
    case neg =>
      have hx105 : ¬ (s.getD ((((i : Nat) : Int)).toNat * 1) 0).toNat = 105 := by
        rw [hxa]
        exact fun q => h105 (UInt8.toNat_inj.1 q)
      rw [hdr, pv_txt _ _ _ _ h40 h105, ← hdr]
      have hnum := fun W h => rnumber_ (some ⟨ab, ao, none⟩) s c i false 58 hsc (by omega) (by omega) W h
      have hnl : ∀ n t, num false 58 (s.drop i) = some (n, t) → t.length < s.length - i ∧ 0 ≤ n := fun n t h => by
        have := num_len h
        rw [List.length_drop] at this
        exact ⟨this, num_nonneg h⟩
      generalize num false 58 (s.drop i) = res at hnum hnl ⊢
      refine calls_C Tryd.func45 rfl Tryd.ntmps45 rfl ?_
      repeat (first | (refine G_id ?_; first | refine G_nil ?_ | refine G_plain rfl rfl ?_) | (refine X_id ?_; first | refine X_yl (Yl_move rfl rfl) rfl rfl ?_ | refine X_yl (Yl_assign rfl rfl) rfl rfl ?_ | refine X_yl (Yl_len rfl rfl) rfl rfl ?_ | refine X_yl (Yl_eql_f rfl rfl rfl (by omega)) rfl rfl ?_ | refine X_yl (Yl_geq_f rfl rfl rfl (by omega)) rfl rfl ?_ | refine X_yl (Yl_indexAddr rfl rfl rfl (by omega) (by omega) (by first | assumption | exact ⟨_, _, rfl⟩)) rfl rfl ?_ | refine X_yl (Yl_load rfl rfl ((hb.rd hS).cellB' (by omega))) rfl rfl ?_) | (refine C_id ?_; first | refine C_seq ?_ | refine C_region ?_ | refine C_skip ?_ | refine C_cond_f rfl ?_) | (refine E_id ?_; first | refine E_code ?_))
      refine X_callg _ rfl rfl rfl rfl rfl (hnum _ (hb.rd hS).ro) ?_
      rintro v w hV
      cases res with
      | none =>
        obtain ⟨⟨j, e, rfl, he⟩, hS'⟩ := hV
        replace hS := hS.plus hS'
        clear hS'
        repeat (first | (refine G_id ?_; first | refine G_nil ?_ | refine G_plain rfl rfl ?_) | (refine X_id ?_; first | refine X_yl (Yl_move rfl rfl) rfl rfl ?_ | refine X_yl (Yl_assign rfl rfl) rfl rfl ?_ | refine X_yl (Yl_extract rfl rfl) rfl rfl ?_ | refine X_yl (Yl_neq_t rfl rfl rfl (by omega)) rfl rfl ?_) | (refine C_id ?_; first | refine C_seq ?_ | refine C_region ?_ | refine C_ret ?_ | refine C_cond_t rfl ?_) | (refine E_id ?_; first | refine E_code ?_ | refine E_then_ret ?_ | refine E_ret4 rfl (Rv_tmp rfl) (Rv_tmp rfl) (Rv_tmp rfl) (Rv_tmp rfl) (Ret.mk ?_)))
        exact ⟨_, _, _, _, _, _, rfl, he, hS.drops⟩
      | some u =>
        obtain ⟨n, t⟩ := u
        obtain ⟨⟨j, rfl, hj, hdj⟩, hS'⟩ := hV
        replace hS := hS.plus hS'
        clear hS'
        obtain ⟨hlen, hn0⟩ := hnl n t rfl
        obtain ⟨m, rfl⟩ : ∃ m : Nat, n = m := ⟨n.toNat, by omega⟩
        have htl : t.length = s.length - j := by rw [← hdj, List.length_drop]
        simp only [Option.bind_some, Int.toNat_natCast]
        by_cases hmt : m ≤ t.length
        case neg =>
          rw [if_neg hmt]
          repeat (first | (refine G_id ?_; first | refine G_nil ?_ | refine G_plain rfl rfl ?_) | (refine X_id ?_; first | refine X_yl (Yl_move rfl rfl) rfl rfl ?_ | refine X_yl (Yl_assign rfl rfl) rfl rfl ?_ | refine X_yl (Yl_extract rfl rfl) rfl rfl ?_ | refine X_yl (Yl_len rfl rfl) rfl rfl ?_ | refine X_yl (Yl_neq_f rfl rfl rfl (by omega)) rfl rfl ?_ | refine X_yl (Yl_gtr_t rfl rfl rfl (by omega)) rfl rfl ?_ | refine X_yl (Yl_sub rfl rfl rfl (w64 (by omega) (by omega))) rfl rfl ?_) | (refine C_id ?_; first | refine C_seq ?_ | refine C_region ?_ | refine C_ret ?_ | refine C_skip ?_ | refine C_cond_t rfl ?_ | refine C_cond_f rfl ?_) | (refine E_id ?_; first | refine E_code ?_ | refine E_then_ret ?_ | refine E_ret4 rfl (Rv_tmp rfl) (Rv_tmp rfl) (Rv_tmp rfl) (Rv_tmp rfl) (Ret.mk ?_)))
          exact ⟨_, _, _, _, _, _, rfl, by decide, hS.drops⟩
        case pos =>
          rw [if_pos hmt]
          have hnode : NodeOk (some ⟨ab, ao, none⟩) s c (.txt (t.take m)) [.int .i64 1, .int .i64 0, .slice (Cr.sub (some ⟨ab, ao, none⟩) j 1 c) m (c - j), .slice none 0 0] := by
            have hm : (t.take m).length = m := by rw [List.length_take]; omega
            exact ⟨j, by rw [hm]; omega, by rw [hm], by rw [hm, hdj]⟩
          have hN3 : Nodes (some ⟨ab, ao, none⟩) s c (x ++ [(Top.leaf (.txt (t.take m))).shut]) (rows ++ [[.int .i64 1, .int .i64 0, .slice (Cr.sub (some ⟨ab, ao, none⟩) j 1 c) m (c - j), .slice none 0 0]]) := hN.snoc hnode
          have hL3 : (rows ++ [[.int .i64 1, .int .i64 0, .slice (Cr.sub (some ⟨ab, ao, none⟩) j 1 c) m (c - j), .slice none 0 0]])[x.length]? = some [.int .i64 1, .int .i64 0, .slice (Cr.sub (some ⟨ab, ao, none⟩) j 1 c) m (c - j), .slice none 0 0] := by rw [← hN.1, List.getElem?_append_right (Nat.le_refl _), Nat.sub_self]; rfl
          repeat (first | (refine G_id ?_; first | refine G_nil ?_ | refine G_plain rfl rfl ?_) | (refine X_id ?_; first | refine X_yl (Yl_move rfl rfl) rfl rfl ?_ | refine X_yl (Yl_assign rfl rfl) rfl rfl ?_ | refine X_yl (Yl_extract rfl rfl) rfl rfl ?_ | refine X_yl (Yl_len rfl rfl) rfl rfl ?_ | refine X_yl (Yl_neq_f rfl rfl rfl (by omega)) rfl rfl ?_ | refine X_yl (Yl_gtr_f rfl rfl rfl (by omega)) rfl rfl ?_ | refine X_yl (Yl_sub rfl rfl rfl (w64 (by omega) (by omega))) rfl rfl ?_) | (refine C_id ?_; first | refine C_seq ?_ | refine C_region ?_ | refine C_skip ?_ | refine C_cond_f rfl ?_) | (refine E_id ?_; first | refine E_code ?_))
          refine C_ord (.s 1 (.s 3 (.s 4 (.s 5 (.s 6 (.s 7 (.s 8 (.s 9 (.h 0 (.h 2 (.h 10 (.h 11 (.s 12 .nil) .no) .no) (.h 10 (.h 2 (.h 11 (.s 12 .nil) .no) .no) .no)) (.h 10 (.h 0 (.h 2 (.h 11 (.s 12 .nil) .no) .no) .no) .no)))))))))) mixed (by kernel_rfl) rfl ?_
          have hS := hS.drew
          repeat (first | (refine GO_id ?_; first | refine GO_pure rfl rfl (fun _ => Yl_move rfl rfl) rfl rfl ?_ | refine GO_pure rfl rfl (fun _ => Yl_add rfl rfl rfl (w64 (by omega) (by omega))) rfl rfl ?_))
          refine GO_pure rfl rfl (fun _ => Yl_slice (l := j) (h := j + m) rfl rfl rfl rfl (.inr ⟨_, _, rfl, by omega, by omega, by omega⟩) (.inr ⟨_, _, rfl, by omega, by omega, by omega⟩)) rfl rfl ?_
          rw [show j + m - j = m by omega]
          repeat (first | (refine GO_id ?_; first | refine GO_pure rfl rfl (fun _ => Yl_build rfl rfl rfl) rfl rfl ?_))
          refine GO_alt ?_ ?_
          · repeat (first | (refine X_id ?_; first | refine X_buildSlice rfl rfl rfl rfl rfl rfl rfl rfl hS (fun _ _ hS _ => ?_)) | (refine GO_id ?_; first | refine GO_hard rfl rfl ?_) | (refine Keep_id ?_; first | refine And.intro (by repeat (first | exact trivial | refine And.intro (.inl (by decide +kernel)) ?_ | refine And.intro (.inr (by first | assumption | exact hS.cell | exact cell_at (by assumption) | exact hS.cellI (by omega) | exact hS.cellIP (by omega) | exact hS.cellsN | exact ((hr.rd hS).cellX (by omega) hx) | exact ((hr2.rd hS).cellX (by omega) hx2) | exact hS.cellB (by omega) | exact hS.cellBA (by omega) | exact (hb.rd hS).cellB' (by omega) | exact (hb2.rd hS).cellB' (by omega) | exact (hg.rd hS).cellI (by omega) | exact (hg2.rd hS).cellI (by omega) | exact ((hr.rd hS).cellF (by first | omega | (dsimp only; omega)) hx) | exact ((hr2.rd hS).cellF (by first | omega | (dsimp only; omega)) hx2) | exact hS.cellO 0 (by omega) | exact hS.cellO 1 (by omega) | exact hS.cellIA (by omega) | exact (hg.rd hS).cellIA (by omega) | exact (hg2.rd hS).cellIA (by omega) | exact cell_at (hc.rd hS).pts | exact hb.rd hS | exact hS.cellO 4 (by omega) | exact hS.cellO 5 (by omega) | exact hS.cellO 6 (by omega) | exact hS.cellO 7 (by omega) | exact hS.cellO 8 (by omega) | exact hS.cellO 9 (by omega) | exact hS.cellO 10 (by omega) | exact hS.cellO 11 (by omega) | exact hS.cellO 12 (by omega) | exact hS.cellO 13 (by omega))) ?_)) ?_))
            refine GO_alt ?_ ?_
            · repeat (first | (refine GO_id ?_; first | refine GO_hard rfl rfl ?_))
              refine X_append rfl rfl rfl rfl rfl hS rfl (Nat.le_refl _) (hal.rd hS) hN.flat hN.one (by omega) (by simp only [maxLen]; omega) (fun a2 q2 w hS hq2 _ => ?_)
              rw [Nat.zero_add] at hq2 ⊢
              rw [List.nil_append] at hS
              repeat (first | (refine X_id ?_; first | refine X_buildSlice rfl rfl rfl rfl rfl rfl rfl rfl hS (fun _ _ hS _ => ?_)) | (refine GO_id ?_; first | refine GO_hard rfl rfl ?_) | (refine Keep_id ?_; first | refine And.intro (by repeat (first | exact trivial | refine And.intro (.inl (by decide +kernel)) ?_ | refine And.intro (.inr (by first | assumption | exact hS.cell | exact cell_at (by assumption) | exact hS.cellI (by omega) | exact hS.cellIP (by omega) | exact hS.cellsN | exact ((hr.rd hS).cellX (by omega) hx) | exact ((hr2.rd hS).cellX (by omega) hx2) | exact hS.cellB (by omega) | exact hS.cellBA (by omega) | exact (hb.rd hS).cellB' (by omega) | exact (hb2.rd hS).cellB' (by omega) | exact (hg.rd hS).cellI (by omega) | exact (hg2.rd hS).cellI (by omega) | exact ((hr.rd hS).cellF (by first | omega | (dsimp only; omega)) hx) | exact ((hr2.rd hS).cellF (by first | omega | (dsimp only; omega)) hx2) | exact hS.cellO 0 (by omega) | exact hS.cellO 1 (by omega) | exact hS.cellIA (by omega) | exact (hg.rd hS).cellIA (by omega) | exact (hg2.rd hS).cellIA (by omega) | exact cell_at (hc.rd hS).pts | exact hb.rd hS | exact hS.cellO 4 (by omega) | exact hS.cellO 5 (by omega) | exact hS.cellO 6 (by omega) | exact hS.cellO 7 (by omega) | exact hS.cellO 8 (by omega) | exact hS.cellO 9 (by omega) | exact hS.cellO 10 (by omega) | exact hS.cellO 11 (by omega) | exact hS.cellO 12 (by omega) | exact hS.cellO 13 (by omega))) ?_)) ?_))
              have hnw := (hS.rd (List.mem_cons_self ..)).own_row
              refine X_append rfl rfl rfl rfl rfl hS hN.flat hq2 hnw rfl (by simp [Value.oneCell']) (by omega) (by simp only [maxLen]; omega) (fun a3 q3 w hS hq3 _ => ?_)
              have e1 : ((x.length + 1 : Nat) : Int) - 1 = (x.length : Int) := by omega
              repeat (first | (refine G_id ?_; first | refine G_nil ?_ | refine G_plain rfl rfl ?_) | (refine X_id ?_; first | refine X_yl (Yl_move rfl rfl) rfl rfl ?_ | refine X_yl (Yl_assign rfl rfl) rfl rfl ?_ | refine X_yl (Yl_len rfl rfl) rfl rfl ?_ | refine X_yl (Yl_add rfl rfl rfl (w64 (by omega) (by omega))) rfl rfl ?_ | refine X_yl (Yl_sub rfl rfl rfl (w64 (by omega) (by omega))) rfl rfl ?_) | (refine C_id ?_; first | refine C_seq ?_ | refine C_region ?_ | refine C_ret ?_) | (refine E_id ?_; first | refine E_code ?_ | refine E_ret4 rfl (Rv_tmp rfl) (Rv_tmp rfl) (Rv_tmp rfl) (Rv_tmp rfl) (Ret.mk ?_)) | (refine GO_id ?_; first | refine GO_nil ?_ | refine GO_pure rfl rfl (fun _ => Yl_assign rfl rfl) rfl rfl ?_) | (refine Keep_id ?_; first | refine And.intro (by repeat (first | exact trivial | refine And.intro (.inl (by decide +kernel)) ?_ | refine And.intro (.inr (by first | assumption | exact hS.cell | exact cell_at (by assumption) | exact hS.cellI (by omega) | exact hS.cellIP (by omega) | exact hS.cellsN | exact ((hr.rd hS).cellX (by omega) hx) | exact ((hr2.rd hS).cellX (by omega) hx2) | exact hS.cellB (by omega) | exact hS.cellBA (by omega) | exact (hb.rd hS).cellB' (by omega) | exact (hb2.rd hS).cellB' (by omega) | exact (hg.rd hS).cellI (by omega) | exact (hg2.rd hS).cellI (by omega) | exact ((hr.rd hS).cellF (by first | omega | (dsimp only; omega)) hx) | exact ((hr2.rd hS).cellF (by first | omega | (dsimp only; omega)) hx2) | exact hS.cellO 0 (by omega) | exact hS.cellO 1 (by omega) | exact hS.cellIA (by omega) | exact (hg.rd hS).cellIA (by omega) | exact (hg2.rd hS).cellIA (by omega) | exact cell_at (hc.rd hS).pts | exact hb.rd hS | exact hS.cellO 4 (by omega) | exact hS.cellO 5 (by omega) | exact hS.cellO 6 (by omega) | exact hS.cellO 7 (by omega) | exact hS.cellO 8 (by omega) | exact hS.cellO 9 (by omega) | exact hS.cellO 10 (by omega) | exact hS.cellO 11 (by omega) | exact hS.cellO 12 (by omega) | exact hS.cellO 13 (by omega))) ?_)) ?_))
              rw [e1]
              refine ⟨a3, q3, j + m, x, _, _, rfl, by omega, by rw [← hdj, List.drop_drop], by omega, hN3, hL3, ⟨[], by simp⟩, ?_⟩
              · rw [List.flatten_append]
                have hS := hS.pick [0]
                exact (hS.head (fun _ h => h.row)).addTop _ _ _
            · repeat (first | (refine X_id ?_; first | refine X_buildSlice rfl rfl rfl rfl rfl rfl rfl rfl hS (fun _ _ hS _ => ?_)) | (refine GO_id ?_; first | refine GO_hard rfl rfl ?_) | (refine Keep_id ?_; first | refine And.intro (by repeat (first | exact trivial | refine And.intro (.inl (by decide +kernel)) ?_ | refine And.intro (.inr (by first | assumption | exact hS.cell | exact cell_at (by assumption) | exact hS.cellI (by omega) | exact hS.cellIP (by omega) | exact hS.cellsN | exact ((hr.rd hS).cellX (by omega) hx) | exact ((hr2.rd hS).cellX (by omega) hx2) | exact hS.cellB (by omega) | exact hS.cellBA (by omega) | exact (hb.rd hS).cellB' (by omega) | exact (hb2.rd hS).cellB' (by omega) | exact (hg.rd hS).cellI (by omega) | exact (hg2.rd hS).cellI (by omega) | exact ((hr.rd hS).cellF (by first | omega | (dsimp only; omega)) hx) | exact ((hr2.rd hS).cellF (by first | omega | (dsimp only; omega)) hx2) | exact hS.cellO 0 (by omega) | exact hS.cellO 1 (by omega) | exact hS.cellIA (by omega) | exact (hg.rd hS).cellIA (by omega) | exact (hg2.rd hS).cellIA (by omega) | exact cell_at (hc.rd hS).pts | exact hb.rd hS | exact hS.cellO 4 (by omega) | exact hS.cellO 5 (by omega) | exact hS.cellO 6 (by omega) | exact hS.cellO 7 (by omega) | exact hS.cellO 8 (by omega) | exact hS.cellO 9 (by omega) | exact hS.cellO 10 (by omega) | exact hS.cellO 11 (by omega) | exact hS.cellO 12 (by omega) | exact hS.cellO 13 (by omega))) ?_)) ?_))
              refine X_append rfl rfl rfl rfl rfl hS rfl (Nat.le_refl _) (hal.rd hS) hN.flat hN.one (by omega) (by simp only [maxLen]; omega) (fun a2 q2 w hS hq2 _ => ?_)
              rw [Nat.zero_add] at hq2 ⊢
              rw [List.nil_append] at hS
              repeat (first | (refine GO_id ?_; first | refine GO_hard rfl rfl ?_) | (refine Keep_id ?_; first | refine And.intro (by repeat (first | exact trivial | refine And.intro (.inl (by decide +kernel)) ?_ | refine And.intro (.inr (by first | assumption | exact hS.cell | exact cell_at (by assumption) | exact hS.cellI (by omega) | exact hS.cellIP (by omega) | exact hS.cellsN | exact ((hr.rd hS).cellX (by omega) hx) | exact ((hr2.rd hS).cellX (by omega) hx2) | exact hS.cellB (by omega) | exact hS.cellBA (by omega) | exact (hb.rd hS).cellB' (by omega) | exact (hb2.rd hS).cellB' (by omega) | exact (hg.rd hS).cellI (by omega) | exact (hg2.rd hS).cellI (by omega) | exact ((hr.rd hS).cellF (by first | omega | (dsimp only; omega)) hx) | exact ((hr2.rd hS).cellF (by first | omega | (dsimp only; omega)) hx2) | exact hS.cellO 0 (by omega) | exact hS.cellO 1 (by omega) | exact hS.cellIA (by omega) | exact (hg.rd hS).cellIA (by omega) | exact (hg2.rd hS).cellIA (by omega) | exact cell_at (hc.rd hS).pts | exact hb.rd hS | exact hS.cellO 4 (by omega) | exact hS.cellO 5 (by omega) | exact hS.cellO 6 (by omega) | exact hS.cellO 7 (by omega) | exact hS.cellO 8 (by omega) | exact hS.cellO 9 (by omega) | exact hS.cellO 10 (by omega) | exact hS.cellO 11 (by omega) | exact hS.cellO 12 (by omega) | exact hS.cellO 13 (by omega))) ?_)) ?_))
              have hnw := (hS.rd (List.mem_cons_of_mem _ (List.mem_cons_self ..))).own_row
              refine X_append rfl rfl rfl rfl rfl hS hN.flat hq2 hnw rfl (by simp [Value.oneCell']) (by omega) (by simp only [maxLen]; omega) (fun a3 q3 w hS hq3 _ => ?_)
              have e1 : ((x.length + 1 : Nat) : Int) - 1 = (x.length : Int) := by omega
              repeat (first | (refine G_id ?_; first | refine G_nil ?_ | refine G_plain rfl rfl ?_) | (refine X_id ?_; first | refine X_yl (Yl_move rfl rfl) rfl rfl ?_ | refine X_yl (Yl_assign rfl rfl) rfl rfl ?_ | refine X_yl (Yl_len rfl rfl) rfl rfl ?_ | refine X_yl (Yl_add rfl rfl rfl (w64 (by omega) (by omega))) rfl rfl ?_ | refine X_yl (Yl_sub rfl rfl rfl (w64 (by omega) (by omega))) rfl rfl ?_) | (refine C_id ?_; first | refine C_seq ?_ | refine C_region ?_ | refine C_ret ?_) | (refine E_id ?_; first | refine E_code ?_ | refine E_ret4 rfl (Rv_tmp rfl) (Rv_tmp rfl) (Rv_tmp rfl) (Rv_tmp rfl) (Ret.mk ?_)) | (refine GO_id ?_; first | refine GO_nil ?_ | refine GO_pure rfl rfl (fun _ => Yl_assign rfl rfl) rfl rfl ?_) | (refine Keep_id ?_; first | refine And.intro (by repeat (first | exact trivial | refine And.intro (.inl (by decide +kernel)) ?_ | refine And.intro (.inr (by first | assumption | exact hS.cell | exact cell_at (by assumption) | exact hS.cellI (by omega) | exact hS.cellIP (by omega) | exact hS.cellsN | exact ((hr.rd hS).cellX (by omega) hx) | exact ((hr2.rd hS).cellX (by omega) hx2) | exact hS.cellB (by omega) | exact hS.cellBA (by omega) | exact (hb.rd hS).cellB' (by omega) | exact (hb2.rd hS).cellB' (by omega) | exact (hg.rd hS).cellI (by omega) | exact (hg2.rd hS).cellI (by omega) | exact ((hr.rd hS).cellF (by first | omega | (dsimp only; omega)) hx) | exact ((hr2.rd hS).cellF (by first | omega | (dsimp only; omega)) hx2) | exact hS.cellO 0 (by omega) | exact hS.cellO 1 (by omega) | exact hS.cellIA (by omega) | exact (hg.rd hS).cellIA (by omega) | exact (hg2.rd hS).cellIA (by omega) | exact cell_at (hc.rd hS).pts | exact hb.rd hS | exact hS.cellO 4 (by omega) | exact hS.cellO 5 (by omega) | exact hS.cellO 6 (by omega) | exact hS.cellO 7 (by omega) | exact hS.cellO 8 (by omega) | exact hS.cellO 9 (by omega) | exact hS.cellO 10 (by omega) | exact hS.cellO 11 (by omega) | exact hS.cellO 12 (by omega) | exact hS.cellO 13 (by omega))) ?_)) ?_))
              rw [e1]
              refine ⟨a3, q3, j + m, x, _, _, rfl, by omega, by rw [← hdj, List.drop_drop], by omega, hN3, hL3, ⟨[], by simp⟩, ?_⟩
              · rw [List.flatten_append]
                have hS := hS.pick [0]
                exact (hS.head (fun _ h => h.row)).addTop _ _ _
          · repeat (first | (refine X_id ?_; first | refine X_buildSlice rfl rfl rfl rfl rfl rfl rfl rfl hS (fun _ _ hS _ => ?_)) | (refine GO_id ?_; first | refine GO_hard rfl rfl ?_) | (refine Keep_id ?_; first | refine And.intro (by repeat (first | exact trivial | refine And.intro (.inl (by decide +kernel)) ?_ | refine And.intro (.inr (by first | assumption | exact hS.cell | exact cell_at (by assumption) | exact hS.cellI (by omega) | exact hS.cellIP (by omega) | exact hS.cellsN | exact ((hr.rd hS).cellX (by omega) hx) | exact ((hr2.rd hS).cellX (by omega) hx2) | exact hS.cellB (by omega) | exact hS.cellBA (by omega) | exact (hb.rd hS).cellB' (by omega) | exact (hb2.rd hS).cellB' (by omega) | exact (hg.rd hS).cellI (by omega) | exact (hg2.rd hS).cellI (by omega) | exact ((hr.rd hS).cellF (by first | omega | (dsimp only; omega)) hx) | exact ((hr2.rd hS).cellF (by first | omega | (dsimp only; omega)) hx2) | exact hS.cellO 0 (by omega) | exact hS.cellO 1 (by omega) | exact hS.cellIA (by omega) | exact (hg.rd hS).cellIA (by omega) | exact (hg2.rd hS).cellIA (by omega) | exact cell_at (hc.rd hS).pts | exact hb.rd hS | exact hS.cellO 4 (by omega) | exact hS.cellO 5 (by omega) | exact hS.cellO 6 (by omega) | exact hS.cellO 7 (by omega) | exact hS.cellO 8 (by omega) | exact hS.cellO 9 (by omega) | exact hS.cellO 10 (by omega) | exact hS.cellO 11 (by omega) | exact hS.cellO 12 (by omega) | exact hS.cellO 13 (by omega))) ?_)) ?_))
            refine X_append rfl rfl rfl rfl rfl hS rfl (Nat.le_refl _) (hal.rd hS) hN.flat hN.one (by omega) (by simp only [maxLen]; omega) (fun a2 q2 w hS hq2 _ => ?_)
            rw [Nat.zero_add] at hq2 ⊢
            rw [List.nil_append] at hS
            repeat (first | (refine GO_id ?_; first | refine GO_hard rfl rfl ?_) | (refine Keep_id ?_; first | refine And.intro (by repeat (first | exact trivial | refine And.intro (.inl (by decide +kernel)) ?_ | refine And.intro (.inr (by first | assumption | exact hS.cell | exact cell_at (by assumption) | exact hS.cellI (by omega) | exact hS.cellIP (by omega) | exact hS.cellsN | exact ((hr.rd hS).cellX (by omega) hx) | exact ((hr2.rd hS).cellX (by omega) hx2) | exact hS.cellB (by omega) | exact hS.cellBA (by omega) | exact (hb.rd hS).cellB' (by omega) | exact (hb2.rd hS).cellB' (by omega) | exact (hg.rd hS).cellI (by omega) | exact (hg2.rd hS).cellI (by omega) | exact ((hr.rd hS).cellF (by first | omega | (dsimp only; omega)) hx) | exact ((hr2.rd hS).cellF (by first | omega | (dsimp only; omega)) hx2) | exact hS.cellO 0 (by omega) | exact hS.cellO 1 (by omega) | exact hS.cellIA (by omega) | exact (hg.rd hS).cellIA (by omega) | exact (hg2.rd hS).cellIA (by omega) | exact cell_at (hc.rd hS).pts | exact hb.rd hS | exact hS.cellO 4 (by omega) | exact hS.cellO 5 (by omega) | exact hS.cellO 6 (by omega) | exact hS.cellO 7 (by omega) | exact hS.cellO 8 (by omega) | exact hS.cellO 9 (by omega) | exact hS.cellO 10 (by omega) | exact hS.cellO 11 (by omega) | exact hS.cellO 12 (by omega) | exact hS.cellO 13 (by omega))) ?_)) ?_))
            have hnw := (hS.rd (List.mem_cons_of_mem _ (List.mem_cons_self ..))).own_row
            refine X_append rfl rfl rfl rfl rfl hS hN.flat hq2 hnw rfl (by simp [Value.oneCell']) (by omega) (by simp only [maxLen]; omega) (fun a3 q3 w hS hq3 _ => ?_)
            have e1 : ((x.length + 1 : Nat) : Int) - 1 = (x.length : Int) := by omega
            repeat (first | (refine G_id ?_; first | refine G_nil ?_ | refine G_plain rfl rfl ?_) | (refine X_id ?_; first | refine X_yl (Yl_move rfl rfl) rfl rfl ?_ | refine X_yl (Yl_assign rfl rfl) rfl rfl ?_ | refine X_yl (Yl_len rfl rfl) rfl rfl ?_ | refine X_yl (Yl_add rfl rfl rfl (w64 (by omega) (by omega))) rfl rfl ?_ | refine X_yl (Yl_sub rfl rfl rfl (w64 (by omega) (by omega))) rfl rfl ?_) | (refine C_id ?_; first | refine C_seq ?_ | refine C_region ?_ | refine C_ret ?_) | (refine E_id ?_; first | refine E_code ?_ | refine E_ret4 rfl (Rv_tmp rfl) (Rv_tmp rfl) (Rv_tmp rfl) (Rv_tmp rfl) (Ret.mk ?_)) | (refine GO_id ?_; first | refine GO_nil ?_ | refine GO_pure rfl rfl (fun _ => Yl_assign rfl rfl) rfl rfl ?_) | (refine Keep_id ?_; first | refine And.intro (by repeat (first | exact trivial | refine And.intro (.inl (by decide +kernel)) ?_ | refine And.intro (.inr (by first | assumption | exact hS.cell | exact cell_at (by assumption) | exact hS.cellI (by omega) | exact hS.cellIP (by omega) | exact hS.cellsN | exact ((hr.rd hS).cellX (by omega) hx) | exact ((hr2.rd hS).cellX (by omega) hx2) | exact hS.cellB (by omega) | exact hS.cellBA (by omega) | exact (hb.rd hS).cellB' (by omega) | exact (hb2.rd hS).cellB' (by omega) | exact (hg.rd hS).cellI (by omega) | exact (hg2.rd hS).cellI (by omega) | exact ((hr.rd hS).cellF (by first | omega | (dsimp only; omega)) hx) | exact ((hr2.rd hS).cellF (by first | omega | (dsimp only; omega)) hx2) | exact hS.cellO 0 (by omega) | exact hS.cellO 1 (by omega) | exact hS.cellIA (by omega) | exact (hg.rd hS).cellIA (by omega) | exact (hg2.rd hS).cellIA (by omega) | exact cell_at (hc.rd hS).pts | exact hb.rd hS | exact hS.cellO 4 (by omega) | exact hS.cellO 5 (by omega) | exact hS.cellO 6 (by omega) | exact hS.cellO 7 (by omega) | exact hS.cellO 8 (by omega) | exact hS.cellO 9 (by omega) | exact hS.cellO 10 (by omega) | exact hS.cellO 11 (by omega) | exact hS.cellO 12 (by omega) | exact hS.cellO 13 (by omega))) ?_)) ?_))
            rw [e1]
            refine ⟨a3, q3, j + m, x, _, _, rfl, by omega, by rw [← hdj, List.drop_drop], by omega, hN3, hL3, ⟨[], by simp⟩, ?_⟩
            · rw [List.flatten_append]
              have hS := hS.pick [0]
              exact (hS.head (fun _ h => h.row)).addTop _ _ _
end Cr
namespace Cr
open Go Go.Proofs
set_option maxRecDepth 100000
set_option maxHeartbeats 8000000
attribute [local irreducible] Calls

theorem read_all (a : Option Addr) (s : List UInt8) (c : Nat) (hsc : s.length ≤ c) (hl : s.length ≤ 65536) (f : Nat) : ReadOk a s c f := by
  induction f using Nat.strongRecOn with
  | _ f ih => exact read_of a s c hsc hl f ih
theorem node_kind {a : Option Addr} {s : List UInt8} {c : Nat} {y : Leaf} {cs : List Value} (H : NodeOk a s c y cs) : ∃ kv : Int, cs[0]? = some (.int .i64 kv) ∧ (kv = 1 ↔ ∃ b, y = .txt b) ∧ (kv = 0 ↔ ∃ n, y = .num n) := by
  cases y with
  | num n => obtain rfl := H; exact ⟨0, rfl, ⟨fun h => absurd h (by decide), fun ⟨_, h⟩ => nomatch h⟩, ⟨fun _ => ⟨_, rfl⟩, fun _ => rfl⟩⟩
  | txt b => obtain ⟨j, _, rfl, _⟩ := H; exact ⟨1, rfl, ⟨fun _ => ⟨_, rfl⟩, fun _ => rfl⟩, ⟨fun h => absurd h (by decide), fun ⟨_, h⟩ => nomatch h⟩⟩
  | oth => obtain ⟨p, n, q, rfl⟩ := H; exact ⟨2, rfl, ⟨fun h => absurd h (by decide), fun ⟨_, h⟩ => nomatch h⟩, ⟨fun h => absurd h (by decide), fun ⟨_, h⟩ => nomatch h⟩⟩
theorem Nodes.seg {a : Option Addr} {s : List UInt8} {c : Nat} {x : List Leaf} {rows : List (List Value)} (H : Nodes a s c x rows) {i : Nat} {y : Leaf} (hy : x[i]? = some y) : ∃ cs, (rows.flatten.drop (i * 4)).take 4 = cs ∧ NodeOk a s c y cs := by
  obtain ⟨cs, h1, h2⟩ := H.2 i y hy
  exact ⟨cs, flatten4 (fun r hr => (H.all r hr).1) h1, h2⟩
theorem seg_at {l cs : List Value} {i o : Nat} {v : Value} (h : (l.drop (i * 4)).take 4 = cs) (hv : cs[o]? = some v) : l[i * 4 + o]? = some v := by
  rw [← h, List.getElem?_take] at hv
  split at hv
  · rwa [List.getElem?_drop] at hv
  · cases hv
theorem dec_of {s : List UInt8} {t : Top} {l : List UInt8} (h : pv (2 * s.length + 1) 1 s = some (t, l)) : dec s = if l = [] then some t else none := by
  unfold dec
  rw [h]
  cases l <;> rfl
theorem dec_no {s : List UInt8} (h : pv (2 * s.length + 1) 1 s = none) : dec s = none := by
  unfold dec
  rw [h]
theorem rread_ (a : Option Addr) (s : List UInt8) (c : Nat) (hsc : s.length ≤ c) (hl : s.length ≤ 65536) (W : World) (hb : Ro W noF (bytes a s)) :
    Calls Tryd.prog 25 #[.slice a s.length c] W (Ret fun v w => ARes W ((dec s).bind readR) v w) := by
  have hS := St.start W
  have hR := fun W h1 h2 => read_all a s c hsc hl (2 * s.length + 1) 0 1 W none 0 [] [] (Nat.zero_le _) (by omega) (by omega) (Nat.le_refl _) h1 h2 Nodes.nil
  rw [List.drop_zero] at hR
  cases hp : pv (2 * s.length + 1) 1 s with
  | none =>
    rw [hp] at hR
    rw [dec_no hp]
    refine calls_C Tryd.func25 rfl Tryd.ntmps25 rfl ?_
    repeat (first | (refine G_id ?_; first | refine G_nil ?_ | refine G_plain rfl rfl ?_) | (refine X_id ?_; first | refine X_yl (Yl_move rfl rfl) rfl rfl ?_ | refine X_yl (Yl_assign rfl rfl) rfl rfl ?_ | refine X_alloc rfl rfl rfl hS (fun _ _ hS _ => ?_)) | (refine C_id ?_; first | refine C_seq ?_ | refine C_region ?_) | (refine E_id ?_; first | refine E_code ?_))
    refine X_callg _ rfl rfl rfl rfl rfl (hR _ (hb.rd hS).ro (Ro_nil _ _ _)) ?_
    rintro v w ⟨al, n, ql, k, j, e, rfl, he, hS'⟩
    replace hS := hS.plus hS'
    clear hS'
    repeat (first | (refine G_id ?_; first | refine G_nil ?_ | refine G_plain rfl rfl ?_ | refine G_no rfl rfl rfl rfl rfl rfl ?_) | (refine X_id ?_; first | refine X_yl (Yl_move rfl rfl) rfl rfl ?_ | refine X_yl (Yl_assign rfl rfl) rfl rfl ?_ | refine X_yl (Yl_extract rfl rfl) rfl rfl ?_ | refine X_yl (Yl_pick_t rfl rfl rfl) rfl rfl ?_ | refine X_yl (Yl_neq_t rfl rfl rfl (by omega)) rfl rfl ?_ | refine X_yl (Yl_build rfl rfl rfl) rfl rfl ?_ | refine X_store rfl rfl rfl rfl hS (fun _ hS _ => ?_)) | (refine C_id ?_; first | refine C_seq ?_ | refine C_region ?_ | refine C_ret ?_ | refine C_cond_t rfl ?_) | (refine E_id ?_; first | refine E_code ?_ | refine E_then_ret ?_ | refine E_ret2 rfl (by first | exact Rv_tmp rfl | exact Rv_cell rfl (run_load1 hS.cell) | exact Rv_cell rfl (run_loadN hS.cellsN)) (by first | exact Rv_tmp rfl | exact Rv_cell rfl (run_load1 hS.cell) | exact Rv_cell rfl (run_loadN hS.cellsN)) (Ret.mk ?_)))
    exact ⟨rfl, hS.drops⟩
  | some ul =>
    obtain ⟨t, l⟩ := ul
    rw [hp] at hR
    rw [dec_of hp]
    have hcan : ∀ y, t = .leaf y → y ≠ .oth := fun y e => by rw [e] at hp; exact (pv_canon hp).2
    clear hp
    refine calls_C Tryd.func25 rfl Tryd.ntmps25 rfl ?_
    repeat (first | (refine G_id ?_; first | refine G_nil ?_ | refine G_plain rfl rfl ?_) | (refine X_id ?_; first | refine X_yl (Yl_move rfl rfl) rfl rfl ?_ | refine X_yl (Yl_assign rfl rfl) rfl rfl ?_ | refine X_alloc rfl rfl rfl hS (fun _ _ hS _ => ?_)) | (refine C_id ?_; first | refine C_seq ?_ | refine C_region ?_) | (refine E_id ?_; first | refine E_code ?_))
    rename_i b2 _ _
    refine X_callg _ rfl rfl rfl rfl rfl (hR _ (hb.rd hS).ro (Ro_nil _ _ _)) ?_
    rintro v w ⟨al, ql, j, y, rows, cs, rfl, hj, hdj, hcnt, hN, hcs, _, hS'⟩
    replace hS := hS.plus hS'
    clear hS' hR
    by_cases hl0 : l = []
    case neg =>
      rw [if_neg hl0]
      have hjl : j < s.length := by
        rcases Nat.lt_or_ge j s.length with h | h
        · exact h
        · exact absurd (by rw [← hdj]; exact List.drop_of_length_le h) hl0
      repeat (first | (refine G_id ?_; first | refine G_nil ?_ | refine G_plain rfl rfl ?_ | refine G_yes rfl rfl rfl rfl ?_) | (refine X_id ?_; first | refine X_yl (Yl_move rfl rfl) rfl rfl ?_ | refine X_yl (Yl_assign rfl rfl) rfl rfl ?_ | refine X_yl (Yl_extract rfl rfl) rfl rfl ?_ | refine X_yl (Yl_pick_f rfl rfl rfl) rfl rfl ?_ | refine X_yl (Yl_len rfl rfl) rfl rfl ?_ | refine X_yl (Yl_neq_t rfl rfl rfl (by omega)) rfl rfl ?_ | refine X_yl (Yl_neq_f rfl rfl rfl (by omega)) rfl rfl ?_ | refine X_yl (Yl_build rfl rfl rfl) rfl rfl ?_ | refine X_store rfl rfl rfl rfl hS (fun _ hS _ => ?_)) | (refine C_id ?_; first | refine C_seq ?_ | refine C_region ?_ | refine C_ret ?_ | refine C_cond_t rfl ?_) | (refine E_id ?_; first | refine E_code ?_ | refine E_then_ret ?_ | refine E_ret2 rfl (by first | exact Rv_tmp rfl | exact Rv_cell rfl (run_load1 hS.cell) | exact Rv_cell rfl (run_loadN hS.cellsN)) (by first | exact Rv_tmp rfl | exact Rv_cell rfl (run_load1 hS.cell) | exact Rv_cell rfl (run_loadN hS.cellsN)) (Ret.mk ?_)))
      exact ⟨rfl, hS.drops⟩
    rw [if_pos hl0]
    have hjl : j = s.length := by
      have := congrArg List.length hdj
      rw [hl0, List.length_drop, List.length_nil] at this
      omega
    subst hjl
    obtain ⟨F2, hS2, hro, hw, hbk⟩ := hS.call [false, false, true]
    have hr := hro (row al rows.flatten) (by simp)
    have htx := hro (topX t y cs) (by simp)
    have hb : Ro w F2 (bytes a s) := hw _ hb
    clear hro hS
    have hS := hS2
    clear hS2
    obtain ⟨ab, ao, rfl⟩ := hr.start.base (by
      intro e
      have := hN.flat
      rw [e] at this
      simp at this)
    have hlast : (y ++ [t.shut])[y.length]? = some t.shut := by rw [List.getElem?_append_right (Nat.le_refl _), Nat.sub_self]; rfl
    have hxs := flatten4 (fun r hr => (hN.all r hr).1) hcs
    obtain ⟨cs', hcs', hnk⟩ := hN.2 _ _ hlast
    rw [hcs] at hcs'
    obtain rfl := Option.some.inj hcs'
    cases t with
    | leaf y0 =>
      cases y0 with
      | oth => exact absurd rfl (hcan _ rfl)
      | num n =>
        have hnk : NodeOk a s c (.num n) cs := hnk
        obtain rfl := hnk
        repeat (first | (refine G_id ?_; first | refine G_nil ?_ | refine G_plain rfl rfl ?_ | refine G_yes rfl rfl rfl rfl ?_ | refine G_no rfl rfl rfl rfl rfl rfl ?_) | (refine X_id ?_; first | refine X_yl (Yl_move rfl rfl) rfl rfl ?_ | refine X_yl (Yl_assign rfl rfl) rfl rfl ?_ | refine X_yl (Yl_fieldAddr0 rfl rfl rfl) rfl rfl ?_ | refine X_yl (Yl_extract rfl rfl) rfl rfl ?_ | refine X_yl (Yl_pick_t rfl rfl rfl) rfl rfl ?_ | refine X_yl (Yl_pick_f rfl rfl rfl) rfl rfl ?_ | refine X_yl (Yl_len rfl rfl) rfl rfl ?_ | refine X_yl (Yl_neq_t rfl rfl rfl (by omega)) rfl rfl ?_ | refine X_yl (Yl_neq_f rfl rfl rfl (by omega)) rfl rfl ?_ | refine X_yl (Yl_build rfl rfl rfl) rfl rfl ?_ | refine X_yl (Yl_indexAddr rfl rfl rfl (by omega) (by omega) (by first | assumption | exact ⟨_, _, rfl⟩)) rfl rfl ?_ | refine X_yl (Yl_load rfl rfl hS.cell) rfl rfl ?_ | refine X_yl (Yl_loadN rfl rfl ((hr.rd hS).cellsX (by omega) hxs rfl)) rfl rfl ?_ | refine X_store rfl rfl rfl rfl hS (fun _ hS _ => ?_) | refine X_alloc rfl rfl rfl hS (fun _ _ hS _ => ?_)) | (refine C_id ?_; first | refine C_seq ?_ | refine C_region ?_ | refine C_ret ?_ | refine C_skip ?_ | refine C_cond_t rfl ?_ | refine C_cond_f rfl ?_) | (refine E_id ?_; first | refine E_code ?_ | refine E_then_ret ?_ | refine E_ret2 rfl (by first | exact Rv_tmp rfl | exact Rv_cell rfl (run_load1 hS.cell) | exact Rv_cell rfl (run_loadN hS.cellsN)) (by first | exact Rv_tmp rfl | exact Rv_cell rfl (run_load1 hS.cell) | exact Rv_cell rfl (run_loadN hS.cellsN)) (Ret.mk ?_)))
        exact ⟨rfl, (hbk hS).drops⟩
      | txt d =>
        have hnk : NodeOk a s c (.txt d) cs := hnk
        obtain ⟨j, _, rfl, _⟩ := hnk
        repeat (first | (refine G_id ?_; first | refine G_nil ?_ | refine G_plain rfl rfl ?_ | refine G_yes rfl rfl rfl rfl ?_ | refine G_no rfl rfl rfl rfl rfl rfl ?_) | (refine X_id ?_; first | refine X_yl (Yl_move rfl rfl) rfl rfl ?_ | refine X_yl (Yl_assign rfl rfl) rfl rfl ?_ | refine X_yl (Yl_fieldAddr0 rfl rfl rfl) rfl rfl ?_ | refine X_yl (Yl_extract rfl rfl) rfl rfl ?_ | refine X_yl (Yl_pick_t rfl rfl rfl) rfl rfl ?_ | refine X_yl (Yl_pick_f rfl rfl rfl) rfl rfl ?_ | refine X_yl (Yl_len rfl rfl) rfl rfl ?_ | refine X_yl (Yl_neq_t rfl rfl rfl (by omega)) rfl rfl ?_ | refine X_yl (Yl_neq_f rfl rfl rfl (by omega)) rfl rfl ?_ | refine X_yl (Yl_build rfl rfl rfl) rfl rfl ?_ | refine X_yl (Yl_indexAddr rfl rfl rfl (by omega) (by omega) (by first | assumption | exact ⟨_, _, rfl⟩)) rfl rfl ?_ | refine X_yl (Yl_load rfl rfl hS.cell) rfl rfl ?_ | refine X_yl (Yl_loadN rfl rfl ((hr.rd hS).cellsX (by omega) hxs rfl)) rfl rfl ?_ | refine X_store rfl rfl rfl rfl hS (fun _ hS _ => ?_) | refine X_alloc rfl rfl rfl hS (fun _ _ hS _ => ?_)) | (refine C_id ?_; first | refine C_seq ?_ | refine C_region ?_ | refine C_ret ?_ | refine C_skip ?_ | refine C_cond_t rfl ?_ | refine C_cond_f rfl ?_) | (refine E_id ?_; first | refine E_code ?_ | refine E_then_ret ?_ | refine E_ret2 rfl (by first | exact Rv_tmp rfl | exact Rv_cell rfl (run_load1 hS.cell) | exact Rv_cell rfl (run_loadN hS.cellsN)) (by first | exact Rv_tmp rfl | exact Rv_cell rfl (run_load1 hS.cell) | exact Rv_cell rfl (run_loadN hS.cellsN)) (Ret.mk ?_)))
        exact ⟨rfl, (hbk hS).drops⟩
    | list ys =>
      obtain ⟨h, ⟨b, q, is, rfl, his, hix, hrow⟩, ha⟩ := htx
      have hr2 : Ro w F2 (row b (ixs is)) := ⟨h, hrow, ha⟩
      clear hnk
      simp only [Option.bind_some]
      by_cases h5 : ys.length = 5
      case neg =>
        rw [readR_len h5]
        repeat (first | (refine G_id ?_; first | refine G_nil ?_ | refine G_plain rfl rfl ?_ | refine G_yes rfl rfl rfl rfl ?_) | (refine X_id ?_; first | refine X_yl (Yl_move rfl rfl) rfl rfl ?_ | refine X_yl (Yl_assign rfl rfl) rfl rfl ?_ | refine X_yl (Yl_fieldAddr0 rfl rfl rfl) rfl rfl ?_ | refine X_yl (Yl_extract rfl rfl) rfl rfl ?_ | refine X_yl (Yl_pick_f rfl rfl rfl) rfl rfl ?_ | refine X_yl (Yl_len rfl rfl) rfl rfl ?_ | refine X_yl (Yl_neq_t rfl rfl rfl (by omega)) rfl rfl ?_ | refine X_yl (Yl_neq_f rfl rfl rfl (by omega)) rfl rfl ?_ | refine X_yl (Yl_build rfl rfl rfl) rfl rfl ?_ | refine X_yl (Yl_indexAddr rfl rfl rfl (by omega) (by omega) (by first | assumption | exact ⟨_, _, rfl⟩)) rfl rfl ?_ | refine X_yl (Yl_load rfl rfl hS.cell) rfl rfl ?_ | refine X_yl (Yl_loadN rfl rfl ((hr.rd hS).cellsX (by omega) hxs rfl)) rfl rfl ?_ | refine X_store rfl rfl rfl rfl hS (fun _ hS _ => ?_) | refine X_alloc rfl rfl rfl hS (fun _ _ hS _ => ?_)) | (refine C_id ?_; first | refine C_seq ?_ | refine C_region ?_ | refine C_ret ?_ | refine C_skip ?_ | refine C_cond_t rfl ?_ | refine C_cond_f rfl ?_) | (refine E_id ?_; first | refine E_code ?_ | refine E_then_ret ?_ | refine E_ret2 rfl (by first | exact Rv_tmp rfl | exact Rv_cell rfl (run_load1 hS.cell) | exact Rv_cell rfl (run_loadN hS.cellsN)) (by first | exact Rv_tmp rfl | exact Rv_cell rfl (run_load1 hS.cell) | exact Rv_cell rfl (run_loadN hS.cellsN)) (Ret.mk ?_)))
        exact ⟨rfl, (hbk hS).drops⟩
      have hall : readR (.list ys) = none ∨ ∀ i y, i < 5 → ys[i]? = some y → kindOk i y := by
        by_cases q : ∀ i y, i < 5 → ys[i]? = some y → kindOk i y
        · exact .inr q
        · left
          obtain ⟨i, q⟩ := Classical.not_forall.1 q
          obtain ⟨y1, q⟩ := Classical.not_forall.1 q
          obtain ⟨q1, q⟩ := Classical.not_forall.1 q
          obtain ⟨q2, q⟩ := Classical.not_forall.1 q
          exact readR_bad q2 q1 q
      rw [h5] at hxs
      obtain ⟨k0, k1, k2, k3, k4, rfl⟩ := list5 (his.trans h5)
      obtain ⟨ib, io, rfl⟩ := hr2.start.base (by simp [ixs])
      have hr2 : Ro w F2 (row (some ⟨ib, io, none⟩) [.int .i64 (k0 : Nat), .int .i64 (k1 : Nat), .int .i64 (k2 : Nat), .int .i64 (k3 : Nat), .int .i64 (k4 : Nat)]) := hr2
      have hnode : ∀ (i ki : Nat) (z : Leaf), ys[i]? = some z → [k0, k1, k2, k3, k4][i]? = some ki → ki < y.length ∧ ∃ cs1, (rows.flatten.drop (ki * 4)).take 4 = cs1 ∧ NodeOk a s c z cs1 := fun i ki z hz hk => by
        obtain ⟨i1, e1, e2⟩ := hix i z hz
        rw [hk] at e1
        obtain rfl := Option.some.inj e1
        have hlt := (List.getElem?_eq_some_iff.1 e2).1
        exact ⟨hlt, hN.seg (by rw [List.getElem?_append_left hlt]; exact e2)⟩
      repeat (first | (refine G_id ?_; first | refine G_nil ?_ | refine G_plain rfl rfl ?_ | refine G_yes rfl rfl rfl rfl ?_) | (refine X_id ?_; first | refine X_yl (Yl_move rfl rfl) rfl rfl ?_ | refine X_yl (Yl_assign rfl rfl) rfl rfl ?_ | refine X_yl (Yl_fieldAddr0 rfl rfl rfl) rfl rfl ?_ | refine X_yl (Yl_extract rfl rfl) rfl rfl ?_ | refine X_yl (Yl_pick_f rfl rfl rfl) rfl rfl ?_ | refine X_yl (Yl_len rfl rfl) rfl rfl ?_ | refine X_yl (Yl_neq_f rfl rfl rfl (by omega)) rfl rfl ?_ | refine X_yl (Yl_indexAddr rfl rfl rfl (by omega) (by omega) (by first | assumption | exact ⟨_, _, rfl⟩)) rfl rfl ?_ | refine X_yl (Yl_load rfl rfl hS.cell) rfl rfl ?_ | refine X_yl (Yl_loadN rfl rfl ((hr.rd hS).cellsX (by omega) hxs rfl)) rfl rfl ?_ | refine X_store rfl rfl rfl rfl hS (fun _ hS _ => ?_) | refine X_alloc rfl rfl rfl hS (fun _ _ hS _ => ?_) | refine X_yl (Yl_buildArr rfl rfl rfl rfl rfl) rfl rfl ?_) | (refine C_id ?_; first | refine C_seq ?_ | refine C_region ?_ | refine C_block ?_ | refine C_skip ?_ | refine C_cond_f rfl ?_) | (refine E_id ?_; first | refine E_code ?_))
      rename_i b8 _ _ _ _ _ _ b9 _ _ _ _ _
      refine C_joinB (α := Unit) (fun _ => [(2, .pointer (some ⟨b2, 0, none⟩)), (4, .slice (some ⟨ab, ao, none⟩) (y.length + 1) ql), (8, .pointer (some ⟨b8, 0, none⟩))]) (fun _ w' => (∀ i y, i < 5 → ys[i]? = some y → kindOk i y) ∧ St w F2 [pts b9 (.cells (List.toArray [.int .i64 1, .int .i64 1, .int .i64 1, .int .i64 0, .int .i64 0]) 86 (0, 0)), pts b8 (.cells (List.toArray [.int .i64 2, .int .i64 0, .slice none 0 0, .slice (some ⟨ib, io, none⟩) 5 q]) 85 (0, 0)), pts b2 (.cells (List.toArray [.string (str []), .string (str []), .string (str []), .int .i64 0, .int .i64 0]) 46 (0, 0))] w') ?_ ?_
      · refine C_loop (α := Nat) (fun i => [(2, .pointer (some ⟨b2, 0, none⟩)), (4, .slice (some ⟨ab, ao, none⟩) (y.length + 1) ql), (8, .pointer (some ⟨b8, 0, none⟩)), (9, .pointer (some ⟨b9, 0, none⟩)), (10, .int .i64 (i : Nat))])
          (fun i w' => i ≤ 5 ∧ (∀ j y, j < i → ys[j]? = some y → kindOk j y) ∧ St w F2 [pts b9 (.cells (List.toArray [.int .i64 1, .int .i64 1, .int .i64 1, .int .i64 0, .int .i64 0]) 86 (0, 0)), pts b8 (.cells (List.toArray [.int .i64 2, .int .i64 0, .slice none 0 0, .slice (some ⟨ib, io, none⟩) 5 q]) 85 (0, 0)), pts b2 (.cells (List.toArray [.string (str []), .string (str []), .string (str []), .int .i64 0, .int .i64 0]) 46 (0, 0))] w') (fun i => 5 - i) 0 ⟨rfl, rfl, rfl, rfl, rfl, trivial⟩ ⟨Nat.zero_le _, fun j y hj => by omega, hS⟩ ?_
        clear hS
        rintro i w3 ⟨hi, hok, hS⟩
        have hnext : ∀ z, ys[i]? = some z → kindOk i z → ∀ j z, j < i + 1 → ys[j]? = some z → kindOk j z := fun z hz hk j z2 hj hz2 => by
          rcases Nat.lt_or_ge j i with h | h
          · exact hok j z2 h hz2
          · obtain rfl : j = i := by omega
            rw [hz] at hz2
            obtain rfl := Option.some.inj hz2
            exact hk
        have hbad : ∀ z, i < 5 → ys[i]? = some z → ¬ kindOk i z → readR (.list ys) = none := fun z hi hz hk => readR_bad hz hi hk
        have hcase : i = 0 ∨ i = 1 ∨ i = 2 ∨ i = 3 ∨ i = 4 ∨ i = 5 := by omega
        rcases hcase with rfl | rfl | rfl | rfl | rfl | rfl
        · obtain ⟨z, hz⟩ : ∃ z, ys[0]? = some z := ⟨_, List.getElem?_eq_getElem (by omega)⟩
          obtain ⟨hlt, cs1, hseg, hnk⟩ := hnode 0 k0 z hz rfl
          obtain ⟨kv, hkv, hk1, hk0⟩ := node_kind hnk
          have hx := seg_at hseg hkv
          have hx2 : [Value.int .i64 (k0 : Nat), .int .i64 (k1 : Nat), .int .i64 (k2 : Nat), .int .i64 (k3 : Nat), .int .i64 (k4 : Nat)][0]? = some (.int .i64 (k0 : Nat)) := rfl
          by_cases hok2 : kindOk 0 z
          · obtain rfl : kv = 1 := (hk1.2 hok2)
            repeat (first | (refine G_id ?_; first | refine G_nil ?_ | refine G_plain rfl rfl ?_) | (refine X_id ?_; first | refine X_yl (Yl_move rfl rfl) rfl rfl ?_ | refine X_yl (Yl_lss_t rfl rfl rfl (by omega)) rfl rfl ?_) | (refine C_id ?_; first | refine C_seq ?_ | refine C_region ?_ | refine C_block ?_ | refine C_skip ?_ | refine C_cond_t rfl ?_) | (refine E_id ?_; first | refine E_code ?_))
            refine C_ord (.s 0 (.s 1 (.s 2 (.s 3 (.s 4 (.s 5 (.s 6 (.s 7 (.s 8 (.s 9 (.s 10 (.s 11 (.s 12 .nil))))))))))))) mixed (by kernel_rfl) rfl ?_
            have hS := hS.drew
            repeat (first | (refine G_id ?_; first | refine G_nil ?_ | refine G_plain rfl rfl ?_) | (refine X_id ?_; first | refine X_yl (Yl_move rfl rfl) rfl rfl ?_ | refine X_yl (Yl_assign rfl rfl) rfl rfl ?_ | refine X_yl (Yl_add rfl rfl rfl (w64 (by omega) (by omega))) rfl rfl ?_) | (refine C_id ?_; first | refine C_region ?_ | refine C_skip ?_ | refine C_cond_f rfl ?_) | (refine E_id ?_; first | refine E_code ?_ | refine E_blk_n ?_) | (refine GO_id ?_; first | refine GO_nil ?_ | refine GO_pure rfl rfl (fun _ => Yl_move rfl rfl) rfl rfl ?_ | refine GO_pure rfl rfl (fun _ => Yl_fieldAddr0 rfl rfl rfl) rfl rfl ?_ | refine GO_pure rfl rfl (fun _ => Yl_fieldAddr rfl rfl rfl) rfl rfl ?_ | refine GO_pure rfl rfl (fun _ => Yl_neq_f rfl rfl rfl (by omega)) rfl rfl ?_ | refine GO_pure rfl rfl (fun _ => Yl_indexAddr_arr rfl rfl rfl (by omega) (by omega)) rfl rfl ?_ | refine GO_pure rfl rfl (fun _ => Yl_indexAddr rfl rfl rfl (by omega) (by omega) (by first | assumption | exact ⟨_, _, rfl⟩)) rfl rfl ?_ | refine GO_read (fun w' => w'.cell? _ = some _) rfl rfl hS.cell (fun _ hc => Yl_load rfl rfl hc) rfl rfl ?_ | refine GO_read (fun w' => w'.cell? _ = some _) rfl rfl ((hr.rd hS).cellX (by omega) hx) (fun _ hc => Yl_load rfl rfl hc) rfl rfl ?_ | refine GO_read (fun w' => w'.cell? _ = some _) rfl rfl ((hr2.rd hS).cellX (by omega) hx2) (fun _ hc => Yl_load rfl rfl hc) rfl rfl ?_ | refine GO_read (fun w' => w'.cell? _ = some _) rfl rfl (hS.cellO 0 (by omega)) (fun _ hc => Yl_load rfl rfl hc) rfl rfl ?_))
            exact E_round (z := 0) 1 ⟨rfl, rfl, rfl, rfl, rfl, trivial⟩ ⟨by omega, hnext z hz hok2, hS⟩ (by omega)
          · have hkne : ¬ kv = 1 := fun e => hok2 (hk1.1 e)
            rw [hbad z (by omega) hz hok2]
            repeat (first | (refine G_id ?_; first | refine G_nil ?_ | refine G_plain rfl rfl ?_) | (refine X_id ?_; first | refine X_yl (Yl_move rfl rfl) rfl rfl ?_ | refine X_yl (Yl_lss_t rfl rfl rfl (by omega)) rfl rfl ?_) | (refine C_id ?_; first | refine C_seq ?_ | refine C_region ?_ | refine C_block ?_ | refine C_skip ?_ | refine C_cond_t rfl ?_) | (refine E_id ?_; first | refine E_code ?_))
            refine C_ord (.s 0 (.s 1 (.s 2 (.s 3 (.s 4 (.s 5 (.s 6 (.s 7 (.s 8 (.s 9 (.s 10 (.s 11 (.s 12 .nil))))))))))))) mixed (by kernel_rfl) rfl ?_
            have hS := hS.drew
            repeat (first | (refine G_id ?_; first | refine G_nil ?_ | refine G_plain rfl rfl ?_) | (refine X_id ?_; first | refine X_yl (Yl_assign rfl rfl) rfl rfl ?_ | refine X_yl (Yl_build rfl rfl rfl) rfl rfl ?_ | refine X_store rfl rfl rfl rfl hS (fun _ hS _ => ?_)) | (refine C_id ?_; first | refine C_seq ?_ | refine C_region ?_ | refine C_ret ?_ | refine C_cond_t rfl ?_) | (refine E_id ?_; first | refine E_code ?_ | refine E_then_ret ?_ | refine E_blk_ret ?_ | refine E_ret2 rfl (by first | exact Rv_tmp rfl | exact Rv_cell rfl (run_load1 hS.cell) | exact Rv_cell rfl (run_loadN hS.cellsN)) (by first | exact Rv_tmp rfl | exact Rv_cell rfl (run_load1 hS.cell) | exact Rv_cell rfl (run_loadN hS.cellsN)) (Ret.mk ?_)) | (refine GO_id ?_; first | refine GO_nil ?_ | refine GO_pure rfl rfl (fun _ => Yl_move rfl rfl) rfl rfl ?_ | refine GO_pure rfl rfl (fun _ => Yl_fieldAddr0 rfl rfl rfl) rfl rfl ?_ | refine GO_pure rfl rfl (fun _ => Yl_fieldAddr rfl rfl rfl) rfl rfl ?_ | refine GO_pure rfl rfl (fun _ => Yl_neq_t rfl rfl rfl (by omega)) rfl rfl ?_ | refine GO_pure rfl rfl (fun _ => Yl_indexAddr_arr rfl rfl rfl (by omega) (by omega)) rfl rfl ?_ | refine GO_pure rfl rfl (fun _ => Yl_indexAddr rfl rfl rfl (by omega) (by omega) (by first | assumption | exact ⟨_, _, rfl⟩)) rfl rfl ?_ | refine GO_read (fun w' => w'.cell? _ = some _) rfl rfl hS.cell (fun _ hc => Yl_load rfl rfl hc) rfl rfl ?_ | refine GO_read (fun w' => w'.cell? _ = some _) rfl rfl ((hr.rd hS).cellX (by omega) hx) (fun _ hc => Yl_load rfl rfl hc) rfl rfl ?_ | refine GO_read (fun w' => w'.cell? _ = some _) rfl rfl ((hr2.rd hS).cellX (by omega) hx2) (fun _ hc => Yl_load rfl rfl hc) rfl rfl ?_ | refine GO_read (fun w' => w'.cell? _ = some _) rfl rfl (hS.cellO 0 (by omega)) (fun _ hc => Yl_load rfl rfl hc) rfl rfl ?_))
            exact ⟨rfl, (hbk hS).drops⟩
        · obtain ⟨z, hz⟩ : ∃ z, ys[1]? = some z := ⟨_, List.getElem?_eq_getElem (by omega)⟩
          obtain ⟨hlt, cs1, hseg, hnk⟩ := hnode 1 k1 z hz rfl
          obtain ⟨kv, hkv, hk1, hk0⟩ := node_kind hnk
          have hx := seg_at hseg hkv
          have hx2 : [Value.int .i64 (k0 : Nat), .int .i64 (k1 : Nat), .int .i64 (k2 : Nat), .int .i64 (k3 : Nat), .int .i64 (k4 : Nat)][1]? = some (.int .i64 (k1 : Nat)) := rfl
          by_cases hok2 : kindOk 1 z
          · obtain rfl : kv = 1 := (hk1.2 hok2)
            repeat (first | (refine G_id ?_; first | refine G_nil ?_ | refine G_plain rfl rfl ?_) | (refine X_id ?_; first | refine X_yl (Yl_move rfl rfl) rfl rfl ?_ | refine X_yl (Yl_lss_t rfl rfl rfl (by omega)) rfl rfl ?_) | (refine C_id ?_; first | refine C_seq ?_ | refine C_region ?_ | refine C_block ?_ | refine C_skip ?_ | refine C_cond_t rfl ?_) | (refine E_id ?_; first | refine E_code ?_))
            refine C_ord (.s 0 (.s 1 (.s 2 (.s 3 (.s 4 (.s 5 (.s 6 (.s 7 (.s 8 (.s 9 (.s 10 (.s 11 (.s 12 .nil))))))))))))) mixed (by kernel_rfl) rfl ?_
            have hS := hS.drew
            repeat (first | (refine G_id ?_; first | refine G_nil ?_ | refine G_plain rfl rfl ?_) | (refine X_id ?_; first | refine X_yl (Yl_move rfl rfl) rfl rfl ?_ | refine X_yl (Yl_assign rfl rfl) rfl rfl ?_ | refine X_yl (Yl_add rfl rfl rfl (w64 (by omega) (by omega))) rfl rfl ?_) | (refine C_id ?_; first | refine C_region ?_ | refine C_skip ?_ | refine C_cond_f rfl ?_) | (refine E_id ?_; first | refine E_code ?_ | refine E_blk_n ?_) | (refine GO_id ?_; first | refine GO_nil ?_ | refine GO_pure rfl rfl (fun _ => Yl_move rfl rfl) rfl rfl ?_ | refine GO_pure rfl rfl (fun _ => Yl_fieldAddr0 rfl rfl rfl) rfl rfl ?_ | refine GO_pure rfl rfl (fun _ => Yl_fieldAddr rfl rfl rfl) rfl rfl ?_ | refine GO_pure rfl rfl (fun _ => Yl_neq_f rfl rfl rfl (by omega)) rfl rfl ?_ | refine GO_pure rfl rfl (fun _ => Yl_indexAddr_arr rfl rfl rfl (by omega) (by omega)) rfl rfl ?_ | refine GO_pure rfl rfl (fun _ => Yl_indexAddr rfl rfl rfl (by omega) (by omega) (by first | assumption | exact ⟨_, _, rfl⟩)) rfl rfl ?_ | refine GO_read (fun w' => w'.cell? _ = some _) rfl rfl hS.cell (fun _ hc => Yl_load rfl rfl hc) rfl rfl ?_ | refine GO_read (fun w' => w'.cell? _ = some _) rfl rfl ((hr.rd hS).cellX (by omega) hx) (fun _ hc => Yl_load rfl rfl hc) rfl rfl ?_ | refine GO_read (fun w' => w'.cell? _ = some _) rfl rfl ((hr2.rd hS).cellX (by omega) hx2) (fun _ hc => Yl_load rfl rfl hc) rfl rfl ?_ | refine GO_read (fun w' => w'.cell? _ = some _) rfl rfl (hS.cellO 1 (by omega)) (fun _ hc => Yl_load rfl rfl hc) rfl rfl ?_))
            exact E_round (z := 1) 2 ⟨rfl, rfl, rfl, rfl, rfl, trivial⟩ ⟨by omega, hnext z hz hok2, hS⟩ (by omega)
          · have hkne : ¬ kv = 1 := fun e => hok2 (hk1.1 e)
            rw [hbad z (by omega) hz hok2]
            repeat (first | (refine G_id ?_; first | refine G_nil ?_ | refine G_plain rfl rfl ?_) | (refine X_id ?_; first | refine X_yl (Yl_move rfl rfl) rfl rfl ?_ | refine X_yl (Yl_lss_t rfl rfl rfl (by omega)) rfl rfl ?_) | (refine C_id ?_; first | refine C_seq ?_ | refine C_region ?_ | refine C_block ?_ | refine C_skip ?_ | refine C_cond_t rfl ?_) | (refine E_id ?_; first | refine E_code ?_))
            refine C_ord (.s 0 (.s 1 (.s 2 (.s 3 (.s 4 (.s 5 (.s 6 (.s 7 (.s 8 (.s 9 (.s 10 (.s 11 (.s 12 .nil))))))))))))) mixed (by kernel_rfl) rfl ?_
            have hS := hS.drew
            repeat (first | (refine G_id ?_; first | refine G_nil ?_ | refine G_plain rfl rfl ?_) | (refine X_id ?_; first | refine X_yl (Yl_assign rfl rfl) rfl rfl ?_ | refine X_yl (Yl_build rfl rfl rfl) rfl rfl ?_ | refine X_store rfl rfl rfl rfl hS (fun _ hS _ => ?_)) | (refine C_id ?_; first | refine C_seq ?_ | refine C_region ?_ | refine C_ret ?_ | refine C_cond_t rfl ?_) | (refine E_id ?_; first | refine E_code ?_ | refine E_then_ret ?_ | refine E_blk_ret ?_ | refine E_ret2 rfl (by first | exact Rv_tmp rfl | exact Rv_cell rfl (run_load1 hS.cell) | exact Rv_cell rfl (run_loadN hS.cellsN)) (by first | exact Rv_tmp rfl | exact Rv_cell rfl (run_load1 hS.cell) | exact Rv_cell rfl (run_loadN hS.cellsN)) (Ret.mk ?_)) | (refine GO_id ?_; first | refine GO_nil ?_ | refine GO_pure rfl rfl (fun _ => Yl_move rfl rfl) rfl rfl ?_ | refine GO_pure rfl rfl (fun _ => Yl_fieldAddr0 rfl rfl rfl) rfl rfl ?_ | refine GO_pure rfl rfl (fun _ => Yl_fieldAddr rfl rfl rfl) rfl rfl ?_ | refine GO_pure rfl rfl (fun _ => Yl_neq_t rfl rfl rfl (by omega)) rfl rfl ?_ | refine GO_pure rfl rfl (fun _ => Yl_indexAddr_arr rfl rfl rfl (by omega) (by omega)) rfl rfl ?_ | refine GO_pure rfl rfl (fun _ => Yl_indexAddr rfl rfl rfl (by omega) (by omega) (by first | assumption | exact ⟨_, _, rfl⟩)) rfl rfl ?_ | refine GO_read (fun w' => w'.cell? _ = some _) rfl rfl hS.cell (fun _ hc => Yl_load rfl rfl hc) rfl rfl ?_ | refine GO_read (fun w' => w'.cell? _ = some _) rfl rfl ((hr.rd hS).cellX (by omega) hx) (fun _ hc => Yl_load rfl rfl hc) rfl rfl ?_ | refine GO_read (fun w' => w'.cell? _ = some _) rfl rfl ((hr2.rd hS).cellX (by omega) hx2) (fun _ hc => Yl_load rfl rfl hc) rfl rfl ?_ | refine GO_read (fun w' => w'.cell? _ = some _) rfl rfl (hS.cellO 1 (by omega)) (fun _ hc => Yl_load rfl rfl hc) rfl rfl ?_))
            exact ⟨rfl, (hbk hS).drops⟩
        · obtain ⟨z, hz⟩ : ∃ z, ys[2]? = some z := ⟨_, List.getElem?_eq_getElem (by omega)⟩
          obtain ⟨hlt, cs1, hseg, hnk⟩ := hnode 2 k2 z hz rfl
          obtain ⟨kv, hkv, hk1, hk0⟩ := node_kind hnk
          have hx := seg_at hseg hkv
          have hx2 : [Value.int .i64 (k0 : Nat), .int .i64 (k1 : Nat), .int .i64 (k2 : Nat), .int .i64 (k3 : Nat), .int .i64 (k4 : Nat)][2]? = some (.int .i64 (k2 : Nat)) := rfl
          by_cases hok2 : kindOk 2 z
          · obtain rfl : kv = 1 := (hk1.2 hok2)
            repeat (first | (refine G_id ?_; first | refine G_nil ?_ | refine G_plain rfl rfl ?_) | (refine X_id ?_; first | refine X_yl (Yl_move rfl rfl) rfl rfl ?_ | refine X_yl (Yl_lss_t rfl rfl rfl (by omega)) rfl rfl ?_) | (refine C_id ?_; first | refine C_seq ?_ | refine C_region ?_ | refine C_block ?_ | refine C_skip ?_ | refine C_cond_t rfl ?_) | (refine E_id ?_; first | refine E_code ?_))
            refine C_ord (.s 0 (.s 1 (.s 2 (.s 3 (.s 4 (.s 5 (.s 6 (.s 7 (.s 8 (.s 9 (.s 10 (.s 11 (.s 12 .nil))))))))))))) mixed (by kernel_rfl) rfl ?_
            have hS := hS.drew
            repeat (first | (refine G_id ?_; first | refine G_nil ?_ | refine G_plain rfl rfl ?_) | (refine X_id ?_; first | refine X_yl (Yl_move rfl rfl) rfl rfl ?_ | refine X_yl (Yl_assign rfl rfl) rfl rfl ?_ | refine X_yl (Yl_add rfl rfl rfl (w64 (by omega) (by omega))) rfl rfl ?_) | (refine C_id ?_; first | refine C_region ?_ | refine C_skip ?_ | refine C_cond_f rfl ?_) | (refine E_id ?_; first | refine E_code ?_ | refine E_blk_n ?_) | (refine GO_id ?_; first | refine GO_nil ?_ | refine GO_pure rfl rfl (fun _ => Yl_move rfl rfl) rfl rfl ?_ | refine GO_pure rfl rfl (fun _ => Yl_fieldAddr0 rfl rfl rfl) rfl rfl ?_ | refine GO_pure rfl rfl (fun _ => Yl_fieldAddr rfl rfl rfl) rfl rfl ?_ | refine GO_pure rfl rfl (fun _ => Yl_neq_f rfl rfl rfl (by omega)) rfl rfl ?_ | refine GO_pure rfl rfl (fun _ => Yl_indexAddr_arr rfl rfl rfl (by omega) (by omega)) rfl rfl ?_ | refine GO_pure rfl rfl (fun _ => Yl_indexAddr rfl rfl rfl (by omega) (by omega) (by first | assumption | exact ⟨_, _, rfl⟩)) rfl rfl ?_ | refine GO_read (fun w' => w'.cell? _ = some _) rfl rfl hS.cell (fun _ hc => Yl_load rfl rfl hc) rfl rfl ?_ | refine GO_read (fun w' => w'.cell? _ = some _) rfl rfl ((hr.rd hS).cellX (by omega) hx) (fun _ hc => Yl_load rfl rfl hc) rfl rfl ?_ | refine GO_read (fun w' => w'.cell? _ = some _) rfl rfl ((hr2.rd hS).cellX (by omega) hx2) (fun _ hc => Yl_load rfl rfl hc) rfl rfl ?_ | refine GO_read (fun w' => w'.cell? _ = some _) rfl rfl (hS.cellO 2 (by omega)) (fun _ hc => Yl_load rfl rfl hc) rfl rfl ?_))
            exact E_round (z := 2) 3 ⟨rfl, rfl, rfl, rfl, rfl, trivial⟩ ⟨by omega, hnext z hz hok2, hS⟩ (by omega)
          · have hkne : ¬ kv = 1 := fun e => hok2 (hk1.1 e)
            rw [hbad z (by omega) hz hok2]
            repeat (first | (refine G_id ?_; first | refine G_nil ?_ | refine G_plain rfl rfl ?_) | (refine X_id ?_; first | refine X_yl (Yl_move rfl rfl) rfl rfl ?_ | refine X_yl (Yl_lss_t rfl rfl rfl (by omega)) rfl rfl ?_) | (refine C_id ?_; first | refine C_seq ?_ | refine C_region ?_ | refine C_block ?_ | refine C_skip ?_ | refine C_cond_t rfl ?_) | (refine E_id ?_; first | refine E_code ?_))
            refine C_ord (.s 0 (.s 1 (.s 2 (.s 3 (.s 4 (.s 5 (.s 6 (.s 7 (.s 8 (.s 9 (.s 10 (.s 11 (.s 12 .nil))))))))))))) mixed (by kernel_rfl) rfl ?_
            have hS := hS.drew
            repeat (first | (refine G_id ?_; first | refine G_nil ?_ | refine G_plain rfl rfl ?_) | (refine X_id ?_; first | refine X_yl (Yl_assign rfl rfl) rfl rfl ?_ | refine X_yl (Yl_build rfl rfl rfl) rfl rfl ?_ | refine X_store rfl rfl rfl rfl hS (fun _ hS _ => ?_)) | (refine C_id ?_; first | refine C_seq ?_ | refine C_region ?_ | refine C_ret ?_ | refine C_cond_t rfl ?_) | (refine E_id ?_; first | refine E_code ?_ | refine E_then_ret ?_ | refine E_blk_ret ?_ | refine E_ret2 rfl (by first | exact Rv_tmp rfl | exact Rv_cell rfl (run_load1 hS.cell) | exact Rv_cell rfl (run_loadN hS.cellsN)) (by first | exact Rv_tmp rfl | exact Rv_cell rfl (run_load1 hS.cell) | exact Rv_cell rfl (run_loadN hS.cellsN)) (Ret.mk ?_)) | (refine GO_id ?_; first | refine GO_nil ?_ | refine GO_pure rfl rfl (fun _ => Yl_move rfl rfl) rfl rfl ?_ | refine GO_pure rfl rfl (fun _ => Yl_fieldAddr0 rfl rfl rfl) rfl rfl ?_ | refine GO_pure rfl rfl (fun _ => Yl_fieldAddr rfl rfl rfl) rfl rfl ?_ | refine GO_pure rfl rfl (fun _ => Yl_neq_t rfl rfl rfl (by omega)) rfl rfl ?_ | refine GO_pure rfl rfl (fun _ => Yl_indexAddr_arr rfl rfl rfl (by omega) (by omega)) rfl rfl ?_ | refine GO_pure rfl rfl (fun _ => Yl_indexAddr rfl rfl rfl (by omega) (by omega) (by first | assumption | exact ⟨_, _, rfl⟩)) rfl rfl ?_ | refine GO_read (fun w' => w'.cell? _ = some _) rfl rfl hS.cell (fun _ hc => Yl_load rfl rfl hc) rfl rfl ?_ | refine GO_read (fun w' => w'.cell? _ = some _) rfl rfl ((hr.rd hS).cellX (by omega) hx) (fun _ hc => Yl_load rfl rfl hc) rfl rfl ?_ | refine GO_read (fun w' => w'.cell? _ = some _) rfl rfl ((hr2.rd hS).cellX (by omega) hx2) (fun _ hc => Yl_load rfl rfl hc) rfl rfl ?_ | refine GO_read (fun w' => w'.cell? _ = some _) rfl rfl (hS.cellO 2 (by omega)) (fun _ hc => Yl_load rfl rfl hc) rfl rfl ?_))
            exact ⟨rfl, (hbk hS).drops⟩
        · obtain ⟨z, hz⟩ : ∃ z, ys[3]? = some z := ⟨_, List.getElem?_eq_getElem (by omega)⟩
          obtain ⟨hlt, cs1, hseg, hnk⟩ := hnode 3 k3 z hz rfl
          obtain ⟨kv, hkv, hk1, hk0⟩ := node_kind hnk
          have hx := seg_at hseg hkv
          have hx2 : [Value.int .i64 (k0 : Nat), .int .i64 (k1 : Nat), .int .i64 (k2 : Nat), .int .i64 (k3 : Nat), .int .i64 (k4 : Nat)][3]? = some (.int .i64 (k3 : Nat)) := rfl
          by_cases hok2 : kindOk 3 z
          · obtain rfl : kv = 0 := (hk0.2 hok2)
            repeat (first | (refine G_id ?_; first | refine G_nil ?_ | refine G_plain rfl rfl ?_) | (refine X_id ?_; first | refine X_yl (Yl_move rfl rfl) rfl rfl ?_ | refine X_yl (Yl_lss_t rfl rfl rfl (by omega)) rfl rfl ?_) | (refine C_id ?_; first | refine C_seq ?_ | refine C_region ?_ | refine C_block ?_ | refine C_skip ?_ | refine C_cond_t rfl ?_) | (refine E_id ?_; first | refine E_code ?_))
            refine C_ord (.s 0 (.s 1 (.s 2 (.s 3 (.s 4 (.s 5 (.s 6 (.s 7 (.s 8 (.s 9 (.s 10 (.s 11 (.s 12 .nil))))))))))))) mixed (by kernel_rfl) rfl ?_
            have hS := hS.drew
            repeat (first | (refine G_id ?_; first | refine G_nil ?_ | refine G_plain rfl rfl ?_) | (refine X_id ?_; first | refine X_yl (Yl_move rfl rfl) rfl rfl ?_ | refine X_yl (Yl_assign rfl rfl) rfl rfl ?_ | refine X_yl (Yl_add rfl rfl rfl (w64 (by omega) (by omega))) rfl rfl ?_) | (refine C_id ?_; first | refine C_region ?_ | refine C_skip ?_ | refine C_cond_f rfl ?_) | (refine E_id ?_; first | refine E_code ?_ | refine E_blk_n ?_) | (refine GO_id ?_; first | refine GO_nil ?_ | refine GO_pure rfl rfl (fun _ => Yl_move rfl rfl) rfl rfl ?_ | refine GO_pure rfl rfl (fun _ => Yl_fieldAddr0 rfl rfl rfl) rfl rfl ?_ | refine GO_pure rfl rfl (fun _ => Yl_fieldAddr rfl rfl rfl) rfl rfl ?_ | refine GO_pure rfl rfl (fun _ => Yl_neq_f rfl rfl rfl (by omega)) rfl rfl ?_ | refine GO_pure rfl rfl (fun _ => Yl_indexAddr_arr rfl rfl rfl (by omega) (by omega)) rfl rfl ?_ | refine GO_pure rfl rfl (fun _ => Yl_indexAddr rfl rfl rfl (by omega) (by omega) (by first | assumption | exact ⟨_, _, rfl⟩)) rfl rfl ?_ | refine GO_read (fun w' => w'.cell? _ = some _) rfl rfl hS.cell (fun _ hc => Yl_load rfl rfl hc) rfl rfl ?_ | refine GO_read (fun w' => w'.cell? _ = some _) rfl rfl ((hr.rd hS).cellX (by omega) hx) (fun _ hc => Yl_load rfl rfl hc) rfl rfl ?_ | refine GO_read (fun w' => w'.cell? _ = some _) rfl rfl ((hr2.rd hS).cellX (by omega) hx2) (fun _ hc => Yl_load rfl rfl hc) rfl rfl ?_ | refine GO_read (fun w' => w'.cell? _ = some _) rfl rfl (hS.cellO 3 (by omega)) (fun _ hc => Yl_load rfl rfl hc) rfl rfl ?_))
            exact E_round (z := 3) 4 ⟨rfl, rfl, rfl, rfl, rfl, trivial⟩ ⟨by omega, hnext z hz hok2, hS⟩ (by omega)
          · have hkne : ¬ kv = 0 := fun e => hok2 (hk0.1 e)
            rw [hbad z (by omega) hz hok2]
            repeat (first | (refine G_id ?_; first | refine G_nil ?_ | refine G_plain rfl rfl ?_) | (refine X_id ?_; first | refine X_yl (Yl_move rfl rfl) rfl rfl ?_ | refine X_yl (Yl_lss_t rfl rfl rfl (by omega)) rfl rfl ?_) | (refine C_id ?_; first | refine C_seq ?_ | refine C_region ?_ | refine C_block ?_ | refine C_skip ?_ | refine C_cond_t rfl ?_) | (refine E_id ?_; first | refine E_code ?_))
            refine C_ord (.s 0 (.s 1 (.s 2 (.s 3 (.s 4 (.s 5 (.s 6 (.s 7 (.s 8 (.s 9 (.s 10 (.s 11 (.s 12 .nil))))))))))))) mixed (by kernel_rfl) rfl ?_
            have hS := hS.drew
            repeat (first | (refine G_id ?_; first | refine G_nil ?_ | refine G_plain rfl rfl ?_) | (refine X_id ?_; first | refine X_yl (Yl_assign rfl rfl) rfl rfl ?_ | refine X_yl (Yl_build rfl rfl rfl) rfl rfl ?_ | refine X_store rfl rfl rfl rfl hS (fun _ hS _ => ?_)) | (refine C_id ?_; first | refine C_seq ?_ | refine C_region ?_ | refine C_ret ?_ | refine C_cond_t rfl ?_) | (refine E_id ?_; first | refine E_code ?_ | refine E_then_ret ?_ | refine E_blk_ret ?_ | refine E_ret2 rfl (by first | exact Rv_tmp rfl | exact Rv_cell rfl (run_load1 hS.cell) | exact Rv_cell rfl (run_loadN hS.cellsN)) (by first | exact Rv_tmp rfl | exact Rv_cell rfl (run_load1 hS.cell) | exact Rv_cell rfl (run_loadN hS.cellsN)) (Ret.mk ?_)) | (refine GO_id ?_; first | refine GO_nil ?_ | refine GO_pure rfl rfl (fun _ => Yl_move rfl rfl) rfl rfl ?_ | refine GO_pure rfl rfl (fun _ => Yl_fieldAddr0 rfl rfl rfl) rfl rfl ?_ | refine GO_pure rfl rfl (fun _ => Yl_fieldAddr rfl rfl rfl) rfl rfl ?_ | refine GO_pure rfl rfl (fun _ => Yl_neq_t rfl rfl rfl (by omega)) rfl rfl ?_ | refine GO_pure rfl rfl (fun _ => Yl_indexAddr_arr rfl rfl rfl (by omega) (by omega)) rfl rfl ?_ | refine GO_pure rfl rfl (fun _ => Yl_indexAddr rfl rfl rfl (by omega) (by omega) (by first | assumption | exact ⟨_, _, rfl⟩)) rfl rfl ?_ | refine GO_read (fun w' => w'.cell? _ = some _) rfl rfl hS.cell (fun _ hc => Yl_load rfl rfl hc) rfl rfl ?_ | refine GO_read (fun w' => w'.cell? _ = some _) rfl rfl ((hr.rd hS).cellX (by omega) hx) (fun _ hc => Yl_load rfl rfl hc) rfl rfl ?_ | refine GO_read (fun w' => w'.cell? _ = some _) rfl rfl ((hr2.rd hS).cellX (by omega) hx2) (fun _ hc => Yl_load rfl rfl hc) rfl rfl ?_ | refine GO_read (fun w' => w'.cell? _ = some _) rfl rfl (hS.cellO 3 (by omega)) (fun _ hc => Yl_load rfl rfl hc) rfl rfl ?_))
            exact ⟨rfl, (hbk hS).drops⟩
        · obtain ⟨z, hz⟩ : ∃ z, ys[4]? = some z := ⟨_, List.getElem?_eq_getElem (by omega)⟩
          obtain ⟨hlt, cs1, hseg, hnk⟩ := hnode 4 k4 z hz rfl
          obtain ⟨kv, hkv, hk1, hk0⟩ := node_kind hnk
          have hx := seg_at hseg hkv
          have hx2 : [Value.int .i64 (k0 : Nat), .int .i64 (k1 : Nat), .int .i64 (k2 : Nat), .int .i64 (k3 : Nat), .int .i64 (k4 : Nat)][4]? = some (.int .i64 (k4 : Nat)) := rfl
          by_cases hok2 : kindOk 4 z
          · obtain rfl : kv = 0 := (hk0.2 hok2)
            repeat (first | (refine G_id ?_; first | refine G_nil ?_ | refine G_plain rfl rfl ?_) | (refine X_id ?_; first | refine X_yl (Yl_move rfl rfl) rfl rfl ?_ | refine X_yl (Yl_lss_t rfl rfl rfl (by omega)) rfl rfl ?_) | (refine C_id ?_; first | refine C_seq ?_ | refine C_region ?_ | refine C_block ?_ | refine C_skip ?_ | refine C_cond_t rfl ?_) | (refine E_id ?_; first | refine E_code ?_))
            refine C_ord (.s 0 (.s 1 (.s 2 (.s 3 (.s 4 (.s 5 (.s 6 (.s 7 (.s 8 (.s 9 (.s 10 (.s 11 (.s 12 .nil))))))))))))) mixed (by kernel_rfl) rfl ?_
            have hS := hS.drew
            repeat (first | (refine G_id ?_; first | refine G_nil ?_ | refine G_plain rfl rfl ?_) | (refine X_id ?_; first | refine X_yl (Yl_move rfl rfl) rfl rfl ?_ | refine X_yl (Yl_assign rfl rfl) rfl rfl ?_ | refine X_yl (Yl_add rfl rfl rfl (w64 (by omega) (by omega))) rfl rfl ?_) | (refine C_id ?_; first | refine C_region ?_ | refine C_skip ?_ | refine C_cond_f rfl ?_) | (refine E_id ?_; first | refine E_code ?_ | refine E_blk_n ?_) | (refine GO_id ?_; first | refine GO_nil ?_ | refine GO_pure rfl rfl (fun _ => Yl_move rfl rfl) rfl rfl ?_ | refine GO_pure rfl rfl (fun _ => Yl_fieldAddr0 rfl rfl rfl) rfl rfl ?_ | refine GO_pure rfl rfl (fun _ => Yl_fieldAddr rfl rfl rfl) rfl rfl ?_ | refine GO_pure rfl rfl (fun _ => Yl_neq_f rfl rfl rfl (by omega)) rfl rfl ?_ | refine GO_pure rfl rfl (fun _ => Yl_indexAddr_arr rfl rfl rfl (by omega) (by omega)) rfl rfl ?_ | refine GO_pure rfl rfl (fun _ => Yl_indexAddr rfl rfl rfl (by omega) (by omega) (by first | assumption | exact ⟨_, _, rfl⟩)) rfl rfl ?_ | refine GO_read (fun w' => w'.cell? _ = some _) rfl rfl hS.cell (fun _ hc => Yl_load rfl rfl hc) rfl rfl ?_ | refine GO_read (fun w' => w'.cell? _ = some _) rfl rfl ((hr.rd hS).cellX (by omega) hx) (fun _ hc => Yl_load rfl rfl hc) rfl rfl ?_ | refine GO_read (fun w' => w'.cell? _ = some _) rfl rfl ((hr2.rd hS).cellX (by omega) hx2) (fun _ hc => Yl_load rfl rfl hc) rfl rfl ?_ | refine GO_read (fun w' => w'.cell? _ = some _) rfl rfl (hS.cellO 4 (by omega)) (fun _ hc => Yl_load rfl rfl hc) rfl rfl ?_))
            exact E_round (z := 4) 5 ⟨rfl, rfl, rfl, rfl, rfl, trivial⟩ ⟨by omega, hnext z hz hok2, hS⟩ (by omega)
          · have hkne : ¬ kv = 0 := fun e => hok2 (hk0.1 e)
            rw [hbad z (by omega) hz hok2]
            repeat (first | (refine G_id ?_; first | refine G_nil ?_ | refine G_plain rfl rfl ?_) | (refine X_id ?_; first | refine X_yl (Yl_move rfl rfl) rfl rfl ?_ | refine X_yl (Yl_lss_t rfl rfl rfl (by omega)) rfl rfl ?_) | (refine C_id ?_; first | refine C_seq ?_ | refine C_region ?_ | refine C_block ?_ | refine C_skip ?_ | refine C_cond_t rfl ?_) | (refine E_id ?_; first | refine E_code ?_))
            refine C_ord (.s 0 (.s 1 (.s 2 (.s 3 (.s 4 (.s 5 (.s 6 (.s 7 (.s 8 (.s 9 (.s 10 (.s 11 (.s 12 .nil))))))))))))) mixed (by kernel_rfl) rfl ?_
            have hS := hS.drew
            repeat (first | (refine G_id ?_; first | refine G_nil ?_ | refine G_plain rfl rfl ?_) | (refine X_id ?_; first | refine X_yl (Yl_assign rfl rfl) rfl rfl ?_ | refine X_yl (Yl_build rfl rfl rfl) rfl rfl ?_ | refine X_store rfl rfl rfl rfl hS (fun _ hS _ => ?_)) | (refine C_id ?_; first | refine C_seq ?_ | refine C_region ?_ | refine C_ret ?_ | refine C_cond_t rfl ?_) | (refine E_id ?_; first | refine E_code ?_ | refine E_then_ret ?_ | refine E_blk_ret ?_ | refine E_ret2 rfl (by first | exact Rv_tmp rfl | exact Rv_cell rfl (run_load1 hS.cell) | exact Rv_cell rfl (run_loadN hS.cellsN)) (by first | exact Rv_tmp rfl | exact Rv_cell rfl (run_load1 hS.cell) | exact Rv_cell rfl (run_loadN hS.cellsN)) (Ret.mk ?_)) | (refine GO_id ?_; first | refine GO_nil ?_ | refine GO_pure rfl rfl (fun _ => Yl_move rfl rfl) rfl rfl ?_ | refine GO_pure rfl rfl (fun _ => Yl_fieldAddr0 rfl rfl rfl) rfl rfl ?_ | refine GO_pure rfl rfl (fun _ => Yl_fieldAddr rfl rfl rfl) rfl rfl ?_ | refine GO_pure rfl rfl (fun _ => Yl_neq_t rfl rfl rfl (by omega)) rfl rfl ?_ | refine GO_pure rfl rfl (fun _ => Yl_indexAddr_arr rfl rfl rfl (by omega) (by omega)) rfl rfl ?_ | refine GO_pure rfl rfl (fun _ => Yl_indexAddr rfl rfl rfl (by omega) (by omega) (by first | assumption | exact ⟨_, _, rfl⟩)) rfl rfl ?_ | refine GO_read (fun w' => w'.cell? _ = some _) rfl rfl hS.cell (fun _ hc => Yl_load rfl rfl hc) rfl rfl ?_ | refine GO_read (fun w' => w'.cell? _ = some _) rfl rfl ((hr.rd hS).cellX (by omega) hx) (fun _ hc => Yl_load rfl rfl hc) rfl rfl ?_ | refine GO_read (fun w' => w'.cell? _ = some _) rfl rfl ((hr2.rd hS).cellX (by omega) hx2) (fun _ hc => Yl_load rfl rfl hc) rfl rfl ?_ | refine GO_read (fun w' => w'.cell? _ = some _) rfl rfl (hS.cellO 4 (by omega)) (fun _ hc => Yl_load rfl rfl hc) rfl rfl ?_))
            exact ⟨rfl, (hbk hS).drops⟩
        · repeat (first | (refine G_id ?_; first | refine G_nil ?_ | refine G_plain rfl rfl ?_) | (refine X_id ?_; first | refine X_yl (Yl_move rfl rfl) rfl rfl ?_ | refine X_yl (Yl_lss_f rfl rfl rfl (by omega)) rfl rfl ?_) | (refine C_id ?_; first | refine C_seq ?_ | refine C_region ?_ | refine C_exit ?_ | refine C_cond_f rfl ?_) | (refine E_id ?_; first | refine E_code ?_ | refine E_then_exit ?_ | refine E_blk_same ?_))
          exact E_mid () ⟨rfl, rfl, rfl, trivial⟩ ⟨hok, hS⟩
      · clear hS
        rintro _ w3 ⟨hok, hSn⟩
        obtain ⟨d0, d1, d2, n3, n4, rfl⟩ := readR_ok h5 hok
        obtain ⟨g0, c0, s0, m0⟩ := hnode 0 k0 _ rfl rfl
        obtain ⟨j0, i0, rfl, t0⟩ := m0
        obtain ⟨g1, c1, s1, m1⟩ := hnode 1 k1 _ rfl rfl
        obtain ⟨j1, i1, rfl, t1⟩ := m1
        obtain ⟨g2, c2, s2, m2⟩ := hnode 2 k2 _ rfl rfl
        obtain ⟨j2, i2, rfl, t2⟩ := m2
        obtain ⟨g3, c3, s3, rfl⟩ := hnode 3 k3 _ rfl rfl
        obtain ⟨g4, c4, s4, rfl⟩ := hnode 4 k4 _ rfl rfl
        have hx0 := seg_at (o := 2) s0 rfl
        have hx1 := seg_at (o := 2) s1 rfl
        have hx2 := seg_at (o := 2) s2 rfl
        have hx3 := seg_at (o := 1) s3 rfl
        have hx4 := seg_at (o := 1) s4 rfl
        have hb0 := hb.subBytes (l := j0) (h := j0 + d0.length) (c := c) (by omega) (by omega)
        rw [show j0 + d0.length - j0 = d0.length by omega, t0] at hb0
        have hb1 := hb.subBytes (l := j1) (h := j1 + d1.length) (c := c) (by omega) (by omega)
        rw [show j1 + d1.length - j1 = d1.length by omega, t1] at hb1
        have hb2 := hb.subBytes (l := j2) (h := j2 + d2.length) (c := c) (by omega) (by omega)
        rw [show j2 + d2.length - j2 = d2.length by omega, t2] at hb2
        clear s0 s1 s2 s3 s4 t0 t1 t2 hok hnode hix hall
        have hck := fun W => rcheck_ ⟨d0, d1, d2, n3, n4⟩ W
        have hres : readR (.list [.txt d0, .txt d1, .txt d2, .num n3, .num n4]) = if rchk ⟨d0, d1, d2, n3, n4⟩ = 0 then some ⟨d0, d1, d2, n3, n4⟩ else none := rfl
        rw [hres]
        have hS := hSn
        clear hSn
        repeat (first | (refine C_id ?_; first | refine C_seq ?_))
        refine C_ord (.s 0 (.s 1 (.s 2 (.s 3 (.s 4 (.s 5 (.s 6 (.s 7 (.s 8 (.s 9 (.s 10 (.s 11 (.s 12 (.s 13 (.s 14 (.s 15 (.s 16 (.s 17 (.s 18 (.s 19 (.s 20 (.s 21 (.s 22 (.s 23 (.s 24 (.s 25 (.s 26 (.s 27 (.s 28 (.s 29 (.s 30 (.s 31 (.s 32 (.s 33 (.s 34 (.s 35 (.s 36 (.s 37 (.s 38 (.s 39 (.s 40 (.s 41 (.s 42 (.s 43 (.h 44 (.h 45 .nil .no) .no))))))))))))))))))))))))))))))))))))))))))))) mixed (by kernel_rfl) rfl ?_
        have hS := hS.drew
        repeat' (first | (refine GO_read (fun w' => w'.cell? _ = some _) rfl rfl ((hr2.rd hS).cellF (i := 0) (by first | omega | (dsimp only; omega)) rfl) (fun _ hc => Yl_load rfl rfl hc) rfl rfl ?_) | (refine GO_read (fun w' => w'.cell? _ = some _) rfl rfl ((hr2.rd hS).cellF (i := 1) (by first | omega | (dsimp only; omega)) rfl) (fun _ hc => Yl_load rfl rfl hc) rfl rfl ?_) | (refine GO_read (fun w' => w'.cell? _ = some _) rfl rfl ((hr2.rd hS).cellF (i := 2) (by first | omega | (dsimp only; omega)) rfl) (fun _ hc => Yl_load rfl rfl hc) rfl rfl ?_) | (refine GO_read (fun w' => w'.cell? _ = some _) rfl rfl ((hr2.rd hS).cellF (i := 3) (by first | omega | (dsimp only; omega)) rfl) (fun _ hc => Yl_load rfl rfl hc) rfl rfl ?_) | (refine GO_read (fun w' => w'.cell? _ = some _) rfl rfl ((hr2.rd hS).cellF (i := 4) (by first | omega | (dsimp only; omega)) rfl) (fun _ hc => Yl_load rfl rfl hc) rfl rfl ?_) | (refine GO_read (fun w' => w'.cell? _ = some _) rfl rfl ((hr.rd hS).cellF (i := k0 * 4 + 2) (by first | omega | (dsimp only; omega)) hx0) (fun _ hc => Yl_load rfl rfl hc) rfl rfl ?_) | (refine GO_read (fun w' => w'.cell? _ = some _) rfl rfl ((hr.rd hS).cellF (i := k1 * 4 + 2) (by first | omega | (dsimp only; omega)) hx1) (fun _ hc => Yl_load rfl rfl hc) rfl rfl ?_) | (refine GO_read (fun w' => w'.cell? _ = some _) rfl rfl ((hr.rd hS).cellF (i := k2 * 4 + 2) (by first | omega | (dsimp only; omega)) hx2) (fun _ hc => Yl_load rfl rfl hc) rfl rfl ?_) | (refine GO_read (fun w' => w'.cell? _ = some _) rfl rfl ((hr.rd hS).cellF (i := k3 * 4 + 1) (by first | omega | (dsimp only; omega)) hx3) (fun _ hc => Yl_load rfl rfl hc) rfl rfl ?_) | (refine GO_read (fun w' => w'.cell? _ = some _) rfl rfl ((hr.rd hS).cellF (i := k4 * 4 + 1) (by first | omega | (dsimp only; omega)) hx4) (fun _ hc => Yl_load rfl rfl hc) rfl rfl ?_) | (refine GO_read (fun w' => Rd w' (bytes _ _)) rfl rfl (hb0.rd hS) (fun _ h => Yl_bytesStr rfl rfl h rfl) rfl rfl ?_) | (refine GO_read (fun w' => Rd w' (bytes _ _)) rfl rfl (hb1.rd hS) (fun _ h => Yl_bytesStr rfl rfl h rfl) rfl rfl ?_) | (refine GO_read (fun w' => Rd w' (bytes _ _)) rfl rfl (hb2.rd hS) (fun _ h => Yl_bytesStr rfl rfl h rfl) rfl rfl ?_) | (refine And.intro (by repeat (first | exact trivial | refine And.intro (.inl (by decide +kernel)) ?_ | refine And.intro (.inr (by first | exact hS.cell | exact (hr2.rd hS).cellF (i := 0) (by first | omega | (dsimp only; omega)) rfl | exact (hr2.rd hS).cellF (i := 1) (by first | omega | (dsimp only; omega)) rfl | exact (hr2.rd hS).cellF (i := 2) (by first | omega | (dsimp only; omega)) rfl | exact (hr2.rd hS).cellF (i := 3) (by first | omega | (dsimp only; omega)) rfl | exact (hr2.rd hS).cellF (i := 4) (by first | omega | (dsimp only; omega)) rfl | exact (hr.rd hS).cellF (i := k0 * 4 + 2) (by first | omega | (dsimp only; omega)) hx0 | exact (hr.rd hS).cellF (i := k1 * 4 + 2) (by first | omega | (dsimp only; omega)) hx1 | exact (hr.rd hS).cellF (i := k2 * 4 + 2) (by first | omega | (dsimp only; omega)) hx2 | exact (hr.rd hS).cellF (i := k3 * 4 + 1) (by first | omega | (dsimp only; omega)) hx3 | exact (hr.rd hS).cellF (i := k4 * 4 + 1) (by first | omega | (dsimp only; omega)) hx4 | exact hb0.rd hS | exact hb1.rd hS | exact hb2.rd hS)) ?_)) ?_) | refine GO_alt ?_ ?_ | (refine G_id ?_; first | refine G_plain rfl rfl ?_) | (refine X_id ?_; first | refine X_yl (Yl_loadN rfl rfl hS.cellsN) rfl rfl ?_ | refine X_store rfl rfl rfl rfl hS (fun _ hS _ => ?_) | refine X_alloc rfl rfl rfl hS (fun _ _ hS _ => ?_)) | (refine C_id ?_; first | refine C_seq ?_ | refine C_region ?_) | (refine E_id ?_; first | refine E_code ?_) | (refine GO_id ?_; first | refine GO_nil ?_ | refine GO_pure rfl rfl (fun _ => Yl_move rfl rfl) rfl rfl ?_ | refine GO_pure rfl rfl (fun _ => Yl_fieldAddr0 rfl rfl rfl) rfl rfl ?_ | refine GO_pure rfl rfl (fun _ => Yl_fieldAddr rfl rfl rfl) rfl rfl ?_ | refine GO_pure rfl rfl (fun _ => Yl_build rfl rfl rfl) rfl rfl ?_ | refine GO_pure rfl rfl (fun _ => Yl_indexAddr rfl rfl rfl (by omega) (by omega) (by first | assumption | exact ⟨_, _, rfl⟩)) rfl rfl ?_ | refine GO_read (fun w' => w'.cell? _ = some _) rfl rfl hS.cell (fun _ hc => Yl_load rfl rfl hc) rfl rfl ?_ | refine GO_hard rfl rfl ?_))
        refine X_callq 20 rfl rfl rfl rfl rfl hS (hck _) ?_
        rintro _ w4 rfl hS
        by_cases hok : rchk ⟨d0, d1, d2, n3, n4⟩ = 0
        · rw [hok, if_pos rfl]
          repeat (first | (refine G_id ?_; first | refine G_nil ?_ | refine G_plain rfl rfl ?_) | (refine X_id ?_; first | refine X_yl (Yl_assign rfl rfl) rfl rfl ?_ | refine X_yl (Yl_neq_f rfl rfl rfl (by omega)) rfl rfl ?_ | refine X_yl (Yl_loadN rfl rfl hS.cellsN) rfl rfl ?_ | refine X_store rfl rfl rfl rfl hS (fun _ hS _ => ?_)) | (refine C_id ?_; first | refine C_seq ?_ | refine C_region ?_ | refine C_ret ?_ | refine C_skip ?_ | refine C_cond_f rfl ?_) | (refine E_id ?_; first | refine E_code ?_ | refine E_ret2 rfl (by first | exact Rv_tmp rfl | exact Rv_cell rfl (run_load1 hS.cell) | exact Rv_cell rfl (run_loadN hS.cellsN)) (by first | exact Rv_tmp rfl | exact Rv_cell rfl (run_load1 hS.cell) | exact Rv_cell rfl (run_loadN hS.cellsN)) (Ret.mk ?_)))
          exact ⟨rfl, (hbk hS).drops⟩
        · rw [if_neg hok]
          generalize rchk ⟨d0, d1, d2, n3, n4⟩ = q at hok
          repeat (first | (refine G_id ?_; first | refine G_nil ?_ | refine G_plain rfl rfl ?_) | (refine X_id ?_; first | refine X_yl (Yl_assign rfl rfl) rfl rfl ?_ | refine X_yl (Yl_neq_t rfl rfl rfl (by omega)) rfl rfl ?_ | refine X_yl (Yl_build rfl rfl rfl) rfl rfl ?_ | refine X_store rfl rfl rfl rfl hS (fun _ hS _ => ?_)) | (refine C_id ?_; first | refine C_seq ?_ | refine C_region ?_ | refine C_ret ?_ | refine C_cond_t rfl ?_) | (refine E_id ?_; first | refine E_code ?_ | refine E_then_ret ?_ | refine E_ret2 rfl (by first | exact Rv_tmp rfl | exact Rv_cell rfl (run_load1 hS.cell) | exact Rv_cell rfl (run_loadN hS.cellsN)) (by first | exact Rv_tmp rfl | exact Rv_cell rfl (run_load1 hS.cell) | exact Rv_cell rfl (run_loadN hS.cellsN)) (Ret.mk ?_)))
          exact ⟨rfl, (hbk hS).drops⟩
end Cr
namespace Cr
open Go Go.Proofs
set_option maxRecDepth 100000
set_option maxHeartbeats 8000000
attribute [local irreducible] Calls

theorem run_eqRec46 (d : Nat) (w : World) (a0 a1 a2 b0 b1 b2 : List UInt8) (m0 m1 n0 n1 : Int) :
    (Op.equalIn (d + 2) 46 (.agg (rcV a0 a1 a2 m0 m1).toArray) (.agg (rcV b0 b1 b2 n0 n1).toArray)).run Tryd.prog w = .ok (decide (a0 = b0 ∧ a1 = b1 ∧ a2 = b2 ∧ m0 = n0 ∧ m1 = n1)) w := by
  have key : ∀ fs, Tryd.prog.underlying 46 = some (.struct fs) → Tryd.prog.fieldsOf 46 = fs := fun fs h => by unfold Program.fieldsOf; rw [h]
  have hu := Tryd.underlying46
  have hf := key _ hu
  rw [run_equalIn_struct w (d + 1) 46 _ _ (by rw [hf]; exact hu) (by kernel_rfl), hf]
  have hs := fun (a b : List UInt8) => run_strEq (P := Tryd.prog) (w := w) (e := 9) (d := d) a b
  have hi := fun (a b : Int) => run_equalIn_int (P := Tryd.prog) w d 3 .i64 .i64 a b Und.und
  have o1 : ∀ w, (isAgg 9).run Tryd.prog w = .ok false w := One.one
  have o2 : ∀ w, (isAgg 3).run Tryd.prog w = .ok false w := One.one
  have e1 : ∀ a b : Int, (a == b) = decide (a = b) := fun a b => by by_cases h : a = b <;> simp [h]
  simp [Op.eqFields, part, o1, o2, hs, hi, e1]
  by_cases h0 : a0 = b0 <;> by_cases h1 : a1 = b1 <;> by_cases h2 : a2 = b2 <;> by_cases h3 : m0 = n0 <;> by_cases h4 : m1 = n1 <;> simp [h0, h1, h2, h3, h4]
instance : NoGd Tryd.prog 46 := ⟨by kernel_rfl⟩
theorem Yl_neqRec46 {o : Oper} {σ : Env} {w : World} {x y : Operand} {ty : TypeId} (r : Rec) (ho : o.op = .binOp .neq 46 x y ty) (hx : ev σ x = some (.agg r.cells.toArray)) (hy : ev σ y = some (.agg r.cells.toArray)) :
    Yl Tryd.prog o σ w (.bool false) := ⟨fun N ds f hf => by
  have h2 := run_eqGuard_agg (P := Tryd.prog) (w := w) .neq 46 x y r.cells.toArray r.cells.toArray (NoGd.no)
  have h3 := run_neq_struct (P := Tryd.prog) (w := w) 46 r.cells.toArray r.cells.toArray
  have h4 := run_eqRec46 9998 w r.cmd r.pub r.pkg r.cmd r.pub r.pkg r.rev r.out r.rev r.out
  simp only [execOp, ho, hf.eval hx, hf.eval hy, Sem.run_bind, h2, h3, h4, Result.andThen_ok]
  simp⟩
theorem areads_ (a : Option Addr) (s0 : List UInt8) (c0 : Nat) (W : World) (hsc : s0.length ≤ c0) (hb0 : Ro W noF (bytes a s0)) (hG : Lg W noF) (hT : Sp W noF) :
    Calls Tryd.prog 6 #[.slice a s0.length c0] W (Ret fun v w => v = .bool true ∧ St W noF [] w) := by
  have hS := St.start W
  obtain ⟨T, hTm⟩ : ∃ T, min s0.length 300 = T := ⟨_, rfl⟩
  have hb := hb0.subBytes (l := 0) (h := T) (c := c0) (by omega) (by omega)
  obtain ⟨s, hs⟩ : ∃ s, s = (s0.drop 0).take (T - 0) := ⟨_, rfl⟩
  rw [← hs, sub_zero] at hb
  have hsl : T = s.length := by rw [hs]; simp; omega
  have hsb : s.length ≤ 300 := by omega
  have hK := fun W h g => known27_ W h g
  have hD := aread_ a s c0 (by omega) (by omega)
  have hR := rread_ a s c0 (by omega) (by omega)
  refine calls_C Tryd.func6 rfl Tryd.ntmps6 rfl ?_
  repeat (first | (refine G_id ?_; first | refine G_nil ?_ | refine G_plain rfl rfl ?_) | (refine X_id ?_; first | refine X_yl (Yl_move rfl rfl) rfl rfl ?_ | refine X_yl (Yl_assign rfl rfl) rfl rfl ?_ | refine X_yl (Yl_len rfl rfl) rfl rfl ?_) | (refine C_id ?_; first | refine C_seq ?_ | refine C_region ?_) | (refine E_id ?_; first | refine E_code ?_))
  refine X_yl (Yl_minC (m := s0.length) (n := 300) rfl rfl rfl hTm) rfl rfl ?_
  refine G_plain rfl rfl ?_
  refine X_yl (Yl_slice (l := 0) (h := T) rfl rfl rfl rfl (.inr ⟨_, _, rfl, by omega, by omega, by omega⟩) (.inl ⟨rfl, rfl⟩)) rfl rfl ?_
  rw [sub_zero, Nat.sub_zero, Nat.sub_zero, hsl]
  clear hs hsl hTm
  repeat (first | (refine G_id ?_; first | refine G_nil ?_ | refine G_plain rfl rfl ?_) | (refine X_id ?_; first | refine X_yl (Yl_move rfl rfl) rfl rfl ?_ | refine X_yl (Yl_assign rfl rfl) rfl rfl ?_) | (refine C_id ?_; first | refine C_seq ?_ | refine C_region ?_) | (refine E_id ?_; first | refine E_code ?_))
  refine X_callg _ rfl rfl rfl rfl rfl (hD _ (hG.at_ hS) (hT.at_ hS) (hb.rd hS).ro) ?_
  rintro v w hV
  cases hr : (dec s).bind readR with
  | none =>
    rw [hr] at hV hR
    obtain ⟨rfl, hS'⟩ := hV
    replace hS := hS.plus hS'
    clear hS'
    have hO := fun W => of27_ zRec W
    repeat (first | (refine G_id ?_; first | refine G_nil ?_ | refine G_plain rfl rfl ?_) | (refine X_id ?_; first | refine X_yl (Yl_move rfl rfl) rfl rfl ?_ | refine X_yl (Yl_assign rfl rfl) rfl rfl ?_ | refine X_yl (Yl_extract rfl rfl) rfl rfl ?_ | refine X_store rfl rfl rfl rfl hS (fun _ hS _ => ?_) | refine X_alloc rfl rfl rfl hS (fun _ _ hS _ => ?_)) | (refine C_id ?_; first | refine C_seq ?_ | refine C_region ?_) | (refine E_id ?_; first | refine E_code ?_))
    refine X_callg _ rfl rfl rfl rfl rfl (hR _ (hb.rd hS).ro) ?_
    rintro _ w ⟨rfl, hS'⟩
    replace hS := hS.plus hS'
    clear hS'
    repeat (first | (refine G_id ?_; first | refine G_nil ?_ | refine G_plain rfl rfl ?_) | (refine X_id ?_; first | refine X_yl (Yl_move rfl rfl) rfl rfl ?_ | refine X_yl (Yl_assign rfl rfl) rfl rfl ?_ | refine X_yl (Yl_extract rfl rfl) rfl rfl ?_ | refine X_store rfl rfl rfl rfl hS (fun _ hS _ => ?_) | refine X_alloc rfl rfl rfl hS (fun _ _ hS _ => ?_)) | (refine C_id ?_; first | refine C_seq ?_) | (refine E_id ?_; first | refine E_code ?_))
    refine C_ord (.s 0 (.s 1 (.s 2 (.s 3 (.s 4 (.s 6 (.h 5 (.s 7 (.s 8 .nil)) .no))))))) mixed (by kernel_rfl) rfl ?_
    have hS := hS.drew
    repeat (first | (refine X_id ?_; first | (refine X_callq 18 rfl rfl rfl rfl rfl hS (hO _) ?_; rintro _ _ rfl hS)) | (refine GO_id ?_; first | refine GO_pure rfl rfl (fun _ => Yl_move rfl rfl) rfl rfl ?_ | refine GO_pure rfl rfl (fun _ => Yl_neq_f rfl rfl rfl (by omega)) rfl rfl ?_ | refine GO_hard_yes rfl rfl rfl rfl ?_ | refine GO_yes_read (fun w' => CellsN w' _ _ _) rfl rfl rfl rfl hS.cellsN (fun _ hc => Yl_loadN rfl rfl hc) rfl rfl ?_) | (refine Keep_id ?_; first | refine And.intro (by repeat (first | exact trivial | refine And.intro (.inl (by decide +kernel)) ?_ | refine And.intro (.inr (by first | assumption | exact hS.cell | exact cell_at (by assumption) | exact hS.cellI (by omega) | exact hS.cellIP (by omega) | exact hS.cellsN | exact ((hr.rd hS).cellX (by omega) hx) | exact ((hr2.rd hS).cellX (by omega) hx2) | exact hS.cellB (by omega) | exact hS.cellBA (by omega) | exact (hb.rd hS).cellB' (by omega) | exact (hb2.rd hS).cellB' (by omega) | exact (hg.rd hS).cellI (by omega) | exact (hg2.rd hS).cellI (by omega) | exact ((hr.rd hS).cellF (by first | omega | (dsimp only; omega)) hx) | exact ((hr2.rd hS).cellF (by first | omega | (dsimp only; omega)) hx2) | exact hS.cellO 0 (by omega) | exact hS.cellO 1 (by omega) | exact hS.cellIA (by omega) | exact (hg.rd hS).cellIA (by omega) | exact (hg2.rd hS).cellIA (by omega) | exact cell_at (hc.rd hS).pts | exact hb.rd hS | exact hS.cellO 4 (by omega) | exact hS.cellO 5 (by omega) | exact hS.cellO 6 (by omega) | exact hS.cellO 7 (by omega) | exact hS.cellO 8 (by omega) | exact hS.cellO 9 (by omega) | exact hS.cellO 10 (by omega) | exact hS.cellO 11 (by omega) | exact hS.cellO 12 (by omega) | exact hS.cellO 13 (by omega))) ?_)) ?_))
    refine GO_yes rfl rfl rfl rfl (fun _ => Yl_neqRec46 zRec rfl rfl rfl) rfl rfl ?_
    repeat (first | (refine G_id ?_; first | refine G_nil ?_ | refine G_plain rfl rfl ?_) | (refine X_id ?_; first | (refine X_callq 22 rfl rfl rfl rfl rfl hS (hK _ (hG.at_ hS) (hT.at_ hS)) ?_; rintro _ _ rfl hS) | refine X_yl (Yl_move rfl rfl) rfl rfl ?_ | refine X_yl (Yl_assign rfl rfl) rfl rfl ?_ | refine X_yl (Yl_neq_t rfl rfl rfl (by omega)) rfl rfl ?_) | (refine C_id ?_; first | refine C_seq ?_ | refine C_region ?_ | refine C_ret ?_ | refine C_skip ?_ | refine C_cond_t rfl ?_ | refine C_cond_f rfl ?_) | (refine E_id ?_; first | refine E_code ?_ | refine E_then_ret ?_ | refine E_ret1 rfl (Rv_tmp rfl) (Ret.mk ?_)) | (refine GO_id ?_; first | refine GO_nil ?_ | refine GO_pure rfl rfl (fun _ => Yl_pick_f rfl rfl rfl) rfl rfl ?_))
    exact ⟨rfl, hS.drops⟩
  | some d =>
    rw [hr] at hV hR
    obtain ⟨t, ht, htr⟩ : ∃ t, dec s = some t ∧ readR t = some d := by
      cases h : dec s with
      | none => rw [h] at hr; cases hr
      | some t => rw [h] at hr; exact ⟨t, rfl, hr⟩
    obtain ⟨rfl, hok⟩ := readR_some htr
    have henc : s = encT d.leaves := dec_canon ht (by simp [Rec.leaves])
    have hE := fun W h g => abytes_ok d W h g hok
    rw [← henc] at hE
    have hO := fun W => of27_ d W
    have hsame := fun (b : Option Addr) (q : Nat) => same_ a b c0 q s s
    simp only [decide_true] at hsame
    obtain ⟨rfl, hS'⟩ := hV
    replace hS := hS.plus hS'
    clear hS'
    repeat (first | (refine G_id ?_; first | refine G_nil ?_ | refine G_plain rfl rfl ?_) | (refine X_id ?_; first | refine X_yl (Yl_move rfl rfl) rfl rfl ?_ | refine X_yl (Yl_assign rfl rfl) rfl rfl ?_ | refine X_yl (Yl_extract rfl rfl) rfl rfl ?_ | refine X_store rfl rfl rfl rfl hS (fun _ hS _ => ?_) | refine X_alloc rfl rfl rfl hS (fun _ _ hS _ => ?_)) | (refine C_id ?_; first | refine C_seq ?_ | refine C_region ?_) | (refine E_id ?_; first | refine E_code ?_))
    refine X_callg _ rfl rfl rfl rfl rfl (hR _ (hb.rd hS).ro) ?_
    rintro _ w ⟨rfl, hS'⟩
    replace hS := hS.plus hS'
    clear hS'
    repeat (first | (refine G_id ?_; first | refine G_nil ?_ | refine G_plain rfl rfl ?_) | (refine X_id ?_; first | refine X_yl (Yl_move rfl rfl) rfl rfl ?_ | refine X_yl (Yl_assign rfl rfl) rfl rfl ?_ | refine X_yl (Yl_extract rfl rfl) rfl rfl ?_ | refine X_store rfl rfl rfl rfl hS (fun _ hS _ => ?_) | refine X_alloc rfl rfl rfl hS (fun _ _ hS _ => ?_)) | (refine C_id ?_; first | refine C_seq ?_) | (refine E_id ?_; first | refine E_code ?_))
    refine C_ord (.s 0 (.s 1 (.s 2 (.s 3 (.s 4 (.s 6 (.h 5 (.s 7 (.s 8 .nil)) .no))))))) mixed (by kernel_rfl) rfl ?_
    have hS := hS.drew
    repeat (first | (refine X_id ?_; first | (refine X_callq 18 rfl rfl rfl rfl rfl hS (hO _) ?_; rintro _ _ rfl hS)) | (refine GO_id ?_; first | refine GO_pure rfl rfl (fun _ => Yl_move rfl rfl) rfl rfl ?_ | refine GO_pure rfl rfl (fun _ => Yl_neq_f rfl rfl rfl (by omega)) rfl rfl ?_ | refine GO_hard_yes rfl rfl rfl rfl ?_ | refine GO_yes_read (fun w' => CellsN w' _ _ _) rfl rfl rfl rfl hS.cellsN (fun _ hc => Yl_loadN rfl rfl hc) rfl rfl ?_) | (refine Keep_id ?_; first | refine And.intro (by repeat (first | exact trivial | refine And.intro (.inl (by decide +kernel)) ?_ | refine And.intro (.inr (by first | assumption | exact hS.cell | exact cell_at (by assumption) | exact hS.cellI (by omega) | exact hS.cellIP (by omega) | exact hS.cellsN | exact ((hr.rd hS).cellX (by omega) hx) | exact ((hr2.rd hS).cellX (by omega) hx2) | exact hS.cellB (by omega) | exact hS.cellBA (by omega) | exact (hb.rd hS).cellB' (by omega) | exact (hb2.rd hS).cellB' (by omega) | exact (hg.rd hS).cellI (by omega) | exact (hg2.rd hS).cellI (by omega) | exact ((hr.rd hS).cellF (by first | omega | (dsimp only; omega)) hx) | exact ((hr2.rd hS).cellF (by first | omega | (dsimp only; omega)) hx2) | exact hS.cellO 0 (by omega) | exact hS.cellO 1 (by omega) | exact hS.cellIA (by omega) | exact (hg.rd hS).cellIA (by omega) | exact (hg2.rd hS).cellIA (by omega) | exact cell_at (hc.rd hS).pts | exact hb.rd hS | exact hS.cellO 4 (by omega) | exact hS.cellO 5 (by omega) | exact hS.cellO 6 (by omega) | exact hS.cellO 7 (by omega) | exact hS.cellO 8 (by omega) | exact hS.cellO 9 (by omega) | exact hS.cellO 10 (by omega) | exact hS.cellO 11 (by omega) | exact hS.cellO 12 (by omega) | exact hS.cellO 13 (by omega))) ?_)) ?_))
    refine GO_yes rfl rfl rfl rfl (fun _ => Yl_neqRec46 d rfl rfl rfl) rfl rfl ?_
    repeat (first | (refine G_id ?_; first | refine G_nil ?_ | refine G_plain rfl rfl ?_) | (refine X_id ?_; first | refine X_yl (Yl_move rfl rfl) rfl rfl ?_ | refine X_yl (Yl_neq_f rfl rfl rfl (by omega)) rfl rfl ?_ | refine X_yl (Yl_loadN rfl rfl hS.cellsN) rfl rfl ?_) | (refine C_id ?_; first | refine C_seq ?_ | refine C_region ?_ | refine C_skip ?_ | refine C_cond_f rfl ?_) | (refine E_id ?_; first | refine E_code ?_) | (refine GO_id ?_; first | refine GO_nil ?_ | refine GO_pure rfl rfl (fun _ => Yl_pick_f rfl rfl rfl) rfl rfl ?_))
    refine X_callg _ rfl rfl rfl rfl rfl (hE _ (hG.at_ hS) (hT.at_ hS)) ?_
    rintro _ w ⟨b2, q2, rfl, hq2, hS'⟩
    replace hS := hS.plus hS'
    clear hS' hE
    repeat (first | (refine G_id ?_; first | refine G_nil ?_ | refine G_plain rfl rfl ?_ | refine G_yes rfl rfl rfl rfl ?_) | (refine X_id ?_; first | (refine X_callq 22 rfl rfl rfl rfl rfl hS (hK _ (hG.at_ hS) (hT.at_ hS)) ?_; rintro _ _ rfl hS) | (refine X_callq 15 rfl rfl rfl rfl rfl hS (hsame b2 q2 _ (hb.rd hS) (hS.rd (List.mem_cons_self ..)).own_row (by omega)) ?_; rintro _ _ rfl hS) | refine X_yl (Yl_move rfl rfl) rfl rfl ?_ | refine X_yl (Yl_assign rfl rfl) rfl rfl ?_ | refine X_yl (Yl_extract rfl rfl) rfl rfl ?_ | refine X_yl (Yl_pick_t rfl rfl rfl) rfl rfl ?_ | refine X_yl (Yl_eql_t rfl rfl rfl (by omega)) rfl rfl ?_) | (refine C_id ?_; first | refine C_seq ?_ | refine C_region ?_ | refine C_ret ?_) | (refine E_id ?_; first | refine E_code ?_ | refine E_ret1 rfl (Rv_tmp rfl) (Ret.mk ?_)))
    exact ⟨rfl, hS.drops⟩
end Cr
namespace Go.Proofs.YtkdolbmcnekeoaaDoor
open Go.ChangeShapes Go.WideShapes Go.ChangeAt Go.RowKit
set_option maxRecDepth 100000

theorem arg_bytes7 {H : Type} {enc : TypeId × Value → H} {W : World} {base : Nat} {v : Value} {d : DataW H} {p : List MemPlace} (hval : Value.okWide Tryd.prog W .any base 22 v) (h : DataW.Trod enc Tryd.prog W 0 (fun _ => true) true 22 v d p) :
    ∃ a s c, v = .slice a s.length c ∧ s.length ≤ c ∧ Cr.Ro W Cr.noF (Cr.bytes a s) := by
  obtain ⟨a, n, c, rfl⟩ := okWide_slice Tryd.underlying22 hval
  obtain ⟨fuel, hf⟩ := h
  obtain ⟨a', l, c', e, hl, _, hw⟩ := Cr.open_bytes Tryd.underlying22 Tryd.underlying5 (by kernel_rfl) hf
  have e : [Value.slice a n c] = [.slice a' l.length c'] := e
  simp only [List.cons.injEq, Value.slice.injEq, and_true] at e
  obtain ⟨rfl, rfl, rfl⟩ := e
  exact ⟨a, l, c, rfl, hl, hw.ro⟩
theorem auditReads_contract (H : Type) (enc : TypeId × Value → H) (W : World) (base : Nat) (args : Array Value) (ds gs : List (DataW H)) (before : List MemPlace)
    (hval : ∀ (j : Nat) t v, Tryd.f6.params[j]? = some t → args[j]? = some v → Value.okWide Tryd.prog W .any base t v)
    (hW : DataW.Whole enc Tryd.prog Tryd.f6.params.toList Rows.auditReadsSpec.vars false W args.toList ds gs before) (hL : laidMetH Tryd.prog Rows.auditReadsRow.laid W) :
    Calls Tryd.prog 6 args W fun e W' => ∃ v, e = .returned v ∧ Rows.auditReadsSpec.post enc Tryd.prog Tryd.f6 false true false false W args v W' := by
  have hW' := hW
  obtain ⟨p, q, hA0, hV, rfl, hfz, hnd⟩ := hW
  have hA : DataW.TrodAll enc Tryd.prog W 0 (fun _ => true) true Tryd.f6.params.toList args.toList ds p := hA0
  rw [Tryd.params6] at hA hval
  obtain ⟨rfl, rfl⟩ := trodVars_none hV
  have hAk := hA
  obtain ⟨v0, vs0, d0, ds0, p0, q0, hargs, rfl, rfl, h0, r0⟩ := trodAll_cons hA
  obtain ⟨rfl, rfl, rfl⟩ := trodAll_nil r0
  obtain rfl : args = #[v0] := by cases args; simp_all
  obtain ⟨a, b, ca, rfl, hbl, hb0⟩ := arg_bytes7 (hval 0 22 v0 rfl rfl) h0
  clear hA0
  simp only [List.append_nil] at hW' hAk
  refine (Cr.areads_ a b ca W hbl hb0 (lg_of_laid7 hL) (sp_of_laid7 hL)).mono fun e W' ⟨v, he, hv, hS⟩ => ?_
  subst he hv
  have hb := hS.toBelow
  exact ⟨_, rfl, post_of_law (pa := p0) (pv := []) hW' (fun _ _ _ => trodAll_cons_mk (shut_bool Tryd.underlying4 _) trodAll_mk0)
    (fun sp hsp => trodAll_stays lawLaid hb (fun t ht => by
      have ht : t ∈ [22] := ht
      simp only [List.mem_cons, List.not_mem_nil, or_false] at ht
      rcases ht with rfl
      exact ⟨by kernel_rfl, of_decide_eq_true (by kernel_rfl)⟩) hAk hW'.lt hsp) (fun _ _ => rfl) (by simp)
    (hb.frame _) (fun _ h => hb.frozen h) (ok_one (by kernel_rfl) rfl (okWide_bool_mk Tryd.underlying4 _))⟩
theorem auditReads_laid (os : Os) : laidMet Tryd.prog Rows.auditReadsRow.laid ((lawWorld7 os).forCall (fun _ _ => 0) ⟨#[], #[.slice none 0 0], []⟩).memory :=
  laidMet_of_run' 8 (by kernel_rfl) (by kernel_rfl)
theorem auditReads_reads (os : Os) {H : Type} (enc : TypeId × Value → H) : ∃ places, DataW.whole enc Tryd.prog ((lawWorld7 os).forCall (fun _ _ => 0) ⟨#[], #[.slice none 0 0], []⟩).memory Tryd.f6.params.toList Rows.auditReadsSpec.vars false #[Value.slice none 0 0].toList 8 = some ([.nil], [], places) :=
  ⟨[], by kernel_rfl⟩
theorem auditReads_lifted (os : Os) (started : os.Started) (H : Type) (enc : TypeId × Value → H) (F : Stop.Interp) :
    ReturnsInHanded {} Tryd.checked os 6 .any ((OpenSpec.ofChange Rows.auditReadsSpec).preRow enc Tryd.prog Tryd.f6 Rows.auditReadsRow.domain false Rows.auditReadsRow.laid) (((OpenSpec.ofChange Rows.auditReadsSpec).at F).post enc Tryd.prog Tryd.f6 false true false false) := by
  obtain ⟨places, hx⟩ := auditReads_reads os enc
  refine returnsInHanded_of_row (C := Tryd.checked) (s := OpenSpec.ofChange Rows.auditReadsSpec) lawOwn started (by kernel_rfl) Tryd.func6
    (witness_row_atRef (enc := enc) (C := Tryd.checked) false (lawWorld7 os) #[.slice none 0 0] rfl (by kernel_rfl) (by kernel_rfl) (by kernel_rfl)
      (OpenSpec.preRow_of_cond 8 hx (by kernel_rfl) (fun k hk => by cases hk) (by kernel_rfl) (auditReads_laid os))) ?_
  intro W base args ds gs before hval hW _ _ _ hL _ _
  exact auditReads_contract H enc W base args ds gs before hval hW hL
theorem auditReads_said : Rows.AuditReadsSaid :=
  OpenClaim.holds_of_cond 6 Tryd.f6 rfl rfl rfl rfl rfl rfl rfl ⟨rfl, rfl, rfl, rfl, rfl⟩ rfl rfl rfl rfl rfl (by kernel_rfl) Tryd.func6 (by kernel_rfl)
    (of_decide_eq_true (by kernel_rfl)) (by unfold Func.isWrapper; first | (rw [if_pos (by decide +kernel)]; kernel_rfl) | (rw [if_neg (by decide +kernel)]; exact ⟨rfl, rfl⟩))
    (fun os started H enc _ F => by rw [OpenClaim.pre_eq_preRow]; exact auditReads_lifted os started H enc F)
theorem auditReads_plain (f : FuncId) (fn : Func) (hf : Tryd.pinned.checked.prog.funcNamed Rows.auditReadsRow.func = some f) (hfn : Tryd.pinned.checked.prog.funcs[f]? = some fn) :
    true = Tryd.pinned.checked.prog.looks [] ∧ ∀ (j : Nat) t, fn.params[j]? = some t → Tryd.pinned.checked.prog.wantsStandIn t = false := by
  obtain rfl : f = 6 := Option.some.inj ((show Tryd.prog.funcNamed Rows.auditReadsRow.func = some 6 by kernel_rfl).symm.trans hf) |>.symm
  obtain rfl : fn = Tryd.f6 := (Option.some.inj (Tryd.func6.symm.trans hfn)).symm
  refine ⟨by kernel_rfl, fun j t ht => ?_⟩
  rw [Tryd.params6] at ht
  have ht : t = 22 := by simpa using Array.mem_of_getElem? ht
  rcases ht with rfl
  exact (show Tryd.prog.wantsStandIn 22 = false by kernel_rfl)
theorem auditReads_card : Rows.AuditReadsCardSaid :=
  Claim7.holds_tied_plain_at .later [] _ _ _ _ auditReads_said (fun _ h => by cases h) (by kernel_rfl) (fun _ h => by cases h) auditReads_row_tie rfl ⟨rfl, rfl⟩ (by kernel_rfl) rfl auditReads_plain (by kernel_rfl)
end Go.Proofs.YtkdolbmcnekeoaaDoor
