/-
  The law InodePlays holds: for every list of lists of changes it returns true, and what is handed reads as it did; the package-level tables are as the program's text lays them.
-/
import Derived.Test.YtpdhcfkjakbmfaaGreatDoorPly3
import Derived.Test.YtpdhcfkjakbmfaaGreatDoorPly14
import Derived.Test.YtpdhcfkjakbmfaaGreatDoorPly15
namespace Go.Proofs.YtpdhcfkjakbmfaaGreatDoor
open Go.ChangeShapes Go.WideShapes Go.ChangeAt Go.RowKit
set_option maxRecDepth 100000

theorem gl_of_laidP {W : World} (h : laidMetH Tryz.prog Rows.inodePlaysRow.laid W) : Cr.Gl W Cr.noF Cr.roundL Cr.firstL := by
  have h1 : Lib.TabIs Tryz.prog W "creel/digest.round" .u32 Cr.roundL := Lib.tabIs_of_head (g := 2) (t := 226) (e := 111) (n := 64) (rest := [_]) (by kernel_rfl) (by kernel_rfl) Tryz.underlying226 Tryz.underlying111 (by kernel_rfl) (by kernel_rfl) h
  have h2 : Lib.TabIs Tryz.prog W "creel/digest.first" .u32 Cr.firstL := Lib.tabIs_of_head (g := 0) (t := 173) (e := 111) (n := 8) (rest := []) (by kernel_rfl) (by kernel_rfl) Tryz.underlying173 Tryz.underlying111 (by kernel_rfl) (by kernel_rfl) (laidMet.tail h)
  refine ⟨(Cr.Rd.ofCells (fun i v hv => ?_) (by simp [Cr.ints, Cr.roundL])).ro, (Cr.Rd.ofCells (fun i v hv => ?_) (by simp [Cr.ints, Cr.firstL])).ro, rfl, rfl⟩
  · have hi : i < Cr.roundL.length := by
      rcases Nat.lt_or_ge i Cr.roundL.length with h | h
      · exact h
      · rw [List.getElem?_eq_none (by rw [Cr.ints_length]; omega)] at hv; cases hv
    rw [Cr.ints_get hi] at hv
    rw [← Option.some.inj hv]
    exact h1.cell (by kernel_rfl) i hi
  · have hi : i < Cr.firstL.length := by
      rcases Nat.lt_or_ge i Cr.firstL.length with h | h
      · exact h
      · rw [List.getElem?_eq_none (by rw [Cr.ints_length]; omega)] at hv; cases hv
    rw [Cr.ints_get hi] at hv
    rw [← Option.some.inj hv]
    exact h2.cell (by kernel_rfl) i hi
theorem inodePlays_contract (H : Type) (enc : TypeId × Value → H) (W : World) (base : Nat) (args : Array Value) (ds gs : List (DataW H)) (before : List MemPlace)
    (hval : ∀ (j : Nat) t v, Tryz.f3.params[j]? = some t → args[j]? = some v → Value.okWide Tryz.prog W .any base t v)
    (hW : DataW.Whole enc Tryz.prog Tryz.f3.params.toList Rows.inodePlaysSpec.vars false W args.toList ds gs before) (hL : laidMetH Tryz.prog Rows.inodePlaysRow.laid W) :
    Calls Tryz.prog 3 args W fun e W' => ∃ v, e = .returned v ∧ Rows.inodePlaysSpec.post enc Tryz.prog Tryz.f3 false true false false W args v W' := by
  have hW' := hW
  obtain ⟨p, q, hA0, hV, rfl, hfz, hnd⟩ := hW
  have hA : DataW.TrodAll enc Tryz.prog W 0 (fun _ => true) true Tryz.f3.params.toList args.toList ds p := hA0
  rw [Tryz.params3] at hA hval
  obtain ⟨rfl, rfl⟩ := trodVars_none hV
  have hAk := hA
  obtain ⟨v0, vs0, d0, ds0, p0, q0, hargs, rfl, rfl, h0, r0⟩ := trodAll_cons hA
  obtain ⟨rfl, rfl, rfl⟩ := trodAll_nil r0
  obtain rfl : args = #[v0] := by cases args; simp_all
  obtain ⟨a0, n0, c0, rfl⟩ := okWide_slice Tryz.underlying22 (hval 0 22 v0 rfl rfl)
  obtain ⟨fuel, hf⟩ := h0
  obtain ⟨a, o, c, e, hrow, hall⟩ := Cr.open_plays hf
  have e : [Value.slice a0 n0 c0] = [.slice a o.length c] := e
  simp only [List.cons.injEq, Value.slice.injEq, and_true] at e
  obtain ⟨rfl, rfl, rfl⟩ := e
  clear hA0
  simp only [List.append_nil] at hW' hAk
  refine (Cr.inodePlays_ _ _ o _ _ W (gl_of_laidP hL) hrow hall).mono fun e W' ⟨v, he, hv, hS⟩ => ?_
  subst he hv
  have hb := hS.toBelow
  exact ⟨_, rfl, post_of_law (pa := p0) (pv := []) hW' (fun _ _ _ => trodAll_cons_mk (shut_bool Tryz.underlying4 _) trodAll_mk0)
    (fun sp hsp => trodAll_stays lawLaid hb (fun t ht => by
      have ht : t ∈ [22] := ht
      simp only [List.mem_cons, List.not_mem_nil, or_false] at ht
      rcases ht with rfl
      exact ⟨by kernel_rfl, of_decide_eq_true (by kernel_rfl)⟩) hAk hW'.lt hsp) (fun _ _ => rfl) (by simp)
    (hb.frame _) (fun _ h => hb.frozen h) (ok_one (by kernel_rfl) rfl (okWide_bool_mk Tryz.underlying4 _))⟩
theorem inodePlays_laid (os : Os) : laidMet Tryz.prog Rows.inodePlaysRow.laid ((lawWorld os).forCall (fun _ _ => 0) ⟨#[], #[.slice none 0 0], []⟩).memory :=
  laidMet_of_run' 8 (by kernel_rfl) (by kernel_rfl)
theorem inodePlays_reads (os : Os) {H : Type} (enc : TypeId × Value → H) : ∃ places, DataW.whole enc Tryz.prog ((lawWorld os).forCall (fun _ _ => 0) ⟨#[], #[.slice none 0 0], []⟩).memory Tryz.f3.params.toList Rows.inodePlaysSpec.vars false #[.slice none 0 0].toList 8 = some ([.nil], [], places) :=
  ⟨[], by kernel_rfl⟩
theorem inodePlays_lifted (os : Os) (started : os.Started) (H : Type) (enc : TypeId × Value → H) (F : Stop.Interp) :
    ReturnsInHanded {} Tryz.checked os 3 .any ((OpenSpec.ofChange Rows.inodePlaysSpec).preRow enc Tryz.prog Tryz.f3 Rows.inodePlaysRow.domain false Rows.inodePlaysRow.laid) (((OpenSpec.ofChange Rows.inodePlaysSpec).at F).post enc Tryz.prog Tryz.f3 false true false false) := by
  obtain ⟨places, hx⟩ := inodePlays_reads os enc
  refine returnsInHanded_of_row (C := Tryz.checked) (s := OpenSpec.ofChange Rows.inodePlaysSpec) lawOwn started (by kernel_rfl) Tryz.func3
    (witness_row_at (enc := enc) (C := Tryz.checked) false (lawWorld os) #[.slice none 0 0] rfl (by kernel_rfl) (by kernel_rfl) (by kernel_rfl)
      (OpenSpec.preRow_of_cond 8 hx (by kernel_rfl) (fun k hk => by cases hk) (by kernel_rfl) (inodePlays_laid os))) ?_
  intro W base args ds gs before hval hW _ _ _ hL _ _
  exact inodePlays_contract H enc W base args ds gs before hval hW hL
theorem inodePlays_said : Rows.InodePlaysSaid :=
  OpenClaim.holds_of_cond 3 Tryz.f3 rfl rfl rfl rfl rfl rfl rfl ⟨rfl, rfl, rfl, rfl, rfl⟩ rfl rfl rfl rfl rfl (by kernel_rfl) Tryz.func3 inodePlays_facts
    inodePlays_inst inodePlays_wrap
    (fun os started H enc _ F => by rw [OpenClaim.pre_eq_preRow]; exact inodePlays_lifted os started H enc F)
theorem inodePlays_plain (f : FuncId) (fn : Func) (hf : Tryz.pinned.checked.prog.funcNamed Rows.inodePlaysRow.func = some f) (hfn : Tryz.pinned.checked.prog.funcs[f]? = some fn) :
    true = Tryz.pinned.checked.prog.looks [] ∧ ∀ (j : Nat) t, fn.params[j]? = some t → Tryz.pinned.checked.prog.wantsStandIn t = false := by
  obtain rfl : f = 3 := Option.some.inj ((show Tryz.prog.funcNamed Rows.inodePlaysRow.func = some 3 by kernel_rfl).symm.trans hf) |>.symm
  obtain rfl : fn = Tryz.f3 := (Option.some.inj (Tryz.func3.symm.trans hfn)).symm
  refine ⟨by kernel_rfl, fun j t ht => ?_⟩
  rw [Tryz.params3] at ht
  have ht : t = 22 := by simpa using Array.mem_of_getElem? ht
  rcases ht with rfl
  exact (show Tryz.prog.wantsStandIn 22 = false by kernel_rfl)
theorem inodePlays_card : Rows.InodePlaysCardSaid :=
  Claim7.holds_tied_plain_at .later [] _ _ _ _ inodePlays_said (fun _ h => by cases h) (by kernel_rfl) (fun _ h => by cases h) inodePlays_row_tie rfl ⟨rfl, rfl⟩ (by kernel_rfl) rfl inodePlays_plain (by kernel_rfl)
end Go.Proofs.YtpdhcfkjakbmfaaGreatDoor
