/-
  The law InodeNil holds: for every number and every node it returns true, and what is handed reads as it did; the package-level tables of package digest are as the program's text lays them.
-/
import Derived.Test.YtfcnoebnnglfkaaGreatDoorInd4
import Derived.Test.YtfcnoebnnglfkaaGreatDoorInd5
import Derived.Test.YtfcnoebnnglfkaaGreatDoorInd6
import Derived.Test.YtfcnoebnnglfkaaGreatDoorInd15
import Derived.Test.YtfcnoebnnglfkaaGreatDoorInd16
namespace Go.Proofs.YtfcnoebnnglfkaaGreatDoor
open Go.ChangeShapes Go.WideShapes Go.ChangeAt Go.RowKit
set_option maxRecDepth 100000

abbrev zNode : Value := .agg #[.int .i64 0, .int .i64 0, .int .i64 0, .int .i64 0, .slice none 0 0]
theorem inodeNil_contract (H : Type) (enc : TypeId × Value → H) (W : World) (base : Nat) (args : Array Value) (ds gs : List (DataW H)) (before : List MemPlace)
    (hval : ∀ (j : Nat) t v, Tryz.f4.params[j]? = some t → args[j]? = some v → Value.okWide Tryz.prog W .any base t v)
    (hW : DataW.Whole enc Tryz.prog Tryz.f4.params.toList Rows.inodeNilSpec.vars false W args.toList ds gs before) (hL : laidMetH Tryz.prog Rows.inodeNilRow.laid W) :
    Calls Tryz.prog 4 args W fun e W' => ∃ v, e = .returned v ∧ Rows.inodeNilSpec.post enc Tryz.prog Tryz.f4 false true false false W args v W' := by
  have hW' := hW
  obtain ⟨p, q, hA0, hV, rfl, hfz, hnd⟩ := hW
  have hA : DataW.TrodAll enc Tryz.prog W 0 (fun _ => true) true Tryz.f4.params.toList args.toList ds p := hA0
  rw [Tryz.params4] at hA hval
  obtain ⟨rfl, rfl⟩ := trodVars_none hV
  have hAk := hA
  obtain ⟨v0, vs0, d0, ds0, p0, q0, hargs, rfl, rfl, h0, r0⟩ := trodAll_cons hA
  obtain ⟨v1, vs1, d1, ds1, p1, q1, hargs1, rfl, rfl, h1, r1⟩ := trodAll_cons r0
  obtain ⟨rfl, rfl, rfl⟩ := trodAll_nil r1
  subst hargs1
  obtain rfl : args = #[v0, v1] := by cases args; simp_all
  obtain ⟨n, rfl, rfl, rfl, hn⟩ := open_int Tryz.underlying3 (hval 0 3 v0 rfl rfl) h0
  obtain ⟨cs, rfl, _⟩ := okWide_struct Tryz.underlying53 (hval 1 53 v1 rfl rfl)
  obtain ⟨fuel, hf⟩ := h1
  obtain ⟨x, a, c, e, hq, hb⟩ := Cr.open_node hf
  have e : cs.toList = Cr.ndV x a c := e
  obtain rfl : cs = (Cr.ndV x a c).toArray := by rw [← e]
  clear hA0
  simp only [List.append_nil] at hW' hAk
  refine (Cr.inodeNil_ n x a c _ _ W (Cr.gl_of_laid hL) hb.ro hq).mono fun e W' ⟨v, he, hv, hS⟩ => ?_
  subst he hv
  have hb := hS.toBelow
  exact ⟨_, rfl, post_of_law (pa := [] ++ p1) (pv := []) hW' (fun _ _ _ => trodAll_cons_mk (shut_bool Tryz.underlying4 _) trodAll_mk0)
    (fun sp hsp => trodAll_stays lawLaid hb (fun t ht => by
      have ht : t ∈ [3, 53] := ht
      simp only [List.mem_cons, List.not_mem_nil, or_false] at ht
      rcases ht with rfl | rfl <;> exact ⟨by kernel_rfl, of_decide_eq_true (by kernel_rfl)⟩) hAk hW'.lt hsp) (fun _ _ => rfl) (by simp)
    (hb.frame _) (fun _ h => hb.frozen h) (ok_one (by kernel_rfl) rfl (okWide_bool_mk Tryz.underlying4 _))⟩
theorem inodeNil_laid (os : Os) : laidMet Tryz.prog Rows.inodeNilRow.laid ((lawWorld os).forCall (fun _ _ => 0) ⟨#[], #[.int .i64 0, zNode], []⟩).memory :=
  laidMet_of_run' 8 (by kernel_rfl) (by kernel_rfl)
theorem inodeNil_reads (os : Os) {H : Type} (enc : TypeId × Value → H) : ∃ places, DataW.whole enc Tryz.prog ((lawWorld os).forCall (fun _ _ => 0) ⟨#[], #[.int .i64 0, zNode], []⟩).memory Tryz.f4.params.toList Rows.inodeNilSpec.vars false #[.int .i64 0, zNode].toList 8 = some ([.lit (.int .i64 0), .agg [.agg [.lit (.int .i64 0), .lit (.int .i64 0), .lit (.int .i64 0), .lit (.int .i64 0)], .nil]], [], places) :=
  ⟨[], by kernel_rfl⟩
theorem inodeNil_lifted (os : Os) (started : os.Started) (H : Type) (enc : TypeId × Value → H) (F : Stop.Interp) :
    ReturnsInHanded {} Tryz.checked os 4 .any ((OpenSpec.ofChange Rows.inodeNilSpec).preRow enc Tryz.prog Tryz.f4 Rows.inodeNilRow.domain false Rows.inodeNilRow.laid) (((OpenSpec.ofChange Rows.inodeNilSpec).at F).post enc Tryz.prog Tryz.f4 false true false false) := by
  obtain ⟨places, hx⟩ := inodeNil_reads os enc
  refine returnsInHanded_of_row (C := Tryz.checked) (s := OpenSpec.ofChange Rows.inodeNilSpec) lawOwn started (by kernel_rfl) Tryz.func4
    (witness_row_at (enc := enc) (C := Tryz.checked) false (lawWorld os) #[.int .i64 0, zNode] rfl (by kernel_rfl) (by kernel_rfl) (by kernel_rfl)
      (OpenSpec.preRow_of_cond 8 hx (by kernel_rfl) (fun k hk => by cases hk) (by kernel_rfl) (inodeNil_laid os))) ?_
  intro W base args ds gs before hval hW _ _ _ hL _ _
  exact inodeNil_contract H enc W base args ds gs before hval hW hL
theorem inodeNil_said : Rows.InodeNilSaid :=
  OpenClaim.holds_of_cond 4 Tryz.f4 rfl rfl rfl rfl rfl rfl rfl ⟨rfl, rfl, rfl, rfl, rfl⟩ rfl rfl rfl rfl rfl (by kernel_rfl) Tryz.func4 inodeNil_facts
    inodeNil_inst inodeNil_wrap
    (fun os started H enc _ F => by rw [OpenClaim.pre_eq_preRow]; exact inodeNil_lifted os started H enc F)
theorem inodeNil_plain (f : FuncId) (fn : Func) (hf : Tryz.pinned.checked.prog.funcNamed Rows.inodeNilRow.func = some f) (hfn : Tryz.pinned.checked.prog.funcs[f]? = some fn) :
    true = Tryz.pinned.checked.prog.looks [] ∧ ∀ (j : Nat) t, fn.params[j]? = some t → Tryz.pinned.checked.prog.wantsStandIn t = false := by
  obtain rfl : f = 4 := Option.some.inj ((show Tryz.prog.funcNamed Rows.inodeNilRow.func = some 4 by kernel_rfl).symm.trans hf) |>.symm
  obtain rfl : fn = Tryz.f4 := (Option.some.inj (Tryz.func4.symm.trans hfn)).symm
  refine ⟨by kernel_rfl, fun j t ht => ?_⟩
  rw [Tryz.params4] at ht
  have ht : t = 3 ∨ t = 53 := by simpa using Array.mem_of_getElem? ht
  rcases ht with rfl | rfl
  · exact (show Tryz.prog.wantsStandIn 3 = false by kernel_rfl)
  · exact (show Tryz.prog.wantsStandIn 53 = false by kernel_rfl)
theorem inodeNil_card : Rows.InodeNilCardSaid :=
  Claim7.holds_tied_plain_at .later [] _ _ _ _ inodeNil_said (fun _ h => by cases h) (by kernel_rfl) (fun _ h => by cases h) inodeNil_row_tie rfl ⟨rfl, rfl⟩ (by kernel_rfl) rfl inodeNil_plain (by kernel_rfl)
end Go.Proofs.YtfcnoebnnglfkaaGreatDoor
