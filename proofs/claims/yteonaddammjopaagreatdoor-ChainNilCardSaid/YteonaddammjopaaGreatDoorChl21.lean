/-
  The law ChainNil holds: for every bytes it returns true,and what is handed reads as it did; the package-level tables are as the program's text lays them.
-/
import Derived.Test.YteonaddammjopaaGreatDoorChl4
import Derived.Test.YteonaddammjopaaGreatDoorChl19
import Derived.Test.YteonaddammjopaaGreatDoorChl20
namespace Go.Proofs.YteonaddammjopaaGreatDoor
open Go.ChangeShapes Go.WideShapes Go.ChangeAt Go.RowKit
set_option maxRecDepth 100000

theorem gl_of_laidCn {W : World} (h : laidMetH Tryz.prog Rows.chainNilRow.laid W) : Cr.Gl W Cr.noF Cr.roundL Cr.firstL :=
 gl_of_laidT (Lib.tabIs_of_head (g := 1) (t := 278) (e := 90) (n := 64) (by kernel_rfl) (by kernel_rfl) Tryz.underlying278 Tryz.underlying90 (by kernel_rfl) (by kernel_rfl) h)
  (Lib.tabIs_of_head (g := 0) (t := 92) (e := 90) (n := 8) (by kernel_rfl) (by kernel_rfl) Tryz.underlying92 Tryz.underlying90 (by kernel_rfl) (by kernel_rfl) (laidMet.tail h))
theorem chainNil_contract (H : Type) (enc : TypeId × Value → H) (W : World) (base : Nat) (args : Array Value) (ds gs : List (DataW H)) (before : List MemPlace)
  (hval : ∀ (j : Nat) t v,Tryz.f6.params[j]? = some t → args[j]? = some v → Value.okWide Tryz.prog W .any base t v)
  (hW : DataW.Whole enc Tryz.prog Tryz.f6.params.toList Rows.chainNilSpec.vars false W args.toList ds gs before) (hL : laidMetH Tryz.prog Rows.chainNilRow.laid W) :
  Calls Tryz.prog 6 args W fun e W' => ∃ v,e = .returned v ∧ Rows.chainNilSpec.post enc Tryz.prog Tryz.f6 false true false false W args v W' := by
 have hW' := hW
 obtain ⟨p,q,hA0,hV,rfl,hfz,hnd⟩ := hW
 have hA : DataW.TrodAll enc Tryz.prog W 0 (fun _ => true) true Tryz.f6.params.toList args.toList ds p := hA0
 rw [Tryz.params6] at hA hval
 obtain ⟨rfl,rfl⟩ := trodVars_none hV
 have hAk := hA
 obtain ⟨v0,vs0,d0,ds0,p0,q0,hargs,rfl,rfl,h0,r0⟩ := trodAll_cons hA
 obtain ⟨rfl,rfl,rfl⟩ := trodAll_nil r0
 obtain rfl : args = #[v0] := by cases args; simp_all
 obtain ⟨a0,n0,c0,rfl⟩ := okWide_slice Tryz.underlying36 (hval 0 36 v0 rfl rfl)
 clear hA0
 simp only [List.append_nil] at hW' hAk
 refine (Cr.chainNil_ _ _ _ W (gl_of_laidCn hL)).mono fun e W' ⟨v,he,hv,hS⟩ => ?_
 subst he hv
 have hb := hS.toBelow
 exact ⟨_,rfl,post_of_law (pa := p0) (pv := []) hW' (fun _ _ _ => trodAll_cons_mk (shut_bool Tryz.underlying4 _) trodAll_mk0)
  (fun sp hsp => trodAll_stays lawLaid hb (fun t ht => by
   have ht : t ∈ [36] := ht
   simp only [List.mem_cons,List.not_mem_nil,or_false] at ht
   rcases ht with rfl
   exact ⟨by kernel_rfl,of_decide_eq_true (by kernel_rfl)⟩) hAk hW'.lt hsp) (fun _ _ => rfl) (by simp)
  (hb.frame _) (fun _ h => hb.frozen h) (ok_one (by kernel_rfl) rfl (okWide_bool_mk Tryz.underlying4 _))⟩
theorem chainNil_laid (os : Os) : laidMet Tryz.prog Rows.chainNilRow.laid ((lawWorldT os).forCall (fun _ _ => 0) ⟨#[],#[.slice none 0 0],[]⟩).memory :=
 laidMet_of_run' 8 (by kernel_rfl) (by kernel_rfl)
theorem chainNil_reads (os : Os) {H : Type} (enc : TypeId × Value → H) : ∃ places,DataW.whole enc Tryz.prog ((lawWorldT os).forCall (fun _ _ => 0) ⟨#[],#[.slice none 0 0],[]⟩).memory Tryz.f6.params.toList Rows.chainNilSpec.vars false #[.slice none 0 0].toList 8 = some ([.nil],[],places) :=
 ⟨[],by kernel_rfl⟩
theorem chainNil_lifted (os : Os) (started : os.Started) (H : Type) (enc : TypeId × Value → H) (F : Stop.Interp) :
  ReturnsInHanded {} Tryz.checked os 6 .any ((OpenSpec.ofChange Rows.chainNilSpec).preRow enc Tryz.prog Tryz.f6 Rows.chainNilRow.domain false Rows.chainNilRow.laid) (((OpenSpec.ofChange Rows.chainNilSpec).at F).post enc Tryz.prog Tryz.f6 false true false false) := by
 obtain ⟨places,hx⟩ := chainNil_reads os enc
 refine returnsInHanded_of_row (C := Tryz.checked) (s := OpenSpec.ofChange Rows.chainNilSpec) lawOwn started (by kernel_rfl) Tryz.func6
  (witness_row_atRef (enc := enc) (C := Tryz.checked) false (lawWorldT os) #[.slice none 0 0] rfl (by kernel_rfl) (by kernel_rfl) (by kernel_rfl)
   (OpenSpec.preRow_of_cond 8 hx (by kernel_rfl) (fun k hk => by cases hk) (by kernel_rfl) (chainNil_laid os))) ?_
 intro W base args ds gs before hval hW _ _ _ hL _ _
 exact chainNil_contract H enc W base args ds gs before hval hW hL
theorem chainNil_said : Rows.ChainNilSaid :=
 OpenClaim.holds_of_cond 6 Tryz.f6 rfl rfl rfl rfl rfl rfl rfl ⟨rfl,rfl,rfl,rfl,rfl⟩ rfl rfl rfl rfl rfl (by kernel_rfl) Tryz.func6 chainNil_facts
  chainNil_inst chainNil_wrap
  (fun os started H enc _ F => by rw [OpenClaim.pre_eq_preRow]; exact chainNil_lifted os started H enc F)
theorem chainNil_plain (f : FuncId) (fn : Func) (hf : Tryz.pinned.checked.prog.funcNamed Rows.chainNilRow.func = some f) (hfn : Tryz.pinned.checked.prog.funcs[f]? = some fn) :
  true = Tryz.pinned.checked.prog.looks [] ∧ ∀ (j : Nat) t,fn.params[j]? = some t → Tryz.pinned.checked.prog.wantsStandIn t = false := by
 obtain rfl : f = 6 := Option.some.inj ((show Tryz.prog.funcNamed Rows.chainNilRow.func = some 6 by kernel_rfl).symm.trans hf) |>.symm
 obtain rfl : fn = Tryz.f6 := (Option.some.inj (Tryz.func6.symm.trans hfn)).symm
 refine ⟨by kernel_rfl,fun j t ht => ?_⟩
 rw [Tryz.params6] at ht
 have ht : t = 36 := by simpa using Array.mem_of_getElem? ht
 rcases ht with rfl
 exact (show Tryz.prog.wantsStandIn 36 = false by kernel_rfl)
theorem chainNil_card : Rows.ChainNilCardSaid :=
 Claim7.holds_tied_plain_at .later [] _ _ _ _ chainNil_said (fun _ h => by cases h) (by kernel_rfl) (fun _ h => by cases h) chainNil_row_tie rfl ⟨rfl,rfl⟩ (by kernel_rfl) rfl chainNil_plain (by kernel_rfl)
end Go.Proofs.YteonaddammjopaaGreatDoor
