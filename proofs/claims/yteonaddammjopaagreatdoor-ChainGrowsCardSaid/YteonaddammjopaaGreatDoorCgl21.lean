/-
  The law ChainGrows holds: for every two lists of records it returns true,and what is handed reads as it did; the package-level tables are as the program's text lays them.
-/
import Derived.Test.YteonaddammjopaaGreatDoorCgl3
import Derived.Test.YteonaddammjopaaGreatDoorCgl4
import Derived.Test.YteonaddammjopaaGreatDoorCgl19
import Derived.Test.YteonaddammjopaaGreatDoorCgl20
namespace Go.Proofs.YteonaddammjopaaGreatDoor
open Go.ChangeShapes Go.WideShapes Go.ChangeAt Go.RowKit
set_option maxRecDepth 100000

theorem Zpt {W : World} (h : laidMetH Tryz.prog Rows.chainGrowsRow.laid W) : Cr.Gl W Cr.noF Cr.roundL Cr.firstL :=
 Zre (Lib.tabIs_of_head (g := 1) (t := 278) (e := 90) (n := 64) (by kernel_rfl) (by kernel_rfl) Tryz.underlying278 Tryz.underlying90 (by kernel_rfl) (by kernel_rfl) h)
  (Lib.tabIs_of_head (g := 0) (t := 92) (e := 90) (n := 8) (by kernel_rfl) (by kernel_rfl) Tryz.underlying92 Tryz.underlying90 (by kernel_rfl) (by kernel_rfl) (laidMet.tail h))
theorem Zh9 (H : Type) (enc : TypeId × Value → H) (W : World) (base : Nat) (args : Array Value) (ds gs : List (DataW H)) (before : List MemPlace)
  (hval : ∀ (j : Nat) t v,Tryz.f5.params[j]? = some t → args[j]? = some v → Value.okWide Tryz.prog W .any base t v)
  (hW : DataW.Whole enc Tryz.prog Tryz.f5.params.toList Rows.chainGrowsSpec.vars false W args.toList ds gs before) (hL : laidMetH Tryz.prog Rows.chainGrowsRow.laid W) :
  Calls Tryz.prog 5 args W fun e W' => ∃ v,e = .returned v ∧ Rows.chainGrowsSpec.post enc Tryz.prog Tryz.f5 false true false false W args v W' := by
 have hW' := hW
 obtain ⟨p,q,hA0,hV,rfl,hfz,hnd⟩ := hW
 have hA : DataW.TrodAll enc Tryz.prog W 0 (fun _ => true) true Tryz.f5.params.toList args.toList ds p := hA0
 rw [Tryz.params5] at hA hval
 obtain ⟨rfl,rfl⟩ := trodVars_none hV
 have hAk := hA
 obtain ⟨v0,vs0,d0,ds0,p0,q0,hargs,rfl,rfl,h0,r0⟩ := trodAll_cons hA
 obtain ⟨v1,vs1,d1,ds1,p1,q1,hargs1,rfl,rfl,h1,r1⟩ := trodAll_cons r0
 obtain ⟨rfl,rfl,rfl⟩ := trodAll_nil r1
 subst hargs1
 obtain rfl : args = #[v0,v1] := by cases args; simp_all
 obtain ⟨a,l,ca,rfl,hl,hkl⟩ := Cr.arg_bss (hval 0 22 v0 rfl rfl) h0
 obtain ⟨b,m,cb,rfl,hm,hkm⟩ := Cr.arg_bss (hval 1 22 v1 rfl rfl) h1
 clear hA0
 simp only [List.append_nil] at hW' hAk
 refine (Cr.chainGrows_ a ca l b cb m W (Zpt hL) hl hkl hm hkm).mono fun e W' ⟨v,he,hv,hS⟩ => ?_
 subst he hv
 have hb := hS.toBelow
 exact ⟨_,rfl,Zq2 (pa := p0 ++ p1) (pv := []) hW' (fun _ _ _ => trodAll_cons_mk (shut_bool Tryz.underlying4 _) trodAll_mk0)
  (fun sp hsp => Zie lawLaid hb (fun t ht => by
   obtain rfl : t = 22 := by simpa using (show t ∈ [22,22] from ht)
   exact ⟨by kernel_rfl,of_decide_eq_true (by kernel_rfl)⟩) hAk hW'.lt hsp) (fun _ _ => rfl) (by simp)
  (hb.frame _) (fun _ h => hb.frozen h) (ok_one (by kernel_rfl) rfl (okWide_bool_mk Tryz.underlying4 _))⟩
theorem Zl5 (os : Os) : laidMet Tryz.prog Rows.chainGrowsRow.laid ((Zlo os).forCall (fun _ _ => 0) ⟨#[],#[.slice none 0 0,.slice none 0 0],[]⟩).memory :=
 laidMet_of_run' 8 (by kernel_rfl) (by kernel_rfl)
theorem Zkj (os : Os) {H : Type} (enc : TypeId × Value → H) : ∃ Zih,DataW.whole enc Tryz.prog ((Zlo os).forCall (fun _ _ => 0) ⟨#[],#[.slice none 0 0,.slice none 0 0],[]⟩).memory Tryz.f5.params.toList Rows.chainGrowsSpec.vars false #[Value.slice none 0 0,.slice none 0 0].toList 8 = some ([.nil,.nil],[],Zih) :=
 ⟨[],by kernel_rfl⟩
theorem Zjf (os : Os) (started : os.Started) (H : Type) (enc : TypeId × Value → H) (F : Stop.Interp) :
  ReturnsInHanded {} Tryz.checked os 5 .any ((OpenSpec.ofChange Rows.chainGrowsSpec).preRow enc Tryz.prog Tryz.f5 Rows.chainGrowsRow.domain false Rows.chainGrowsRow.laid) (((OpenSpec.ofChange Rows.chainGrowsSpec).at F).post enc Tryz.prog Tryz.f5 false true false false) := by
 obtain ⟨Zih,hx⟩ := Zkj os enc
 refine returnsInHanded_of_row (C := Tryz.checked) (s := OpenSpec.ofChange Rows.chainGrowsSpec) lawOwn started (by kernel_rfl) Tryz.func5
  (witness_row_atRef (enc := enc) (C := Tryz.checked) false (Zlo os) #[.slice none 0 0,.slice none 0 0] rfl (by kernel_rfl) (by kernel_rfl) (by kernel_rfl)
   (OpenSpec.preRow_of_cond 8 hx (by kernel_rfl) (fun k hk => by cases hk) (by kernel_rfl) (Zl5 os))) ?_
 intro W base args ds gs before hval hW _ _ _ hL _ _
 exact Zh9 H enc W base args ds gs before hval hW hL
theorem Zl4 : Rows.ChainGrowsSaid :=
 OpenClaim.holds_of_cond 5 Tryz.f5 rfl rfl rfl rfl rfl rfl rfl ⟨rfl,rfl,rfl,rfl,rfl⟩ rfl rfl rfl rfl rfl (by kernel_rfl) Tryz.func5 Zkl
  Zl6 Zl3
  (fun os started H enc _ F => by rw [OpenClaim.pre_eq_preRow]; exact Zjf os started H enc F)
theorem Zkk (f : FuncId) (fn : Func) (hf : Tryz.pinned.checked.prog.funcNamed Rows.chainGrowsRow.func = some f) (hfn : Tryz.pinned.checked.prog.funcs[f]? = some fn) :
  true = Tryz.pinned.checked.prog.looks [] ∧ ∀ (j : Nat) t,fn.params[j]? = some t → Tryz.pinned.checked.prog.wantsStandIn t = false := by
 obtain rfl : f = 5 := Option.some.inj ((show Tryz.prog.funcNamed Rows.chainGrowsRow.func = some 5 by kernel_rfl).symm.trans hf) |>.symm
 obtain rfl : fn = Tryz.f5 := (Option.some.inj (Tryz.func5.symm.trans hfn)).symm
 refine ⟨by kernel_rfl,fun j t ht => ?_⟩
 rw [Tryz.params5] at ht
 obtain rfl : t = 22 := by simpa using Array.mem_of_getElem? ht
 exact (show Tryz.prog.wantsStandIn 22 = false by kernel_rfl)
theorem chainGrows_card : Rows.ChainGrowsCardSaid :=
 Claim7.holds_tied_plain_at .later [] _ _ _ _ Zl4 (fun _ h => by cases h) (by kernel_rfl) (fun _ h => by cases h) chainGrows_row_tie rfl ⟨rfl,rfl⟩ (by kernel_rfl) rfl Zkk (by kernel_rfl)
end Go.Proofs.YteonaddammjopaaGreatDoor
