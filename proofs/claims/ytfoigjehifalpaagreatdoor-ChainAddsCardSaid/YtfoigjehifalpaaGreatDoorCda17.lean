/-
  The law ChainAdds holds: for every two lists of records it returns true,and what is handed reads as it did; the package-level tables are as the program's text lays them.
-/
import Derived.Test.YtfoigjehifalpaaGreatDoorCda4
import Derived.Test.YtfoigjehifalpaaGreatDoorCda15
import Derived.Test.YtfoigjehifalpaaGreatDoorCda16
import Derived.Stop.LaidErr
namespace Go.Proofs.YtfoigjehifalpaaGreatDoor
open Go.ChangeShapes Go.WideShapes Go.ChangeAt Go.RowKit
set_option maxRecDepth 100000

theorem Zo7 {W : World} (h : laidMetH Tryz.prog Rows.chainAddsRow.laid W) : Cr.Gl W Cr.noF Cr.roundL Cr.firstL :=
 Zqz (Lib.tabIs_of_head (g := 2) (t := 366) (e := 164) (n := 64) (by kernel_rfl) (by kernel_rfl) Tryz.underlying366 Tryz.underlying164 (by kernel_rfl) (by kernel_rfl) h)
  (Lib.tabIs_of_head (g := 0) (t := 233) (e := 164) (n := 8) (by kernel_rfl) (by kernel_rfl) Tryz.underlying233 Tryz.underlying164 (by kernel_rfl) (by kernel_rfl) (laidMet.tail h))
theorem Zow {W : World} (h0 : laidMetH Tryz.prog Rows.chainAddsRow.laid W) : Cr.Lg W Cr.noF := by
 have h2 := laidMet.tail (laidMet.tail (laidMet.tail (laidMet.tail h0)))
 have h1 : Lib.TabIs Tryz.prog W "internal/strconv.uint64pow10" .u64 Lib.pow10Tab := Lib.tabIs_of_head (g := 3) (t := 371) (e := 45) (n := 20) (rest := [_, _]) (by kernel_rfl) (by kernel_rfl) Tryz.underlying371 Tryz.underlying45 (by kernel_rfl) (by kernel_rfl) h2
 obtain ⟨a0,s0,hv,_,_,_⟩ := laid_sentinel (g := 7) (laidMet.tail h2) (by kernel_rfl) (show (Tryz.prog.globals[7]?).map (·.type) = some 246 by kernel_rfl) Tryz.underlying246 Z3v Tryz.underlying417 Tryz.underlying419 rfl rfl Tryz.underlying9 (by kernel_rfl) (by kernel_rfl)
 refine ⟨?_,417,.pointer (some a0),?_⟩
 ·have := Cr.glob_of_var (P := Tryz.prog) (n := "internal/strconv.uint64pow10") (g := 3) (by kernel_rfl) h1
  simpa using this.ro
 ·have := Cr.glob_of_var (P := Tryz.prog) (n := "strconv.ErrRange") (g := 7) (by kernel_rfl) hv
  simpa using this.ro
theorem Zhy (H : Type) (enc : TypeId × Value → H) (W : World) (base : Nat) (args : Array Value) (ds gs : List (DataW H)) (before : List MemPlace)
  (hval : ∀ (j : Nat) t v,Tryz.f5.params[j]? = some t → args[j]? = some v → Value.okWide Tryz.prog W .any base t v)
  (hW : DataW.Whole enc Tryz.prog Tryz.f5.params.toList Rows.chainAddsSpec.vars false W args.toList ds gs before) (hL : laidMetH Tryz.prog Rows.chainAddsRow.laid W) :
  Calls Tryz.prog 5 args W fun e W' => ∃ v,e = .returned v ∧ Rows.chainAddsSpec.post enc Tryz.prog Tryz.f5 false true false false W args v W' := by
 have hW' := hW
 obtain ⟨p,q,hA0,hV,rfl,hfz,hnd⟩ := hW
 have hA : DataW.TrodAll enc Tryz.prog W 0 (fun _ => true) true Tryz.f5.params.toList args.toList ds p := hA0
 rw [Tryz.params5] at hA hval
 obtain ⟨rfl,rfl⟩ := trodVars_none hV
 have hAk := hA
 obtain ⟨v0,vs0,d0,ds0,p0,q0,hargs,rfl,rfl,h0,r0⟩ := trodAll_cons hA
 obtain ⟨v1,vs1,d1,ds1,p1,q1,hargs1,rfl,rfl,h1,r1⟩ := trodAll_cons r0
 obtain ⟨rfl,rfl,rfl⟩ := trodAll_nil r1
 subst hargs1
 obtain rfl : args = #[v0,v1] := by cases args; simp_all
 obtain ⟨a,l,ca,rfl,hl,hkl⟩ := Cr.arg_bss (hval 0 55 v0 rfl rfl) h0
 obtain ⟨b,m,cb,rfl,hm,hkm⟩ := Cr.arg_bss (hval 1 55 v1 rfl rfl) h1
 clear hA0
 simp only [List.append_nil] at hW' hAk
 refine (Cr.chainAdds_ a ca l b cb m _ _ W (Zo7 hL) (Zow hL) hl hkl hm hkm).mono fun e W' ⟨v,he,hv,hS⟩ => ?_
 subst he hv
 have hb := hS.toBelow
 exact ⟨_,rfl,Zqn (pa := p0 ++ p1) (pv := []) hW' (fun _ _ _ => trodAll_cons_mk (shut_bool Tryz.underlying4 _) trodAll_mk0)
  (fun sp hsp => Zhc Z1j hb (fun t ht => by
   obtain rfl : t = 55 := by simpa using (show t ∈ [55,55] from ht)
   exact ⟨by kernel_rfl,of_decide_eq_true (by kernel_rfl)⟩) hAk hW'.lt hsp) (fun _ _ => rfl) (by simp)
  (hb.frame _) (fun _ h => hb.frozen h) (ok_one (by kernel_rfl) rfl (okWide_bool_mk Tryz.underlying4 _))⟩
theorem Zk6 (os : Os) : laidMet Tryz.prog Rows.chainAddsRow.laid ((Zj9 os).forCall (fun _ _ => 0) ⟨#[],#[.slice none 0 0,.slice none 0 0],[]⟩).memory :=
 laidMet_of_run' 8 (by kernel_rfl) (by kernel_rfl)
theorem Zkm (os : Os) {H : Type} (enc : TypeId × Value → H) : ∃ Zhh,DataW.whole enc Tryz.prog ((Zj9 os).forCall (fun _ _ => 0) ⟨#[],#[.slice none 0 0,.slice none 0 0],[]⟩).memory Tryz.f5.params.toList Rows.chainAddsSpec.vars false #[Value.slice none 0 0,.slice none 0 0].toList 8 = some ([.nil,.nil],[],Zhh) :=
 ⟨[],by kernel_rfl⟩
theorem Zja (os : Os) (started : os.Started) (H : Type) (enc : TypeId × Value → H) (F : Stop.Interp) :
  ReturnsInHanded {} Tryz.checked os 5 .any ((OpenSpec.ofChange Rows.chainAddsSpec).preRow enc Tryz.prog Tryz.f5 Rows.chainAddsRow.domain false Rows.chainAddsRow.laid) (((OpenSpec.ofChange Rows.chainAddsSpec).at F).post enc Tryz.prog Tryz.f5 false true false false) := by
 obtain ⟨Zhh,hx⟩ := Zkm os enc
 refine returnsInHanded_of_row (C := Tryz.checked) (s := OpenSpec.ofChange Rows.chainAddsSpec) Z3g started (by kernel_rfl) Tryz.func5
  (witness_row_atRef (enc := enc) (C := Tryz.checked) false (Zj9 os) #[.slice none 0 0,.slice none 0 0] rfl (by kernel_rfl) (by kernel_rfl) (by kernel_rfl)
   (OpenSpec.preRow_of_cond 8 hx (by kernel_rfl) (fun k hk => by cases hk) (by kernel_rfl) (Zk6 os))) ?_
 intro W base args ds gs before hval hW _ _ _ hL _ _
 exact Zhy H enc W base args ds gs before hval hW hL
theorem Zk5 : Rows.ChainAddsSaid :=
 OpenClaim.holds_of_cond 5 Tryz.f5 rfl rfl rfl rfl rfl rfl rfl ⟨rfl,rfl,rfl,rfl,rfl⟩ rfl rfl rfl rfl rfl (by kernel_rfl) Tryz.func5 Zko
  Zk7 Zk4
  (fun os started H enc _ F => by rw [OpenClaim.pre_eq_preRow]; exact Zja os started H enc F)
theorem Zkn (f : FuncId) (fn : Func) (hf : Tryz.pinned.checked.prog.funcNamed Rows.chainAddsRow.func = some f) (hfn : Tryz.pinned.checked.prog.funcs[f]? = some fn) :
  true = Tryz.pinned.checked.prog.looks [] ∧ ∀ (j : Nat) t,fn.params[j]? = some t → Tryz.pinned.checked.prog.wantsStandIn t = false := by
 obtain rfl : f = 5 := Option.some.inj ((show Tryz.prog.funcNamed Rows.chainAddsRow.func = some 5 by kernel_rfl).symm.trans hf) |>.symm
 obtain rfl : fn = Tryz.f5 := (Option.some.inj (Tryz.func5.symm.trans hfn)).symm
 refine ⟨by kernel_rfl,fun j t ht => ?_⟩
 rw [Tryz.params5] at ht
 obtain rfl : t = 55 := by simpa using Array.mem_of_getElem? ht
 exact (show Tryz.prog.wantsStandIn 55 = false by kernel_rfl)
theorem chainAdds_card : Rows.ChainAddsCardSaid :=
 Claim7.holds_tied_plain_at .later [] _ _ _ _ Zk5 (fun _ h => by cases h) (by kernel_rfl) (fun _ h => by cases h) chainAdds_row_tie rfl ⟨rfl,rfl⟩ (by kernel_rfl) rfl Zkn (by kernel_rfl)
end Go.Proofs.YtfoigjehifalpaaGreatDoor
