/-
  The law ChainMarks holds: for all records,each mark and each number it returns true,and what is handed reads as it did; the package-level tables are as the program's text lays them.
-/
import Derived.Test.YtfoigjehifalpaaGreatDoorCqa4
import Derived.Test.YtfoigjehifalpaaGreatDoorCqa16
import Derived.Test.YtfoigjehifalpaaGreatDoorCqa17
import Derived.Stop.LaidErr
namespace Go.Proofs.YtfoigjehifalpaaGreatDoor
open Go.ChangeShapes Go.WideShapes Go.ChangeAt Go.RowKit
set_option maxRecDepth 100000

theorem Zqh {W : World} (h : laidMetH Tryz.prog Rows.chainMarksRow.laid W) : Cr.Gl W Cr.noF Cr.roundL Cr.firstL :=
 Zsb (Lib.tabIs_of_head (g := 2) (t := 366) (e := 164) (n := 64) (by kernel_rfl) (by kernel_rfl) Tryz.underlying366 Tryz.underlying164 (by kernel_rfl) (by kernel_rfl) h)
  (Lib.tabIs_of_head (g := 0) (t := 233) (e := 164) (n := 8) (by kernel_rfl) (by kernel_rfl) Tryz.underlying233 Tryz.underlying164 (by kernel_rfl) (by kernel_rfl) (laidMet.tail h))
theorem Zp6 {W : World} (h0 : laidMetH Tryz.prog Rows.chainMarksRow.laid W) : Cr.Lg W Cr.noF := by
 have h2 := laidMet.tail (laidMet.tail (laidMet.tail (laidMet.tail h0)))
 have h1 : Lib.TabIs Tryz.prog W "internal/strconv.uint64pow10" .u64 Lib.pow10Tab := Lib.tabIs_of_head (g := 3) (t := 371) (e := 45) (n := 20) (rest := [_, _]) (by kernel_rfl) (by kernel_rfl) Tryz.underlying371 Tryz.underlying45 (by kernel_rfl) (by kernel_rfl) h2
 obtain ⟨a0,s0,hv,_,_,_⟩ := laid_sentinel (g := 7) (laidMet.tail h2) (by kernel_rfl) (show (Tryz.prog.globals[7]?).map (·.type) = some 246 by kernel_rfl) Tryz.underlying246 Z8w Tryz.underlying417 Tryz.underlying419 rfl rfl Tryz.underlying9 (by kernel_rfl) (by kernel_rfl)
 refine ⟨?_,417,.pointer (some a0),?_⟩
 ·have := Cr.glob_of_var (P := Tryz.prog) (n := "internal/strconv.uint64pow10") (g := 3) (by kernel_rfl) h1
  simpa using this.ro
 ·have := Cr.glob_of_var (P := Tryz.prog) (n := "strconv.ErrRange") (g := 7) (by kernel_rfl) hv
  simpa using this.ro
theorem Zho (H : Type) (enc : TypeId × Value → H) (W : World) (base : Nat) (args : Array Value) (ds gs : List (DataW H)) (before : List MemPlace)
  (hval : ∀ (j : Nat) t v,Tryz.f4.params[j]? = some t → args[j]? = some v → Value.okWide Tryz.prog W .any base t v)
  (hW : DataW.Whole enc Tryz.prog Tryz.f4.params.toList Rows.chainMarksSpec.vars false W args.toList ds gs before) (hL : laidMetH Tryz.prog Rows.chainMarksRow.laid W) :
  Calls Tryz.prog 4 args W fun e W' => ∃ v,e = .returned v ∧ Rows.chainMarksSpec.post enc Tryz.prog Tryz.f4 false true false false W args v W' := by
 have hW' := hW
 obtain ⟨p,q,hA0,hV,rfl,hfz,hnd⟩ := hW
 have hA : DataW.TrodAll enc Tryz.prog W 0 (fun _ => true) true Tryz.f4.params.toList args.toList ds p := hA0
 rw [Tryz.params4] at hA hval
 obtain ⟨rfl,rfl⟩ := trodVars_none hV
 have hAk := hA
 obtain ⟨v0,vs0,d0,ds0,p0,q0,hargs,rfl,rfl,h0,r0⟩ := trodAll_cons hA
 obtain ⟨v1,vs1,d1,ds1,p1,q1,hargs1,rfl,rfl,h1,r1⟩ := trodAll_cons r0
 obtain ⟨v2,vs2,d2,ds2,p2,q2,hargs2,rfl,rfl,h2,r2⟩ := trodAll_cons r1
 obtain ⟨rfl,rfl,rfl⟩ := trodAll_nil r2
 subst hargs2
 subst hargs1
 obtain rfl : args = #[v0,v1,v2] := by cases args; simp_all
 obtain ⟨a,l,ca,rfl,hl,hkl⟩ := Cr.arg_bss (hval 0 55 v0 rfl rfl) h0
 obtain ⟨s,rfl,hs⟩ := Cr.arg_mark (hval 1 56 v1 rfl rfl) h1
 obtain ⟨no,rfl⟩ := okWide_int Tryz.underlying3 (hval 2 3 v2 rfl rfl)
 clear hA0
 simp only [List.append_nil] at hW' hAk
 refine (Cr.chainMarks_ a ca l s hs no W (Zqh hL) (Zp6 hL) hl hkl).mono fun e W' ⟨v,he,hv,hS⟩ => ?_
 subst he hv
 have hb := hS.toBelow
 exact ⟨_,rfl,Zr1 (pa := p0 ++ (p1 ++ p2)) (pv := []) hW' (fun _ _ _ => trodAll_cons_mk (shut_bool Tryz.underlying4 _) trodAll_mk0)
  (fun sp hsp => Zhz Z4s hb (fun t ht => by
   have ht : t ∈ [55,56,3] := ht
   simp only [List.mem_cons,List.not_mem_nil,or_false] at ht
   rcases ht with rfl | rfl | rfl
   all_goals exact ⟨by kernel_rfl,of_decide_eq_true (by kernel_rfl)⟩) hAk hW'.lt hsp) (fun _ _ => rfl) (by simp)
  (hb.frame _) (fun _ h => hb.frozen h) (ok_one (by kernel_rfl) rfl (okWide_bool_mk Tryz.underlying4 _))⟩
theorem Zlr (os : Os) : laidMet Tryz.prog Rows.chainMarksRow.laid ((Zlc os).forCall (fun _ _ => 0) ⟨#[],#[.slice none 0 0,.agg (List.replicate 32 (Value.int .u8 0)).toArray,.int .i64 0],[]⟩).memory :=
 laidMet_of_run' 8 (by kernel_rfl) (by kernel_rfl)
theorem Zj1 (os : Os) {H : Type} (enc : TypeId × Value → H) : ∃ Zh4,DataW.whole enc Tryz.prog ((Zlc os).forCall (fun _ _ => 0) ⟨#[],#[.slice none 0 0,.agg (List.replicate 32 (Value.int .u8 0)).toArray,.int .i64 0],[]⟩).memory Tryz.f4.params.toList Rows.chainMarksSpec.vars false #[Value.slice none 0 0,.agg (List.replicate 32 (Value.int .u8 0)).toArray,.int .i64 0].toList 8 = some ([.nil,.agg (List.replicate 32 (.lit (.int .u8 0))),.lit (.int .i64 0)],[],Zh4) :=
 ⟨[],by kernel_rfl⟩
theorem Zjd (os : Os) (started : os.Started) (H : Type) (enc : TypeId × Value → H) (F : Stop.Interp) :
  ReturnsInHanded {} Tryz.checked os 4 .any ((OpenSpec.ofChange Rows.chainMarksSpec).preRow enc Tryz.prog Tryz.f4 Rows.chainMarksRow.domain false Rows.chainMarksRow.laid) (((OpenSpec.ofChange Rows.chainMarksSpec).at F).post enc Tryz.prog Tryz.f4 false true false false) := by
 obtain ⟨Zh4,hx⟩ := Zj1 os enc
 refine returnsInHanded_of_row (C := Tryz.checked) (s := OpenSpec.ofChange Rows.chainMarksSpec) Z8e started (by kernel_rfl) Tryz.func4
  (witness_row_atRef (enc := enc) (C := Tryz.checked) false (Zlc os) #[.slice none 0 0,.agg (List.replicate 32 (Value.int .u8 0)).toArray,.int .i64 0] rfl (by kernel_rfl) (by kernel_rfl) (by kernel_rfl)
   (OpenSpec.preRow_of_cond 8 hx (by kernel_rfl) (fun k hk => by cases hk) (by kernel_rfl) (Zlr os))) ?_
 intro W base args ds gs before hval hW _ _ _ hL _ _
 exact Zho H enc W base args ds gs before hval hW hL
theorem Zlq : Rows.ChainMarksSaid :=
 OpenClaim.holds_of_cond 4 Tryz.f4 rfl rfl rfl rfl rfl rfl rfl ⟨rfl,rfl,rfl,rfl,rfl⟩ rfl rfl rfl rfl rfl (by kernel_rfl) Tryz.func4 Zj3
  Zls Zlp
  (fun os started H enc _ F => by rw [OpenClaim.pre_eq_preRow]; exact Zjd os started H enc F)
theorem Zj2 (f : FuncId) (fn : Func) (hf : Tryz.pinned.checked.prog.funcNamed Rows.chainMarksRow.func = some f) (hfn : Tryz.pinned.checked.prog.funcs[f]? = some fn) :
  true = Tryz.pinned.checked.prog.looks [] ∧ ∀ (j : Nat) t,fn.params[j]? = some t → Tryz.pinned.checked.prog.wantsStandIn t = false := by
 obtain rfl : f = 4 := Option.some.inj ((show Tryz.prog.funcNamed Rows.chainMarksRow.func = some 4 by kernel_rfl).symm.trans hf) |>.symm
 obtain rfl : fn = Tryz.f4 := (Option.some.inj (Tryz.func4.symm.trans hfn)).symm
 refine ⟨by kernel_rfl,fun j t ht => ?_⟩
 rw [Tryz.params4] at ht
 have ht : t ∈ [55,56,3] := by simpa using Array.mem_of_getElem? ht
 simp only [List.mem_cons,List.not_mem_nil,or_false] at ht
 rcases ht with rfl | rfl | rfl
 ·exact (show Tryz.prog.wantsStandIn 55 = false by kernel_rfl)
 ·exact (show Tryz.prog.wantsStandIn 56 = false by kernel_rfl)
 ·exact (show Tryz.prog.wantsStandIn 3 = false by kernel_rfl)
theorem chainMarks_card : Rows.ChainMarksCardSaid :=
 Claim7.holds_tied_plain_at .later [] _ _ _ _ Zlq (fun _ h => by cases h) (by kernel_rfl) (fun _ h => by cases h) chainMarks_row_tie rfl ⟨rfl,rfl⟩ (by kernel_rfl) rfl Zj2 (by kernel_rfl)
end Go.Proofs.YtfoigjehifalpaaGreatDoor
