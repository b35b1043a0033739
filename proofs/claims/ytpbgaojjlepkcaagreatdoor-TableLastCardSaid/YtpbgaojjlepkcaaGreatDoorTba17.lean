/-
  The law TableLast holds: for every list of acts and every key it returns true,and what is handed reads as it did; the package-level tables are as the program's text lays them.
-/
import Derived.Test.YtpbgaojjlepkcaaGreatDoorTba4
import Derived.Test.YtpbgaojjlepkcaaGreatDoorTba15
import Derived.Test.YtpbgaojjlepkcaaGreatDoorTba16
import Derived.Stop.LaidErr
namespace Go.Proofs.YtpbgaojjlepkcaaGreatDoor
open Go.ChangeShapes Go.WideShapes Go.ChangeAt Go.RowKit
set_option maxRecDepth 100000

theorem Zor {W : World} (h : laidMetH Tryz.prog Rows.tableLastRow.laid W) : Cr.Gl W Cr.noF Cr.roundL Cr.firstL :=
 Zqj (Lib.tabIs_of_head (g := 5) (t := 388) (e := 166) (n := 64) (by kernel_rfl) (by kernel_rfl) Tryz.underlying388 Tryz.underlying166 (by kernel_rfl) (by kernel_rfl) h)
  (Lib.tabIs_of_head (g := 1) (t := 260) (e := 166) (n := 8) (by kernel_rfl) (by kernel_rfl) Tryz.underlying260 Tryz.underlying166 (by kernel_rfl) (by kernel_rfl) (laidMet.tail h))
theorem Zoi {W : World} (h0 : laidMetH Tryz.prog Rows.tableLastRow.laid W) : Cr.Lg W Cr.noF := by
 have h2 := laidMet.tail (laidMet.tail (laidMet.tail (laidMet.tail h0)))
 have h1 : Lib.TabIs Tryz.prog W "internal/strconv.uint64pow10" .u64 Lib.pow10Tab := Lib.tabIs_of_head (g := 4) (t := 385) (e := 45) (n := 20) (rest := [_, _]) (by kernel_rfl) (by kernel_rfl) Tryz.underlying385 Tryz.underlying45 (by kernel_rfl) (by kernel_rfl) h2
 obtain ⟨a0,s0,hv,_,_,_⟩ := laid_sentinel (g := 7) (laidMet.tail h2) (by kernel_rfl) (show (Tryz.prog.globals[7]?).map (·.type) = some 250 by kernel_rfl) Tryz.underlying250 Z3y Tryz.underlying444 Tryz.underlying446 rfl rfl Tryz.underlying9 (by kernel_rfl) (by kernel_rfl)
 refine ⟨?_,444,.pointer (some a0),?_⟩
 ·have := Cr.glob_of_var (P := Tryz.prog) (n := "internal/strconv.uint64pow10") (g := 4) (by kernel_rfl) h1
  simpa using this.ro
 ·have := Cr.glob_of_var (P := Tryz.prog) (n := "strconv.ErrRange") (g := 7) (by kernel_rfl) hv
  simpa using this.ro
theorem Zg0 (H : Type) (enc : TypeId × Value → H) (W : World) (base : Nat) (args : Array Value) (ds gs : List (DataW H)) (before : List MemPlace)
  (hval : ∀ (j : Nat) t v,Tryz.f3.params[j]? = some t → args[j]? = some v → Value.okWide Tryz.prog W .any base t v)
  (hW : DataW.Whole enc Tryz.prog Tryz.f3.params.toList Rows.tableLastSpec.vars false W args.toList ds gs before) (hL : laidMetH Tryz.prog Rows.tableLastRow.laid W) :
  Calls Tryz.prog 3 args W fun e W' => ∃ v,e = .returned v ∧ Rows.tableLastSpec.post enc Tryz.prog Tryz.f3 false true false false W args v W' := by
 have hW' := hW
 obtain ⟨p,q,hA0,hV,rfl,hfz,hnd⟩ := hW
 have hA : DataW.TrodAll enc Tryz.prog W 0 (fun _ => true) true Tryz.f3.params.toList args.toList ds p := hA0
 rw [Tryz.params3] at hA hval
 obtain ⟨rfl,rfl⟩ := trodVars_none hV
 have hAk := hA
 obtain ⟨v0,vs0,d0,ds0,p0,q0,hargs,rfl,rfl,h0,r0⟩ := trodAll_cons hA
 obtain ⟨v1,vs1,d1,ds1,p1,q1,hargs1,rfl,rfl,h1,r1⟩ := trodAll_cons r0
 obtain ⟨rfl,rfl,rfl⟩ := trodAll_nil r1
 subst hargs1
 obtain rfl : args = #[v0,v1] := by cases args; simp_all
 obtain ⟨a,l,ca,rfl,hl⟩ := Cr.arg_acts (hval 0 22 v0 rfl rfl) h0
 obtain ⟨k0,rfl⟩ := okWide_string Tryz.underlying9 (hval 1 9 v1 rfl rfl)
 obtain ⟨k,rfl⟩ := Cr.str_of k0
 clear hA0
 simp only [List.append_nil] at hW' hAk
 refine (Cr.tableLast_ a ca l k _ _ W (Zor hL) (Zoi hL) hl).mono fun e W' ⟨v,he,hv,hS⟩ => ?_
 subst he hv
 have hb := hS.toBelow
 exact ⟨_,rfl,Zp9 (pa := p0 ++ p1) (pv := []) hW' (fun _ _ _ => trodAll_cons_mk (shut_bool Tryz.underlying4 _) trodAll_mk0)
  (fun sp hsp => Zgz Z1i hb (fun t ht => by
   have ht : t ∈ [22,9] := ht
   simp only [List.mem_cons,List.not_mem_nil,or_false] at ht
   rcases ht with rfl | rfl
   ·exact ⟨by kernel_rfl,of_decide_eq_true (by kernel_rfl)⟩
   ·exact ⟨by kernel_rfl,of_decide_eq_true (by kernel_rfl)⟩) hAk hW'.lt hsp) (fun _ _ => rfl) (by simp)
  (hb.frame _) (fun _ h => hb.frozen h) (ok_one (by kernel_rfl) rfl (okWide_bool_mk Tryz.underlying4 _))⟩
theorem Zkt (os : Os) : laidMet Tryz.prog Rows.tableLastRow.laid ((Zjy os).forCall (fun _ _ => 0) ⟨#[],#[.slice none 0 0,.string (Cr.str [])],[]⟩).memory :=
 laidMet_of_run' 8 (by kernel_rfl) (by kernel_rfl)
theorem Zjj (os : Os) {H : Type} (enc : TypeId × Value → H) : ∃ Zg6,DataW.whole enc Tryz.prog ((Zjy os).forCall (fun _ _ => 0) ⟨#[],#[.slice none 0 0,.string (Cr.str [])],[]⟩).memory Tryz.f3.params.toList Rows.tableLastSpec.vars false #[Value.slice none 0 0,.string (Cr.str [])].toList 8 = some ([.nil,.lit (.string [])],[],Zg6) :=
 ⟨[],by kernel_rfl⟩
theorem Ziu (os : Os) (started : os.Started) (H : Type) (enc : TypeId × Value → H) (F : Stop.Interp) :
  ReturnsInHanded {} Tryz.checked os 3 .any ((OpenSpec.ofChange Rows.tableLastSpec).preRow enc Tryz.prog Tryz.f3 Rows.tableLastRow.domain false Rows.tableLastRow.laid) (((OpenSpec.ofChange Rows.tableLastSpec).at F).post enc Tryz.prog Tryz.f3 false true false false) := by
 obtain ⟨Zg6,hx⟩ := Zjj os enc
 refine returnsInHanded_of_row (C := Tryz.checked) (s := OpenSpec.ofChange Rows.tableLastSpec) Z3i started (by kernel_rfl) Tryz.func3
  (witness_row_atRef (enc := enc) (C := Tryz.checked) false (Zjy os) #[.slice none 0 0,.string (Cr.str [])] rfl (by kernel_rfl) (by kernel_rfl) (by kernel_rfl)
   (OpenSpec.preRow_of_cond 8 hx (by kernel_rfl) (fun k hk => by cases hk) (by kernel_rfl) (Zkt os))) ?_
 intro W base args ds gs before hval hW _ _ _ hL _ _
 exact Zg0 H enc W base args ds gs before hval hW hL
theorem Zks : Rows.TableLastSaid :=
 OpenClaim.holds_of_cond 3 Tryz.f3 rfl rfl rfl rfl rfl rfl rfl ⟨rfl,rfl,rfl,rfl,rfl⟩ rfl rfl rfl rfl rfl (by kernel_rfl) Tryz.func3 Zjl
  Zku Zkr
  (fun os started H enc _ F => by rw [OpenClaim.pre_eq_preRow]; exact Ziu os started H enc F)
theorem Zjk (f : FuncId) (fn : Func) (hf : Tryz.pinned.checked.prog.funcNamed Rows.tableLastRow.func = some f) (hfn : Tryz.pinned.checked.prog.funcs[f]? = some fn) :
  true = Tryz.pinned.checked.prog.looks [] ∧ ∀ (j : Nat) t,fn.params[j]? = some t → Tryz.pinned.checked.prog.wantsStandIn t = false := by
 obtain rfl : f = 3 := Option.some.inj ((show Tryz.prog.funcNamed Rows.tableLastRow.func = some 3 by kernel_rfl).symm.trans hf) |>.symm
 obtain rfl : fn = Tryz.f3 := (Option.some.inj (Tryz.func3.symm.trans hfn)).symm
 refine ⟨by kernel_rfl,fun j t ht => ?_⟩
 rw [Tryz.params3] at ht
 have ht : t = 22 ∨ t = 9 := by simpa using Array.mem_of_getElem? ht
 rcases ht with rfl | rfl
 ·exact (show Tryz.prog.wantsStandIn 22 = false by kernel_rfl)
 ·exact (show Tryz.prog.wantsStandIn 9 = false by kernel_rfl)
theorem tableLast_card : Rows.TableLastCardSaid :=
 Claim7.holds_tied_plain_at .later [] _ _ _ _ Zks (fun _ h => by cases h) (by kernel_rfl) (fun _ h => by cases h) tableLast_row_tie rfl ⟨rfl,rfl⟩ (by kernel_rfl) rfl Zjk (by kernel_rfl)
end Go.Proofs.YtpbgaojjlepkcaaGreatDoor
