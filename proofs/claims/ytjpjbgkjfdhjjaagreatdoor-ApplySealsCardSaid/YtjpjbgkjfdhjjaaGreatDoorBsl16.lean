/-
  The law ApplySeals holds: for every input it returns true,and what is handed reads as it did; the package-level tables are as the program's text lays them.
-/
import Derived.Test.YtjpjbgkjfdhjjaaGreatDoorBsl4
import Derived.Test.YtjpjbgkjfdhjjaaGreatDoorBsl14
import Derived.Test.YtjpjbgkjfdhjjaaGreatDoorBsl15
import Derived.Stop.LaidErr
namespace Go.Proofs.YtjpjbgkjfdhjjaaGreatDoor
open Go.ChangeShapes Go.WideShapes Go.ChangeAt Go.RowKit
set_option maxRecDepth 100000

theorem Zuw {H : Type} {enc : TypeId × Value → H} {W : World} {base : Nat} {v : Value} {d : DataW H} {p : List MemPlace} (hval : Value.okWide Tryz.prog W .any base 22 v) (h : DataW.Trod enc Tryz.prog W 0 (fun _ => true) true 22 v d p) :
  ∃ a s c,v = .slice a s.length c ∧ s.length ≤ c ∧ Cr.Ro W Cr.noF (Cr.bytes a s) := by
 obtain ⟨a,n,c,rfl⟩ := okWide_slice Tryz.underlying22 hval
 obtain ⟨fuel,hf⟩ := h
 obtain ⟨a',l,c',e,hl,_,hw⟩ := Cr.open_bytes Tryz.underlying22 Tryz.underlying5 (by kernel_rfl) hf
 have e : [Value.slice a n c] = [.slice a' l.length c'] := e
 simp only [List.cons.injEq,Value.slice.injEq,and_true] at e
 obtain ⟨rfl,rfl,rfl⟩ := e
 exact ⟨a,l,c,rfl,hl,hw.ro⟩
def Z30 : List Int := [128,191,160,191,128,159,144,191,128,143] ++ List.replicate 22 0
noncomputable def Zkh (os : Os) : World :=
 let w0 := Zwn os
 { w0 with heap := (w0.heap.modify 9 (tabOf (u8s Z30))).modify 8 (tabOf (Go.Pinned.utf8FirstZ.map fun n => Value.int .u8 (Int.ofNat n))) }
theorem Zqv {W : World} (h : laidMetH Tryz.prog Rows.applySealsRow.laid W) : Cr.Gl W Cr.noF Cr.roundL Cr.firstL :=
 Zqw (Lib.tabIs_of_head (g := 2) (t := 335) (e := 139) (n := 64) (by kernel_rfl) (by kernel_rfl) Tryz.underlying335 Tryz.underlying139 (by kernel_rfl) (by kernel_rfl) h)
  (Lib.tabIs_of_head (g := 1) (t := 213) (e := 139) (n := 8) (by kernel_rfl) (by kernel_rfl) Tryz.underlying213 Tryz.underlying139 (by kernel_rfl) (by kernel_rfl) (laidMet.tail h))
theorem Zqq {W : World} (h0 : laidMetH Tryz.prog Rows.applySealsRow.laid W) : Cr.Lg W Cr.noF := by
 have h2 := laidMet.tail (laidMet.tail (laidMet.tail (laidMet.tail h0)))
 have h1 : Lib.TabIs Tryz.prog W "internal/strconv.uint64pow10" .u64 Lib.pow10Tab := Lib.tabIs_of_head (g := 3) (t := 352) (e := 43) (n := 20) (rest := [_, _, _, _]) (by kernel_rfl) (by kernel_rfl) Tryz.underlying352 Tryz.underlying43 (by kernel_rfl) (by kernel_rfl) h2
 obtain ⟨a0,s0,hv,_,_,_⟩ := laid_sentinel (g := 7) (laidMet.tail (laidMet.tail h2)) (by kernel_rfl) (show (Tryz.prog.globals[7]?).map (·.type) = some 376 by kernel_rfl) Tryz.underlying376 Z6z Tryz.underlying414 Tryz.underlying416 rfl rfl Tryz.underlying9 (by kernel_rfl) (by kernel_rfl)
 refine ⟨?_,414,.pointer (some a0),?_⟩
 ·have := Cr.glob_of_var (P := Tryz.prog) (n := "internal/strconv.uint64pow10") (g := 3) (by kernel_rfl) h1
  simpa using this.ro
 ·have := Cr.glob_of_var (P := Tryz.prog) (n := "strconv.ErrRange") (g := 7) (by kernel_rfl) hv
  simpa using this.ro
theorem Zgz (H : Type) (enc : TypeId × Value → H) (W : World) (base : Nat) (args : Array Value) (ds gs : List (DataW H)) (before : List MemPlace)
  (hval : ∀ (j : Nat) t v,Tryz.f4.params[j]? = some t → args[j]? = some v → Value.okWide Tryz.prog W .any base t v)
  (hW : DataW.Whole enc Tryz.prog Tryz.f4.params.toList Rows.applySealsSpec.vars false W args.toList ds gs before) (hL : laidMetH Tryz.prog Rows.applySealsRow.laid W) :
  Calls Tryz.prog 4 args W fun e W' => ∃ v,e = .returned v ∧ Rows.applySealsSpec.post enc Tryz.prog Tryz.f4 false true false false W args v W' := by
 have hW' := hW
 obtain ⟨p,q,hA0,hV,rfl,hfz,hnd⟩ := hW
 have hA : DataW.TrodAll enc Tryz.prog W 0 (fun _ => true) true Tryz.f4.params.toList args.toList ds p := hA0
 rw [Tryz.params4] at hA hval;obtain ⟨rfl,rfl⟩ := trodVars_none hV
 have hAk := hA
 obtain ⟨v0,vs0,d0,ds0,p0,q0,hargs,rfl,rfl,h0,r0⟩ := trodAll_cons hA
 obtain ⟨v1,vs1,d1,ds1,p1,q1,hargs1,rfl,rfl,h1,r1⟩ := trodAll_cons r0
 obtain ⟨rfl,rfl,rfl⟩ := trodAll_nil r1
 subst hargs1
 obtain rfl : args = #[v0,v1] := by cases args; simp_all
 obtain ⟨a0,b0,c0,rfl,hbl0,hb0⟩ := Zuw (hval 0 22 v0 rfl rfl) h0
 obtain ⟨n1,rfl⟩ := okWide_int Tryz.underlying3 (hval 1 3 v1 rfl rfl)
 clear hA0;simp only [List.append_nil] at hW' hAk
 refine (Cr.applySeals_ a0 b0 c0 n1 W hbl0 hb0 (Zqv hL) (Zqq hL)).mono fun e W' ⟨v,he,hv,hS⟩ => ?_
 subst he hv
 have hb := hS.toBelow
 exact ⟨_,rfl,Zqm (pa := p0 ++ p1) (pv := []) hW' (fun _ _ _ => trodAll_cons_mk (shut_bool Tryz.underlying4 _) trodAll_mk0)
  (fun sp hsp => Zg7 Z3c hb (fun t ht => by
   have ht : t ∈ [22,3] := ht
   simp only [List.mem_cons,List.not_mem_nil,or_false] at ht
   rcases ht with rfl | rfl
   all_goals exact ⟨by kernel_rfl,of_decide_eq_true (by kernel_rfl)⟩) hAk hW'.lt hsp) (fun _ _ => rfl) (by simp)
  (hb.frame _) (fun _ h => hb.frozen h) (ok_one (by kernel_rfl) rfl (okWide_bool_mk Tryz.underlying4 _))⟩
theorem Zk3 (os : Os) : laidMet Tryz.prog Rows.applySealsRow.laid ((Zkh os).forCall (fun _ _ => 0) ⟨#[],#[.slice none 0 0,.int .i64 0],[]⟩).memory :=
 laidMet_of_run' 8 (by kernel_rfl) (by kernel_rfl)
theorem Zjf (os : Os) {H : Type} (enc : TypeId × Value → H) : ∃ Zhd,DataW.whole enc Tryz.prog ((Zkh os).forCall (fun _ _ => 0) ⟨#[],#[.slice none 0 0,.int .i64 0],[]⟩).memory Tryz.f4.params.toList Rows.applySealsSpec.vars false #[Value.slice none 0 0,.int .i64 0].toList 8 = some ([.nil,.lit (.int .i64 0)],[],Zhd) :=
 ⟨[],by kernel_rfl⟩
theorem Zir (os : Os) (started : os.Started) (H : Type) (enc : TypeId × Value → H) (F : Stop.Interp) :
  ReturnsInHanded {} Tryz.checked os 4 .any ((OpenSpec.ofChange Rows.applySealsSpec).preRow enc Tryz.prog Tryz.f4 Rows.applySealsRow.domain false Rows.applySealsRow.laid) (((OpenSpec.ofChange Rows.applySealsSpec).at F).post enc Tryz.prog Tryz.f4 false true false false) := by
 obtain ⟨Zhd,hx⟩ := Zjf os enc
 refine returnsInHanded_of_row (C := Tryz.checked) (s := OpenSpec.ofChange Rows.applySealsSpec) Z6k started (by kernel_rfl) Tryz.func4
  (witness_row_atRef (enc := enc) (C := Tryz.checked) false (Zkh os) #[.slice none 0 0,.int .i64 0] rfl (by kernel_rfl) (by kernel_rfl) (by kernel_rfl)
   (OpenSpec.preRow_of_cond 8 hx (by kernel_rfl) (fun k hk => by cases hk) (by kernel_rfl) (Zk3 os))) ?_
 intro W base args ds gs before hval hW _ _ _ hL _ _
 exact Zgz H enc W base args ds gs before hval hW hL
theorem Zk2 : Rows.ApplySealsSaid :=
 OpenClaim.holds_of_cond 4 Tryz.f4 rfl rfl rfl rfl rfl rfl rfl ⟨rfl,rfl,rfl,rfl,rfl⟩ rfl rfl rfl rfl rfl (by kernel_rfl) Tryz.func4 Zjh
  Zk4 Zk1
  (fun os started H enc _ F => by rw [OpenClaim.pre_eq_preRow]; exact Zir os started H enc F)
theorem Zjg (f : FuncId) (fn : Func) (hf : Tryz.pinned.checked.prog.funcNamed Rows.applySealsRow.func = some f) (hfn : Tryz.pinned.checked.prog.funcs[f]? = some fn) :
  true = Tryz.pinned.checked.prog.looks [] ∧ ∀ (j : Nat) t,fn.params[j]? = some t → Tryz.pinned.checked.prog.wantsStandIn t = false := by
 obtain rfl : f = 4 := Option.some.inj ((show Tryz.prog.funcNamed Rows.applySealsRow.func = some 4 by kernel_rfl).symm.trans hf) |>.symm
 obtain rfl : fn = Tryz.f4 := (Option.some.inj (Tryz.func4.symm.trans hfn)).symm
 refine ⟨by kernel_rfl,fun j t ht => ?_⟩
 rw [Tryz.params4] at ht;have ht : t = 22 ∨ t = 3 := by simpa using Array.mem_of_getElem? ht
 rcases ht with rfl | rfl
 all_goals first
  | exact (show Tryz.prog.wantsStandIn 22 = false by kernel_rfl)
  | exact (show Tryz.prog.wantsStandIn 3 = false by kernel_rfl)
theorem applySeals_card : Rows.ApplySealsCardSaid :=
 Claim7.holds_tied_plain_at .later [] _ _ _ _ Zk2 (fun _ h => by cases h) (by kernel_rfl) (fun _ h => by cases h) applySeals_row_tie rfl ⟨rfl,rfl⟩ (by kernel_rfl) rfl Zjg (by kernel_rfl)
end Go.Proofs.YtjpjbgkjfdhjjaaGreatDoor
