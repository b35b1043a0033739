/-
  The law ApplyKeeps holds: for every input it returns true,and what is handed reads as it did; the package-level tables are as the program's text lays them.
-/
import Derived.Test.YtjpjbgkjfdhjjaaGreatDoorAks4
import Derived.Test.YtjpjbgkjfdhjjaaGreatDoorAks15
import Derived.Test.YtjpjbgkjfdhjjaaGreatDoorAks16
import Derived.Stop.LaidErr
namespace Go.Proofs.YtjpjbgkjfdhjjaaGreatDoor
open Go.ChangeShapes Go.WideShapes Go.ChangeAt Go.RowKit
set_option maxRecDepth 100000

theorem Zua {H : Type} {enc : TypeId × Value → H} {W : World} {base : Nat} {v : Value} {d : DataW H} {p : List MemPlace} (hval : Value.okWide Tryz.prog W .any base 22 v) (h : DataW.Trod enc Tryz.prog W 0 (fun _ => true) true 22 v d p) :
  ∃ a s c,v = .slice a s.length c ∧ s.length ≤ c ∧ Cr.Ro W Cr.noF (Cr.bytes a s) := by
 obtain ⟨a,n,c,rfl⟩ := okWide_slice Tryz.underlying22 hval
 obtain ⟨fuel,hf⟩ := h
 obtain ⟨a',l,c',e,hl,_,hw⟩ := Cr.open_bytes Tryz.underlying22 Tryz.underlying5 (by kernel_rfl) hf
 have e : [Value.slice a n c] = [.slice a' l.length c'] := e
 simp only [List.cons.injEq,Value.slice.injEq,and_true] at e
 obtain ⟨rfl,rfl,rfl⟩ := e
 exact ⟨a,l,c,rfl,hl,hw.ro⟩
theorem Zqt {W : World} (h : laidMetH Tryz.prog Rows.applyKeepsRow.laid W) : Cr.Gl W Cr.noF Cr.roundL Cr.firstL :=
 Zqu (Lib.tabIs_of_head (g := 2) (t := 335) (e := 139) (n := 64) (by kernel_rfl) (by kernel_rfl) Tryz.underlying335 Tryz.underlying139 (by kernel_rfl) (by kernel_rfl) h)
  (Lib.tabIs_of_head (g := 1) (t := 213) (e := 139) (n := 8) (by kernel_rfl) (by kernel_rfl) Tryz.underlying213 Tryz.underlying139 (by kernel_rfl) (by kernel_rfl) (laidMet.tail h))
theorem Zqm {W : World} (h0 : laidMetH Tryz.prog Rows.applyKeepsRow.laid W) : Cr.Lg W Cr.noF := by
 have h2 := laidMet.tail (laidMet.tail (laidMet.tail (laidMet.tail h0)))
 have h1 : Lib.TabIs Tryz.prog W "internal/strconv.uint64pow10" .u64 Lib.pow10Tab := Lib.tabIs_of_head (g := 3) (t := 352) (e := 43) (n := 20) (rest := [_, _]) (by kernel_rfl) (by kernel_rfl) Tryz.underlying352 Tryz.underlying43 (by kernel_rfl) (by kernel_rfl) h2
 obtain ⟨a0,s0,hv,_,_,_⟩ := laid_sentinel (g := 7) (laidMet.tail h2) (by kernel_rfl) (show (Tryz.prog.globals[7]?).map (·.type) = some 376 by kernel_rfl) Tryz.underlying376 Z3z Tryz.underlying414 Tryz.underlying416 rfl rfl Tryz.underlying9 (by kernel_rfl) (by kernel_rfl)
 refine ⟨?_,414,.pointer (some a0),?_⟩
 ·have := Cr.glob_of_var (P := Tryz.prog) (n := "internal/strconv.uint64pow10") (g := 3) (by kernel_rfl) h1
  simpa using this.ro
 ·have := Cr.glob_of_var (P := Tryz.prog) (n := "strconv.ErrRange") (g := 7) (by kernel_rfl) hv
  simpa using this.ro
theorem Zgr (H : Type) (enc : TypeId × Value → H) (W : World) (base : Nat) (args : Array Value) (ds gs : List (DataW H)) (before : List MemPlace)
  (hval : ∀ (j : Nat) t v,Tryz.f3.params[j]? = some t → args[j]? = some v → Value.okWide Tryz.prog W .any base t v)
  (hW : DataW.Whole enc Tryz.prog Tryz.f3.params.toList Rows.applyKeepsSpec.vars false W args.toList ds gs before) (hL : laidMetH Tryz.prog Rows.applyKeepsRow.laid W) :
  Calls Tryz.prog 3 args W fun e W' => ∃ v,e = .returned v ∧ Rows.applyKeepsSpec.post enc Tryz.prog Tryz.f3 false true false false W args v W' := by
 have hW' := hW
 obtain ⟨p,q,hA0,hV,rfl,hfz,hnd⟩ := hW
 have hA : DataW.TrodAll enc Tryz.prog W 0 (fun _ => true) true Tryz.f3.params.toList args.toList ds p := hA0
 rw [Tryz.params3] at hA hval;obtain ⟨rfl,rfl⟩ := trodVars_none hV
 have hAk := hA
 obtain ⟨v0,vs0,d0,ds0,p0,q0,hargs,rfl,rfl,h0,r0⟩ := trodAll_cons hA
 obtain ⟨v1,vs1,d1,ds1,p1,q1,hargs1,rfl,rfl,h1,r1⟩ := trodAll_cons r0
 obtain ⟨v2,vs2,d2,ds2,p2,q2,hargs2,rfl,rfl,h2,r2⟩ := trodAll_cons r1
 obtain ⟨v3,vs3,d3,ds3,p3,q3,hargs3,rfl,rfl,h3,r3⟩ := trodAll_cons r2
 obtain ⟨rfl,rfl,rfl⟩ := trodAll_nil r3
 subst hargs3
 subst hargs2
 subst hargs1
 obtain rfl : args = #[v0,v1,v2,v3] := by cases args; simp_all
 obtain ⟨k0,rfl⟩ := okWide_string Tryz.underlying9 (hval 0 9 v0 rfl rfl)
 obtain ⟨s0,rfl⟩ := Cr.str_of k0
 obtain ⟨n1,rfl⟩ := okWide_int Tryz.underlying3 (hval 1 3 v1 rfl rfl)
 obtain ⟨n2,rfl⟩ := okWide_int Tryz.underlying3 (hval 2 3 v2 rfl rfl)
 obtain ⟨a3,b3,c3,rfl,hbl3,hb3⟩ := Zua (hval 3 22 v3 rfl rfl) h3
 clear hA0;simp only [List.append_nil] at hW' hAk
 refine (Cr.applyKeeps_ s0 n1 n2 a3 b3 c3 _ _ W hbl3 hb3 (Zqt hL) (Zqm hL)).mono fun e W' ⟨v,he,hv,hS⟩ => ?_
 subst he hv
 have hb := hS.toBelow
 exact ⟨_,rfl,Zqg (pa := p0 ++ (p1 ++ (p2 ++ p3))) (pv := []) hW' (fun _ _ _ => trodAll_cons_mk (shut_bool Tryz.underlying4 _) trodAll_mk0)
  (fun sp hsp => Zg0 Z1j hb (fun t ht => by
   have ht : t ∈ [9,3,3,22] := ht
   simp only [List.mem_cons,List.not_mem_nil,or_false] at ht
   rcases ht with rfl | rfl | rfl | rfl
   all_goals exact ⟨by kernel_rfl,of_decide_eq_true (by kernel_rfl)⟩) hAk hW'.lt hsp) (fun _ _ => rfl) (by simp)
  (hb.frame _) (fun _ h => hb.frozen h) (ok_one (by kernel_rfl) rfl (okWide_bool_mk Tryz.underlying4 _))⟩
theorem Zks (os : Os) : laidMet Tryz.prog Rows.applyKeepsRow.laid ((Zj6 os).forCall (fun _ _ => 0) ⟨#[],#[.string (Cr.str []),.int .i64 0,.int .i64 0,.slice none 0 0],[]⟩).memory :=
 laidMet_of_run' 8 (by kernel_rfl) (by kernel_rfl)
theorem Ziz (os : Os) {H : Type} (enc : TypeId × Value → H) : ∃ Zg5,DataW.whole enc Tryz.prog ((Zj6 os).forCall (fun _ _ => 0) ⟨#[],#[.string (Cr.str []),.int .i64 0,.int .i64 0,.slice none 0 0],[]⟩).memory Tryz.f3.params.toList Rows.applyKeepsSpec.vars false #[Value.string (Cr.str []),.int .i64 0,.int .i64 0,.slice none 0 0].toList 8 = some ([.lit (.string []),.lit (.int .i64 0),.lit (.int .i64 0),.nil],[],Zg5) :=
 ⟨[],by kernel_rfl⟩
theorem Zie (os : Os) (started : os.Started) (H : Type) (enc : TypeId × Value → H) (F : Stop.Interp) :
  ReturnsInHanded {} Tryz.checked os 3 .any ((OpenSpec.ofChange Rows.applyKeepsSpec).preRow enc Tryz.prog Tryz.f3 Rows.applyKeepsRow.domain false Rows.applyKeepsRow.laid) (((OpenSpec.ofChange Rows.applyKeepsSpec).at F).post enc Tryz.prog Tryz.f3 false true false false) := by
 obtain ⟨Zg5,hx⟩ := Ziz os enc
 refine returnsInHanded_of_row (C := Tryz.checked) (s := OpenSpec.ofChange Rows.applyKeepsSpec) Z3i started (by kernel_rfl) Tryz.func3
  (witness_row_atRef (enc := enc) (C := Tryz.checked) false (Zj6 os) #[.string (Cr.str []),.int .i64 0,.int .i64 0,.slice none 0 0] rfl (by kernel_rfl) (by kernel_rfl) (by kernel_rfl)
   (OpenSpec.preRow_of_cond 8 hx (by kernel_rfl) (fun k hk => by cases hk) (by kernel_rfl) (Zks os))) ?_
 intro W base args ds gs before hval hW _ _ _ hL _ _
 exact Zgr H enc W base args ds gs before hval hW hL
theorem Zkr : Rows.ApplyKeepsSaid :=
 OpenClaim.holds_of_cond 3 Tryz.f3 rfl rfl rfl rfl rfl rfl rfl ⟨rfl,rfl,rfl,rfl,rfl⟩ rfl rfl rfl rfl rfl (by kernel_rfl) Tryz.func3 Zi1
  Zkt Zkq
  (fun os started H enc _ F => by rw [OpenClaim.pre_eq_preRow]; exact Zie os started H enc F)
theorem Zi0 (f : FuncId) (fn : Func) (hf : Tryz.pinned.checked.prog.funcNamed Rows.applyKeepsRow.func = some f) (hfn : Tryz.pinned.checked.prog.funcs[f]? = some fn) :
  true = Tryz.pinned.checked.prog.looks [] ∧ ∀ (j : Nat) t,fn.params[j]? = some t → Tryz.pinned.checked.prog.wantsStandIn t = false := by
 obtain rfl : f = 3 := Option.some.inj ((show Tryz.prog.funcNamed Rows.applyKeepsRow.func = some 3 by kernel_rfl).symm.trans hf) |>.symm
 obtain rfl : fn = Tryz.f3 := (Option.some.inj (Tryz.func3.symm.trans hfn)).symm
 refine ⟨by kernel_rfl,fun j t ht => ?_⟩
 rw [Tryz.params3] at ht;have ht : t = 9 ∨ t = 3 ∨ t = 3 ∨ t = 22 := by simpa using Array.mem_of_getElem? ht
 rcases ht with rfl | rfl | rfl | rfl
 all_goals first
  | exact (show Tryz.prog.wantsStandIn 9 = false by kernel_rfl)
  | exact (show Tryz.prog.wantsStandIn 3 = false by kernel_rfl)
  | exact (show Tryz.prog.wantsStandIn 22 = false by kernel_rfl)
theorem applyKeeps_card : Rows.ApplyKeepsCardSaid :=
 Claim7.holds_tied_plain_at .later [] _ _ _ _ Zkr (fun _ h => by cases h) (by kernel_rfl) (fun _ h => by cases h) applyKeeps_row_tie rfl ⟨rfl,rfl⟩ (by kernel_rfl) rfl Zi0 (by kernel_rfl)
end Go.Proofs.YtjpjbgkjfdhjjaaGreatDoor
