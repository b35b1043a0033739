/-
  The law AuditBent holds: for every list of records,every number and all bytes it returns true,and what is handed reads as it did; the package-level tables are as the program's text lays them.
-/
import Derived.Test.YtpbgaojjlepkcaaGreatDoorAbn4
import Derived.Test.YtpbgaojjlepkcaaGreatDoorAbn16
import Derived.Test.YtpbgaojjlepkcaaGreatDoorAbn17
namespace Go.Proofs.YtpbgaojjlepkcaaGreatDoor
open Go.ChangeShapes Go.WideShapes Go.ChangeAt Go.RowKit
set_option maxRecDepth 100000

theorem Zvq {H : Type} {enc : TypeId × Value → H} {W : World} {base : Nat} {v : Value} {d : DataW H} {p : List MemPlace} (hval : Value.okWide Tryz.prog W .any base 35 v) (h : DataW.Trod enc Tryz.prog W 0 (fun _ => true) true 35 v d p) :
  ∃ a s c,v = .slice a s.length c ∧ s.length ≤ c ∧ Cr.Ro W Cr.noF (Cr.bytes a s) := by
 obtain ⟨a,n,c,rfl⟩ := okWide_slice Tryz.underlying35 hval
 obtain ⟨fuel,hf⟩ := h
 obtain ⟨a',l,c',e,hl,_,hw⟩ := Cr.open_bytes Tryz.underlying35 Tryz.underlying5 (by kernel_rfl) hf
 have e : [Value.slice a n c] = [.slice a' l.length c'] := e
 simp only [List.cons.injEq,Value.slice.injEq,and_true] at e
 obtain ⟨rfl,rfl,rfl⟩ := e
 exact ⟨a,l,c,rfl,hl,hw.ro⟩
theorem Zqe {W : World} (h : laidMetH Tryz.prog Rows.auditBentRow.laid W) : Cr.Gl W Cr.noF Cr.roundL Cr.firstL := by
 have h1 : Lib.TabIs Tryz.prog W "creel/digest.round" .u32 Cr.roundL := Lib.tabIs_of_head (g := 5) (t := 388) (e := 166) (n := 64)  (by kernel_rfl) (by kernel_rfl) Tryz.underlying388 Tryz.underlying166 (by kernel_rfl) (by kernel_rfl) h
 have h2 : Lib.TabIs Tryz.prog W "creel/digest.first" .u32 Cr.firstL := Lib.tabIs_of_head (g := 1) (t := 260) (e := 166) (n := 8)  (by kernel_rfl) (by kernel_rfl) Tryz.underlying260 Tryz.underlying166 (by kernel_rfl) (by kernel_rfl) (laidMet.tail h)
 refine ⟨(Cr.Rd.ofCells (fun i v hv => ?_) (by simp [Cr.ints,Cr.roundL])).ro,(Cr.Rd.ofCells (fun i v hv => ?_) (by simp [Cr.ints,Cr.firstL])).ro,rfl,rfl⟩
 ·have hi : i < Cr.roundL.length := by
   rcases Nat.lt_or_ge i Cr.roundL.length with h | h
   ·exact h
   ·rw [List.getElem?_eq_none (by rw [Cr.ints_length]; omega)] at hv; cases hv
  rw [Cr.ints_get hi] at hv;rw [← Option.some.inj hv];exact h1.cell (by kernel_rfl) i hi
 ·have hi : i < Cr.firstL.length := by
   rcases Nat.lt_or_ge i Cr.firstL.length with h | h
   ·exact h
   ·rw [List.getElem?_eq_none (by rw [Cr.ints_length]; omega)] at hv; cases hv
  rw [Cr.ints_get hi] at hv;rw [← Option.some.inj hv];exact h2.cell (by kernel_rfl) i hi
theorem Zp3 {W : World} (h : laidMetH Tryz.prog Rows.auditBentRow.laid W) : Cr.Lg W Cr.noF := by
 have h2 := laidMet.tail (laidMet.tail (laidMet.tail (laidMet.tail h)))
 have h1 : Lib.TabIs Tryz.prog W "internal/strconv.uint64pow10" .u64 Lib.pow10Tab := Lib.tabIs_of_head (g := 4) (t := 385) (e := 45) (n := 20)  (by kernel_rfl) (by kernel_rfl) Tryz.underlying385 Tryz.underlying45 (by kernel_rfl) (by kernel_rfl) h2
 obtain ⟨a0,s0,hv,_,_,_⟩ := laid_sentinel (g := 7) (laidMet.tail h2) (by kernel_rfl) (show (Tryz.prog.globals[7]?).map (·.type) = some 250 by kernel_rfl) Tryz.underlying250 Z5k Tryz.underlying444 Tryz.underlying446 rfl rfl Tryz.underlying9 (by kernel_rfl) (by kernel_rfl)
 refine ⟨?_,444,.pointer (some a0),?_⟩
 ·have := Cr.glob_of_var (P := Tryz.prog) (n := "internal/strconv.uint64pow10") (g := 4) (by kernel_rfl) h1
  simpa using this.ro
 ·have := Cr.glob_of_var (P := Tryz.prog) (n := "strconv.ErrRange") (g := 7) (by kernel_rfl) hv
  simpa using this.ro
theorem Zpl {W : World} (h : laidMetH Tryz.prog Rows.auditBentRow.laid W) : Cr.Sp W Cr.noF := by
 have h2 := laidMet.tail (laidMet.tail (laidMet.tail (laidMet.tail (laidMet.tail (laidMet.tail (laidMet.tail (laidMet.tail h)))))))
 have h1 : Lib.TabIs Tryz.prog W "strings.asciiSpace" .u8 Lib.asciiSpaceTab := Lib.tabIs_of_head (g := 0) (t := 355) (e := 5) (n := 256)  (by kernel_rfl) (by kernel_rfl) Tryz.underlying355 Tryz.underlying5 (by kernel_rfl) (by kernel_rfl) h2
 have := Cr.glob_of_var (P := Tryz.prog) (n := "strings.asciiSpace") (g := 0) (by kernel_rfl) h1
 have e : (Array.map (fun z => Value.int .u8 z) Lib.asciiSpaceTab.toArray).toList = Lib.asciiSpaceTab.map fun z => Value.int .u8 z := by simp
 unfold Cr.Sp
 simpa using this.ro
theorem Zh8 (H : Type) (enc : TypeId × Value → H) (W : World) (base : Nat) (args : Array Value) (ds gs : List (DataW H)) (before : List MemPlace)
  (hval : ∀ (j : Nat) t v,Tryz.f5.params[j]? = some t → args[j]? = some v → Value.okWide Tryz.prog W .any base t v)
  (hW : DataW.Whole enc Tryz.prog Tryz.f5.params.toList Rows.auditBentSpec.vars false W args.toList ds gs before) (hL : laidMetH Tryz.prog Rows.auditBentRow.laid W) :
  Calls Tryz.prog 5 args W fun e W' => ∃ v,e = .returned v ∧ Rows.auditBentSpec.post enc Tryz.prog Tryz.f5 false true false false W args v W' := by
 have hW' := hW
 obtain ⟨p,q,hA0,hV,rfl,hfz,hnd⟩ := hW
 have hA : DataW.TrodAll enc Tryz.prog W 0 (fun _ => true) true Tryz.f5.params.toList args.toList ds p := hA0
 rw [Tryz.params5] at hA hval;obtain ⟨rfl,rfl⟩ := trodVars_none hV
 have hAk := hA
 obtain ⟨v0,vs0,d0,ds0,p0,q0,hargs,rfl,rfl,h0,r0⟩ := trodAll_cons hA
 obtain ⟨v1,vs1,d1,ds1,p1,q1,hargs1,rfl,rfl,h1,r1⟩ := trodAll_cons r0
 obtain ⟨v2,vs2,d2,ds2,p2,q2,hargs2,rfl,rfl,h2,r2⟩ := trodAll_cons r1
 obtain ⟨rfl,rfl,rfl⟩ := trodAll_nil r2
 subst hargs2
 subst hargs1
 obtain rfl : args = #[v0,v1,v2] := by cases args; simp_all
 obtain ⟨a,l,ca,rfl,hl,hli⟩ := Cr.arg_recs (hval 0 55 v0 rfl rfl) h0
 obtain ⟨no,rfl⟩ := okWide_int Tryz.underlying3 (hval 1 3 v1 rfl rfl)
 obtain ⟨ab,bs,cb,rfl,hbl,hb0⟩ := Zvq (hval 2 35 v2 rfl rfl) h2
 clear hA0;simp only [List.append_nil] at hW' hAk
 refine (Cr.auditBent_ a ca l no ab bs cb hbl _ _ W (Zqe hL) (Zp3 hL) (Zpl hL) hl hb0).mono fun e W' ⟨v,he,hv,hS⟩ => ?_
 subst he hv
 have hb := hS.toBelow
 exact ⟨_,rfl,Zrx (pa := p0 ++ (p1 ++ p2)) (pv := []) hW' (fun _ _ _ => trodAll_cons_mk (shut_bool Tryz.underlying4 _) trodAll_mk0)
  (fun sp hsp => Zhl Z23 hb (fun t ht => by
   have ht : t ∈ [55,3,35] := ht
   simp only [List.mem_cons,List.not_mem_nil,or_false] at ht
   rcases ht with rfl | rfl | rfl
   ·exact ⟨by kernel_rfl,of_decide_eq_true (by kernel_rfl)⟩
   ·exact ⟨by kernel_rfl,of_decide_eq_true (by kernel_rfl)⟩
   ·exact ⟨by kernel_rfl,of_decide_eq_true (by kernel_rfl)⟩) hAk hW'.lt hsp) (fun _ _ => rfl) (by simp)
  (hb.frame _) (fun _ h => hb.frozen h) (ok_one (by kernel_rfl) rfl (okWide_bool_mk Tryz.underlying4 _))⟩
theorem Zlu (os : Os) : laidMet Tryz.prog Rows.auditBentRow.laid ((Zkw os).forCall (fun _ _ => 0) ⟨#[],#[.slice none 0 0,.int .i64 0,.slice none 0 0],[]⟩).memory :=
 laidMet_of_run' 8 (by kernel_rfl) (by kernel_rfl)
theorem Zle (os : Os) {H : Type} (enc : TypeId × Value → H) : ∃ Zhr,DataW.whole enc Tryz.prog ((Zkw os).forCall (fun _ _ => 0) ⟨#[],#[.slice none 0 0,.int .i64 0,.slice none 0 0],[]⟩).memory Tryz.f5.params.toList Rows.auditBentSpec.vars false #[Value.slice none 0 0,.int .i64 0,.slice none 0 0].toList 8 = some ([.nil,.lit (.int .i64 0),.nil],[],Zhr) :=
 ⟨[],by kernel_rfl⟩
theorem Zjn (os : Os) (started : os.Started) (H : Type) (enc : TypeId × Value → H) (F : Stop.Interp) :
  ReturnsInHanded {} Tryz.checked os 5 .any ((OpenSpec.ofChange Rows.auditBentSpec).preRow enc Tryz.prog Tryz.f5 Rows.auditBentRow.domain false Rows.auditBentRow.laid) (((OpenSpec.ofChange Rows.auditBentSpec).at F).post enc Tryz.prog Tryz.f5 false true false false) := by
 obtain ⟨Zhr,hx⟩ := Zle os enc
 refine returnsInHanded_of_row (C := Tryz.checked) (s := OpenSpec.ofChange Rows.auditBentSpec) Z45 started (by kernel_rfl) Tryz.func5
  (witness_row_atRef (enc := enc) (C := Tryz.checked) false (Zkw os) #[.slice none 0 0,.int .i64 0,.slice none 0 0] rfl (by kernel_rfl) (by kernel_rfl) (by kernel_rfl)
   (OpenSpec.preRow_of_cond 8 hx (by kernel_rfl) (fun k hk => by cases hk) (by kernel_rfl) (Zlu os))) ?_
 intro W base args ds gs before hval hW _ _ _ hL _ _
 exact Zh8 H enc W base args ds gs before hval hW hL
theorem Zlt : Rows.AuditBentSaid :=
 OpenClaim.holds_of_cond 5 Tryz.f5 rfl rfl rfl rfl rfl rfl rfl ⟨rfl,rfl,rfl,rfl,rfl⟩ rfl rfl rfl rfl rfl (by kernel_rfl) Tryz.func5 Zlg
  Zlv Zls
  (fun os started H enc _ F => by rw [OpenClaim.pre_eq_preRow]; exact Zjn os started H enc F)
theorem Zlf (f : FuncId) (fn : Func) (hf : Tryz.pinned.checked.prog.funcNamed Rows.auditBentRow.func = some f) (hfn : Tryz.pinned.checked.prog.funcs[f]? = some fn) :
  true = Tryz.pinned.checked.prog.looks [] ∧ ∀ (j : Nat) t,fn.params[j]? = some t → Tryz.pinned.checked.prog.wantsStandIn t = false := by
 obtain rfl : f = 5 := Option.some.inj ((show Tryz.prog.funcNamed Rows.auditBentRow.func = some 5 by kernel_rfl).symm.trans hf) |>.symm
 obtain rfl : fn = Tryz.f5 := (Option.some.inj (Tryz.func5.symm.trans hfn)).symm
 refine ⟨by kernel_rfl,fun j t ht => ?_⟩
 rw [Tryz.params5] at ht;have ht : t = 55 ∨ t = 3 ∨ t = 35 := by simpa using Array.mem_of_getElem? ht
 rcases ht with rfl | rfl | rfl
 ·exact (show Tryz.prog.wantsStandIn 55 = false by kernel_rfl)
 ·exact (show Tryz.prog.wantsStandIn 3 = false by kernel_rfl)
 ·exact (show Tryz.prog.wantsStandIn 35 = false by kernel_rfl)
theorem auditBent_card : Rows.AuditBentCardSaid :=
 Claim7.holds_tied_plain_at .later [] _ _ _ _ Zlt (fun _ h => by cases h) (by kernel_rfl) (fun _ h => by cases h) auditBent_row_tie rfl ⟨rfl,rfl⟩ (by kernel_rfl) rfl Zlf (by kernel_rfl)
end Go.Proofs.YtpbgaojjlepkcaaGreatDoor
