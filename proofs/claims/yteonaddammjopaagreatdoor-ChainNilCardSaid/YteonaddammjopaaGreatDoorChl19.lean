/-
  The law ChainNil: what nil tells; what it computes.
-/
import Derived.Test.YteonaddammjopaaGreatDoorChl4
import Derived.Test.YteonaddammjopaaGreatDoorChl18
namespace Cr
open Go Go.Proofs
set_option maxRecDepth 100000
set_option maxHeartbeats 16000000
attribute [local irreducible] Calls

theorem keys11_nil (W : World) : Calls Tryz.prog 36 #[.pointer none] W (Ret fun v w => v = .tuple #[.slice none 0 0,.int .i64 16] ∧ W = w) := by
 refine Zaq Tryz.func36 rfl Tryz.ntmps36 rfl ?_
 repeat (first|(refine G_id ?_;first|refine Zah ?_|refine Zac rfl rfl ?_)|(refine X_id ?_;first|refine X_yl (Zad rfl rfl) rfl rfl ?_|refine X_yl (Zab rfl rfl) rfl rfl ?_|refine X_yl (Zc7 rfl rfl rfl) rfl rfl ?_)|(refine C_id ?_;first|refine Zaj ?_|refine Zaa ?_|refine Za0 ?_|refine Zam rfl ?_)|(refine E_id ?_;first|refine Zae ?_|refine Zar ?_|refine Zcy rfl (Zao rfl) (Zao rfl) (Ret.mk ?_)))
 exact ⟨rfl,rfl⟩
theorem copen_nil (W : World) : Calls Tryz.prog 18 #[.pointer none] W (Ret fun v w => v = .tuple #[.pointer none,.int .i64 16] ∧ W = w) := by
 refine Zaq Tryz.func18 rfl Tryz.ntmps18 rfl ?_
 repeat (first|(refine G_id ?_;first|refine Zah ?_|refine Zac rfl rfl ?_)|(refine X_id ?_;first|(refine Zal 36 rfl rfl rfl rfl rfl (keys11_nil _) ?_;rintro _ _ ⟨rfl,rfl⟩)|refine X_yl (Zad rfl rfl) rfl rfl ?_|refine X_yl (Zab rfl rfl) rfl rfl ?_|refine X_yl (Zbi rfl rfl) rfl rfl ?_|refine X_yl (Zck rfl rfl rfl (by omega)) rfl rfl ?_)|(refine C_id ?_;first|refine Zaj ?_|refine Zaa ?_|refine Za0 ?_|refine Zam rfl ?_)|(refine E_id ?_;first|refine Zae ?_|refine Zar ?_|refine Zcy rfl (Zao rfl) (Zao rfl) (Ret.mk ?_)))
 exact ⟨rfl,rfl⟩
theorem cwhole_nil (W : World) : Calls Tryz.prog 21 #[.pointer none] W (Ret fun v w => v = .tuple #[.int .i64 0,.bool false] ∧ W = w) := by
 refine Zaq Tryz.func21 rfl Tryz.ntmps21 rfl ?_
 repeat (first|(refine G_id ?_;first|refine Zah ?_|refine Zac rfl rfl ?_)|(refine X_id ?_;first|(refine Zal 36 rfl rfl rfl rfl rfl (keys11_nil _) ?_;rintro _ _ ⟨rfl,rfl⟩)|refine X_yl (Zad rfl rfl) rfl rfl ?_|refine X_yl (Zab rfl rfl) rfl rfl ?_|refine X_yl (Zbi rfl rfl) rfl rfl ?_|refine X_yl (Zck rfl rfl rfl (by omega)) rfl rfl ?_)|(refine C_id ?_;first|refine Zaj ?_|refine Zaa ?_|refine Za0 ?_|refine Zam rfl ?_)|(refine E_id ?_;first|refine Zae ?_|refine Zar ?_|refine Zcy rfl (Zao rfl) (Zao rfl) (Ret.mk ?_)))
 exact ⟨rfl,rfl⟩
theorem cadd_nil (v : Value) (W : World) : Calls Tryz.prog 19 #[.pointer none,v] W (Ret fun v w => v = .tuple #[.int .i64 0,.int .i64 16] ∧ W = w) := by
 refine Zaq Tryz.func19 rfl Tryz.ntmps19 rfl ?_
 repeat (first|(refine G_id ?_;first|refine Zah ?_|refine Zac rfl rfl ?_)|(refine X_id ?_;first|refine X_yl (Zad rfl rfl) rfl rfl ?_|refine X_yl (Zab rfl rfl) rfl rfl ?_|refine X_yl (Zc7 rfl rfl rfl) rfl rfl ?_)|(refine C_id ?_;first|refine Zaj ?_|refine Zaa ?_|refine Za0 ?_|refine Zam rfl ?_)|(refine E_id ?_;first|refine Zae ?_|refine Zar ?_|refine Zcy rfl (Zao rfl) (Zao rfl) (Ret.mk ?_)))
 exact ⟨rfl,rfl⟩
theorem cget_nil (v : Value) (W : World) : Calls Tryz.prog 20 #[.pointer none,v] W (Ret fun v w => v = .tuple #[.slice none 0 0,.int .i64 16] ∧ W = w) := by
 refine Zaq Tryz.func20 rfl Tryz.ntmps20 rfl ?_
 repeat (first|(refine G_id ?_;first|refine Zah ?_|refine Zac rfl rfl ?_)|(refine X_id ?_;first|refine X_yl (Zad rfl rfl) rfl rfl ?_|refine X_yl (Zab rfl rfl) rfl rfl ?_|refine X_yl (Zc7 rfl rfl rfl) rfl rfl ?_)|(refine C_id ?_;first|refine Zaj ?_|refine Zaa ?_|refine Zat ?_|refine Za0 ?_|refine Zam rfl ?_)|(refine E_id ?_;first|refine Zae ?_|refine Zar ?_|refine Zbe ?_|refine Zcy rfl (Zao rfl) (Zao rfl) (Ret.mk ?_)))
 exact ⟨rfl,rfl⟩
theorem clen_nil (W : World) : Calls Tryz.prog 22 #[.pointer none] W (Ret fun v w => v = .int .i64 0 ∧ W = w) := by
 refine Zaq Tryz.func22 rfl Tryz.ntmps22 rfl ?_
 repeat (first|(refine G_id ?_;first|refine Zah ?_|refine Zac rfl rfl ?_)|(refine X_id ?_;first|refine X_yl (Zad rfl rfl) rfl rfl ?_|refine X_yl (Zab rfl rfl) rfl rfl ?_|refine X_yl (Zc7 rfl rfl rfl) rfl rfl ?_)|(refine C_id ?_;first|refine Zaj ?_|refine Zaa ?_|refine Za0 ?_|refine Zam rfl ?_)|(refine E_id ?_;first|refine Zae ?_|refine Zar ?_|refine Zax rfl (Zao rfl) (Ret.mk ?_)))
 exact ⟨rfl,rfl⟩
theorem call_nil (W : World) : Calls Tryz.prog 24 #[.pointer none] W (Ret fun v w => v = .slice none 0 0 ∧ St W noF [] w) := by
 have hS := St.start W
 refine Zaq Tryz.func24 rfl Tryz.ntmps24 rfl ?_
 repeat (first|(refine G_id ?_;first|refine Zah ?_|refine Zac rfl rfl ?_)|(refine X_id ?_;first|(refine Zal 22 rfl rfl rfl rfl rfl (clen_nil _) ?_;rintro _ _ ⟨rfl,rfl⟩)|refine X_yl (Zad rfl rfl) rfl rfl ?_|refine X_yl (Zab rfl rfl) rfl rfl ?_)|(refine C_id ?_;first|refine Zaj ?_|refine Zaa ?_|refine Zat ?_)|(refine E_id ?_;first|refine Zae ?_))
 refine Zb8 (α := Unit) (fun _ => [(3,.slice none 0 0),(6,.int .i64 0),(7,.int .i64 0)]) (fun _ w => St W noF [] w) (fun _ => 0) () ⟨rfl,rfl,rfl,trivial⟩ hS ?_
 clear hS
 rintro ⟨⟩ w hS
 repeat (first|(refine G_id ?_;first|refine Zah ?_|refine Zac rfl rfl ?_)|(refine X_id ?_;first|refine X_yl (Zad rfl rfl) rfl rfl ?_|refine X_yl (Zab rfl rfl) rfl rfl ?_|refine X_yl (Za8 rfl rfl rfl (by omega)) rfl rfl ?_)|(refine C_id ?_;first|refine Zaj ?_|refine Zaa ?_|refine Za0 ?_|refine Zb2 ?_|refine Zak rfl ?_)|(refine E_id ?_;first|refine Zae ?_|refine Zaw ?_|refine Za1 ?_|refine Zax rfl (Zao rfl) (Ret.mk ?_)))
 exact ⟨rfl,hS.drops⟩
theorem chead_nil (rd fs : List Int) (W : World) (hG : Gl W noF rd fs) : Calls Tryz.prog 23 #[.pointer none] W (Ret fun v w => v = .agg (bv (Zfc rd fs chainB)).toArray ∧ St W noF [] w) := by
 have hS := St.start W
 have hl32 : LenO (bv (Zfc rd fs chainB)) 32 := ⟨by rw [Zbw]; exact Zee _ _ _⟩
 refine Zaq Tryz.func23 rfl Tryz.ntmps23 rfl ?_
 repeat (first|(refine G_id ?_;first|refine Zah ?_|refine Zac rfl rfl ?_)|(refine X_id ?_;first|(refine Zbn 11 rfl rfl rfl rfl rfl hS (start_ rd fs _ (hG.mono fun r hr => (hr.rd hS).ro)) ?_;rintro _ _ rfl hS)|refine X_yl (Zad rfl rfl) rfl rfl ?_|refine X_yl (Zc7 rfl rfl rfl) rfl rfl ?_|refine Za2 rfl rfl rfl rfl hS (fun _ hS _ => ?_)|refine Zbc rfl rfl rfl hS (fun _ _ hS _ => ?_))|(refine C_id ?_;first|refine Zaj ?_|refine Zaa ?_|refine Za0 ?_|refine Zam rfl ?_)|(refine E_id ?_;first|refine Zae ?_|refine Zar ?_|refine Zax rfl (by first|exact Zao rfl|exact Zay rfl (Za5 hS.cell)|exact Zay rfl (Za4 hS.cellsN)) (Ret.mk ?_)))
 exact ⟨rfl,hS.drops⟩
theorem known11_ (W : World) (hG : Gl W noF roundL firstL) : Calls Tryz.prog 15 #[] W (Ret fun v w => v = .bool true ∧ St W noF [] w) := Cl.calls_of_runD Cl.run11 W hG
theorem chainNil_ (a : Option Addr) (n c : Nat) (W : World) (hG : Gl W noF roundL firstL) : Calls Tryz.prog 6 #[.slice a n c] W (Ret fun v w => v = .bool true ∧ St W noF [] w) := by
 have hS := St.start W
 have hl32 : LenO (bv (Zfc roundL firstL chainB)) 32 := ⟨by rw [Zbw]; exact Zee _ _ _⟩
 have hd := Zee roundL firstL chainB
 refine Zaq Tryz.func6 rfl Tryz.ntmps6 rfl ?_
 repeat (first|(refine G_id ?_;first|refine Zah ?_|refine Zac rfl rfl ?_|refine Zcp rfl rfl rfl rfl ?_)|(refine X_id ?_;first|(refine Zbn 15 rfl rfl rfl rfl rfl hS (known11_ _ (hG.mono fun r hr => (hr.rd hS).ro)) ?_;rintro _ _ rfl hS)|(refine Zbn 23 rfl rfl rfl rfl rfl hS (chead_nil roundL firstL _ (hG.mono fun r hr => (hr.rd hS).ro)) ?_;rintro _ _ rfl hS)|(refine Zbn 11 rfl rfl rfl rfl rfl hS (start_ roundL firstL _ (hG.mono fun r hr => (hr.rd hS).ro)) ?_;rintro _ _ rfl hS)|(refine Zal 18 rfl rfl rfl rfl rfl (copen_nil _) ?_;rintro _ _ ⟨rfl,rfl⟩)|(refine Zal 19 rfl rfl rfl rfl rfl (cadd_nil _ _) ?_;rintro _ _ ⟨rfl,rfl⟩)|(refine Zal 20 rfl rfl rfl rfl rfl (cget_nil _ _) ?_;rintro _ _ ⟨rfl,rfl⟩)|(refine Zal 21 rfl rfl rfl rfl rfl (cwhole_nil _) ?_;rintro _ _ ⟨rfl,rfl⟩)|(refine Zal 22 rfl rfl rfl rfl rfl (clen_nil _) ?_;rintro _ _ ⟨rfl,rfl⟩)|refine X_yl (Zad rfl rfl) rfl rfl ?_|refine X_yl (Zab rfl rfl) rfl rfl ?_|refine X_yl (Zbi rfl rfl) rfl rfl ?_|refine X_yl (Zbp rfl rfl rfl) rfl rfl ?_|refine X_yl (Zb5 rfl rfl) rfl rfl ?_|refine X_yl (Zdq rfl rfl rfl (by omega)) rfl rfl ?_|refine Zbb rfl rfl rfl rfl rfl rfl rfl rfl hS (fun _ _ hS _ => ?_))|(refine C_id ?_;first|refine Zaj ?_|refine Zaa ?_)|(refine E_id ?_;first|refine Zae ?_))
 refine X_yl (Yl_eqlArr rfl rfl rfl hd hd) rfl rfl ?_
 rw [decide_eq_true rfl]
 repeat (first|(refine G_id ?_;first|refine Zah ?_|refine Zac rfl rfl ?_|refine Zcp rfl rfl rfl rfl ?_)|(refine X_id ?_;first|(refine Zbn 24 rfl rfl rfl rfl rfl hS (call_nil _) ?_;rintro _ _ rfl hS)|refine X_yl (Zad rfl rfl) rfl rfl ?_|refine X_yl (Zab rfl rfl) rfl rfl ?_|refine X_yl (Zbp rfl rfl rfl) rfl rfl ?_|refine X_yl (Zby rfl rfl) rfl rfl ?_|refine X_yl (Zdq rfl rfl rfl (by omega)) rfl rfl ?_)|(refine C_id ?_;first|refine Za0 ?_)|(refine E_id ?_;first|refine Zae ?_|refine Zax rfl (Zao rfl) (Ret.mk ?_)))
 exact ⟨rfl,hS.drops⟩
end Cr
