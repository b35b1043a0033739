/-
  Package audit: Of and Verify of a change that holds so many records; Head; what the document says of a query.
  creelref05.Name says nameOk.
  creelref27.Check: what is wrong with a record (rchk),the document's.
  Layer 27: records compared; the law's Of; what the document says of a query.
  The builtin min. Over any program.
  How long a leaf's bytes are.
  Layer 27: the laws' helpers cut and To; how long a record's bytes are.
  The law AuditNotes: what it computes.
  A law's arguments,opened: bytes,lists of writes. What is read of them,by the reading that the row gives.
  A law's argument,opened: a slice of structs,whatever their fields; an array of bytes.
  Layer 27's record as an argument,opened.
  The argument of the audit's laws,opened: a slice of records.
-/
import Derived.Test.YtpbgaojjlepkcaaGreatDoorAno15
import Derived.Test.YtpbgaojjlepkcaaGreatDoorAno4
import Derived.Test.YtpbgaojjlepkcaaGreatDoorAno6
import Derived.KernelRfl
import Derived.Test.YtpbgaojjlepkcaaGreatDoorAno3
import Derived.Test.YtpbgaojjlepkcaaGreatDoorAno5
import Derived.Deep.SlicePairs
import Derived.Carry
import Derived.OpenShut
namespace Cr
open Go Go.Proofs
set_option maxRecDepth 100000
set_option maxHeartbeats 64000000
attribute [local irreducible] Calls

section
variable {c f tp : Nat} {b : Int} {T : Int → Option Nd} {X : List RowD}
theorem aof_ (rd fs : List Int) (A : List Rec) (hA : ∀ r ∈ A,rchk r = 0) (h7 : A.length ≤ 7) (W : World) (F : Nat → Prop) (hT : TreeRo W F f tp 10 b T) (hG : Lg W F) (hD : Gl W F rd fs) (hSp : Sp W F) (hS : St W F [chR c f b T (Nt (trV (Za5 rd fs (Zar A)))) X] W) :
  Calls Tryz.prog 18 #[.pointer (some ⟨c,0,none⟩)] W (Ret fun v w => ∃ (ax x tb : Nat) (z : AuZ),v = .tuple #[.pointer (some ⟨ax,0,none⟩),.int .i64 0] ∧ z.A = A ∧ z.Ok ∧ (∀ y ∈ X,y ∈ z.X) ∧ St W F (pts tb (tbC c logN) :: z.res rd fs ax x tb c f b T) w) := by
 have hel := Zfb A
 have hsh := Zfp hA
 refine Zab Tryz.func18 rfl Tryz.ntmps18 rfl ?_
 repeat (first|refine Yed ?_|refine Yer ?_|refine Yee ?_|refine Yab ?_)
 refine Zaa _ rfl rfl rfl rfl rfl (tof_ c logN Zrt _) ?_
 rintro _ w ⟨tb,rfl,hS'⟩
 replace hS := hS.plus hS';clear hS';have hS : St W F [pts tb (tbC c logN),chR c f b T (Nt (trV (Za5 rd fs (Zar A)))) X] w := hS.took
 repeat (first|refine Yed ?_|refine Yfs ?_|refine Yeq ?_|refine Yab ?_)
 obtain ⟨_,hcc,hr1,hw,hbk⟩ := hS.call [false,true]
 refine Zaa _ rfl rfl rfl rfl rfl (Zxi rd fs (Zar A) (by omega) hsh tb _ _ (hT.mono hw) (hG.mono hw) (hD.mono hw) (hr1 (pts tb (tbC c logN)) (by simp)) hcc) ?_
 rintro _ w0 ⟨x,ra,rc,L,X0,rfl,hX0,hTL,hBL,hrc,hS⟩
 replace hS := hbk hS
 clear hbk hw hcc hr1;have hLl : L.length = (Zar A).length := by rw [← hTL]; simp [Zay]
 have hL4 : ∀ y ∈ L,y.s.length ≤ 400 := fun y hy => hsh y.s (by rw [← hTL]; exact List.mem_map_of_mem hy)
 have hm : (Zat rd fs (Zar A) (Zar A).length).length = 32 := Zby _ _ _ _
 have hcl := fun W' h1 h2 => Zxm x (Zat rd fs (Zar A) (Zar A).length) hm tb ra rc L W' (by omega) (fun y hy => by have := hL4 y hy; omega) h1 h2
 rw [hLl] at hcl;have hrl := Zkn hA
 repeat (first|refine Yed ?_|refine Yfs ?_|refine Yeq ?_|refine Yab ?_)
 refine Zaa _ rfl rfl rfl rfl rfl (hcl _ (hS.rd (r := pts x (chnC (Zar A).length (Zat rd fs (Zar A) (Zar A).length) tb ra rc)) (by simp)).ro ((hBL.bss (hS.rd (r := own 35 1 ra rc (L.map Bs.val)) (by simp)).ro (hS.rd (r := chR c f b T (Nt (trV (Za5 rd fs (Zar A)))) X0) (by simp)).ro.ch))) ?_
 rintro _ w ⟨a1,q1,M1,Y1,rfl,hTM,hBM,hq1,hS'⟩
 replace hS := hS.plus hS';clear hS' hcl;have hMl : M1.length = (Zar A).length := by rw [← hTL,← hTM]; simp [Zay]
 have hM4 : ∀ y ∈ M1,y.s.length ≤ 400 := fun y hy => hsh y.s (by rw [← hTL,← hTM]; exact List.mem_map_of_mem hy)
 have hrd := fun W' h0 h1 h2 => Zxs a1 q1 M1 W' h0 h1 h2 hBM.cap (fun y hy => by have := hM4 y hy; omega) (by omega)
 rw [hMl,hTM,hTL,hrl] at hrd;repeat (first|refine Yaa ?_)
 refine Zaa _ rfl rfl rfl rfl rfl (hrd _ (hG.at_ hS) (hSp.at_ hS) (hBM.bss (hS.rd (r := own 35 1 a1 q1 (M1.map Bs.val)) (by simp)).ro (hS.rd (r := bag Y1) (by simp)).ro)) ?_
 rintro _ w ⟨la,lc,rfl,hlc,hS'⟩
 replace hS := hS.plus hS';clear hS' hrd;repeat (first|refine Yed ?_|(refine X_id ?_;first|refine Yaf ?_|refine Yag ?_|refine Yax ?_|refine Ya6 ?_|refine Ybk ?_|refine Ya5 (fun _ _ hS _ => ?_))|refine Yfd ?_|refine Yey ?_)
 rename_i ax _ _;refine ⟨ax,x,tb,⟨A,la,lc,ra,rc,L,X0⟩,rfl,rfl,⟨hTL,hBL,hA,h7,by rw [← hel]; exact hrc,hlc⟩,hX0,?_⟩
 have hS : St W F [pts tb (tbC c logN),pts ax (audC x la A.length lc),own 62 5 la lc (Zbk A),pts x (chnC (Zar A).length (Zat rd fs (Zar A) (Zar A).length) tb ra rc),own 35 1 ra rc (L.map Bs.val),chR c f b T (Nt (trV (Za5 rd fs (Zar A)))) X0] _ := hS.took
 exact hS
theorem Z0l (rd fs : List Int) (A : List Rec) (hA : ∀ r ∈ A,rchk r = 0) (h7 : A.length ≤ 7) (W : World) (F : Nat → Prop) (hT : TreeRo W F f tp 10 b T) (hG : Lg W F) (hD : Gl W F rd fs) (hSp : Sp W F) (hS : St W F [chR c f b T (Nt (trV (Za5 rd fs (Zar A)))) X] W) :
  Calls Tryz.prog 32 #[.pointer (some ⟨c,0,none⟩)] W (Ret fun v w => ∃ X',v = .tuple #[.int .i64 (A.length : Nat),.int .i64 0] ∧ (∀ y ∈ X,y ∈ X') ∧ St W F [chR c f b T (Nt (trV (Za5 rd fs (Zar A)))) X'] w) := by
 have hel := Zfb A
 have hsh := Zfp hA
 refine Zab Tryz.func32 rfl Tryz.ntmps32 rfl ?_
 repeat (first|refine Yed ?_|refine Yer ?_|refine Yee ?_|refine Yab ?_)
 refine Zaa _ rfl rfl rfl rfl rfl (tof_ c logN Zrt _) ?_
 rintro _ w ⟨tb,rfl,hS'⟩
 replace hS := hS.plus hS';clear hS';have hS : St W F [pts tb (tbC c logN),chR c f b T (Nt (trV (Za5 rd fs (Zar A)))) X] w := hS.took
 repeat (first|refine Yed ?_|refine Yfs ?_|refine Yeq ?_|refine Yab ?_)
 obtain ⟨_,hcc,hr1,hw,hbk⟩ := hS.call [false,true]
 refine Zaa _ rfl rfl rfl rfl rfl (Z3a rd fs (Zar A) (by omega) hsh tb _ _ (hT.mono hw) (hG.mono hw) (hD.mono hw) (hr1 (pts tb (tbC c logN)) (by simp)) hcc) ?_
 rintro _ w ⟨X1,rfl,hX1,hS⟩
 replace hS := hbk hS
 clear hbk hw hcc hr1;rw [hel];repeat (first|refine Yed ?_|refine Yaf ?_|refine Yag ?_|refine Yax ?_|refine Ybe ?_|refine Yeq ?_|refine Yab ?_)
 have hS : St W F [pts tb (tbC c logN),chR c f b T (Nt (trV (Za5 rd fs (Zar A)))) X1] w := hS.took
 obtain ⟨_,hcc,hr1,hw,hbk⟩ := hS.call [false,true]
 refine Zaa _ rfl rfl rfl rfl rfl (Zxi rd fs (Zar A) (by omega) hsh tb _ _ (hT.mono hw) (hG.mono hw) (hD.mono hw) (hr1 (pts tb (tbC c logN)) (by simp)) hcc) ?_
 rintro _ w0 ⟨x,ra,rc,L,X0,rfl,hX0,hTL,hBL,hrc,hS⟩
 replace hS := hbk hS
 clear hbk hw hcc hr1;have hLl : L.length = (Zar A).length := by rw [← hTL]; simp [Zay]
 have hL4 : ∀ y ∈ L,y.s.length ≤ 400 := fun y hy => hsh y.s (by rw [← hTL]; exact List.mem_map_of_mem hy)
 have hm : (Zat rd fs (Zar A) (Zar A).length).length = 32 := Zby _ _ _ _
 have hcl := fun W' h1 h2 => Zxm x (Zat rd fs (Zar A) (Zar A).length) hm tb ra rc L W' (by omega) (fun y hy => by have := hL4 y hy; omega) h1 h2
 rw [hLl] at hcl;have hrl := Zkn hA
 repeat (first|refine Yed ?_|refine Yfs ?_|refine Yeq ?_|refine Yab ?_)
 refine Zaa _ rfl rfl rfl rfl rfl (hcl _ (hS.rd (r := pts x (chnC (Zar A).length (Zat rd fs (Zar A) (Zar A).length) tb ra rc)) (by simp)).ro ((hBL.bss (hS.rd (r := own 35 1 ra rc (L.map Bs.val)) (by simp)).ro (hS.rd (r := chR c f b T (Nt (trV (Za5 rd fs (Zar A)))) X0) (by simp)).ro.ch))) ?_
 rintro _ w ⟨a1,q1,M1,Y1,rfl,hTM,hBM,hq1,hS'⟩
 replace hS := hS.plus hS';clear hS' hcl;have hMl : M1.length = (Zar A).length := by rw [← hTL,← hTM]; simp [Zay]
 have hM4 : ∀ y ∈ M1,y.s.length ≤ 400 := fun y hy => hsh y.s (by rw [← hTL,← hTM]; exact List.mem_map_of_mem hy)
 have hrd := fun W' h0 h1 h2 => Zxs a1 q1 M1 W' h0 h1 h2 hBM.cap (fun y hy => by have := hM4 y hy; omega) (by omega)
 rw [hMl,hTM,hTL,hrl] at hrd;repeat (first|refine Yaa ?_)
 refine Zaa _ rfl rfl rfl rfl rfl (hrd _ (hG.at_ hS) (hSp.at_ hS) (hBM.bss (hS.rd (r := own 35 1 a1 q1 (M1.map Bs.val)) (by simp)).ro (hS.rd (r := bag Y1) (by simp)).ro)) ?_
 rintro _ w ⟨la,lc,rfl,hlc,hS'⟩
 replace hS := hS.plus hS';clear hS' hrd;repeat (first|refine Yed ?_|refine Yex ?_|refine Ye3 ?_|refine Yey ?_)
 exact ⟨X0,rfl,fun y hy => hX0 y (hX1 y hy),hS.took⟩
end
theorem Zxw (ax x : Nat) (la : Option Addr) (n lc m : Nat) (h : List UInt8) (hm : h.length = 32) (tb : Nat) (ra : Option Addr) (rc : Nat) (W : World) (hx : Ro W noF (pts ax (audC x la n lc))) (hh : Ro W noF (pts x (chnC m h tb ra rc))) :
  Calls Tryz.prog 33 #[.pointer (some ⟨ax,0,none⟩)] W (Ret fun v w => v = .agg (bv h).toArray ∧ St W noF [] w) := by
 have hc := hx
 have hl32 : LenO (bv h) 32 := ⟨by rw [Zah]; exact hm⟩
 have hS := St.start W
 refine Zab Tryz.func33 rfl Tryz.ntmps33 rfl ?_
 repeat (first|refine Yed ?_|(refine X_id ?_;first|refine Yaf ?_|refine Yau ?_|refine Yan ?_|refine Ybs ?_|refine Yar (fun _ _ hS _ => ?_)|refine Yca ?_)|refine Yeq ?_|refine Yab ?_)
 refine Zaa _ rfl rfl rfl rfl rfl (Z5n x m h hm tb ra rc _ (hh.rd hS)) ?_
 rintro _ w ⟨rfl,hS'⟩
 replace hS := hS.plus hS';clear hS';repeat (first|refine Yed ?_|refine Yao (fun _ hS _ => ?_)|refine Yah ?_|refine Yab ?_|refine Ybw ?_)
 exact ⟨rfl,hS.drops⟩
def may : List UInt8 := [97,98,99,100,101,102,103,104,105,106,107,108,109,110,111,112,113,114,115,116,117,118,119,120,121,122,48,49,50,51,52,53,54,55,56,57,46,45,95]
theorem Z2r : ∀ n : Fin 256,(UInt8.ofNat n.val ∈ may ↔ okC (UInt8.ofNat n.val)) := by decide +kernel
theorem Z04 (x : UInt8) : x ∈ may ↔ okC x := by
 have h := Z2r ⟨x.toNat,x.toNat_lt⟩
 simpa using h
theorem Z00 (s : List UInt8) (W : World) : Calls Tryz.prog 68 #[.string (str s)] W (Ret fun v w => v = .bool (decide (nameOk s)) ∧ St W noF [] w) := by
 have hS := St.start W
 have hz := Zcd s
 have hzm : (str may).size = 39 := rfl
 by_cases h1 : s.length < 1
 ·rw [Zdj (.inl h1)]
  refine Zab Tryz.func68 rfl Tryz.ntmps68 rfl ?_
  repeat (first|refine Yev ?_|(refine X_id ?_;first|refine Yaf ?_|refine Yag ?_|refine Ya7 ?_|refine Yb0 ?_|refine Ybj ?_)|refine Yeo ?_|refine Yep ?_)
  exact ⟨rfl,hS⟩
 by_cases h2 : 24 < s.length
 ·rw [Zdj (.inr (.inl h2))]
  refine Zab Tryz.func68 rfl Tryz.ntmps68 rfl ?_
  repeat (first|refine Ye0 ?_|(refine X_id ?_;first|refine Yaf ?_|refine Yag ?_|refine Ya7 ?_|refine Yaz ?_|refine Yb0 ?_|refine Ybh ?_|refine Ybx ?_)|refine Yeo ?_|refine Yep ?_)
  exact ⟨rfl,hS⟩
 by_cases h3 : s = [46]
 ·rw [Zdj (.inr (.inr (.inl h3)))]
  refine Zab Tryz.func68 rfl Tryz.ntmps68 rfl ?_
  repeat (first|refine Ye0 ?_|(refine X_id ?_;first|refine Yaf ?_|refine Yag ?_|refine Ya7 ?_|refine Yaz ?_|refine Yb0 ?_|refine Ybh ?_|refine Ybt ?_|refine Yb7 ?_)|refine Yeo ?_|refine Yep ?_)
  exact ⟨rfl,hS⟩
 by_cases h4 : s = [46,46]
 ·rw [Zdj (.inr (.inr (.inr h4)))]
  refine Zab Tryz.func68 rfl Tryz.ntmps68 rfl ?_
  repeat (first|refine Yes ?_|(refine X_id ?_;first|refine Yaf ?_|refine Yag ?_|refine Yaz ?_|refine Yb0 ?_|refine Ybh ?_|refine Ybt ?_|refine Yb7 ?_|refine Yb8 ?_)|refine Yeo ?_|refine Yep ?_)
  exact ⟨rfl,hS⟩
 refine Zab Tryz.func68 rfl Tryz.ntmps68 rfl ?_
 repeat (first|refine Yes ?_|(refine X_id ?_;first|refine Yaf ?_|refine Yag ?_|refine Yaz ?_|refine Yb0 ?_|refine Ybh ?_|refine Ybt ?_|refine Yb8 ?_)|refine Yet ?_|refine Yab ?_)
 refine Zbw (α := Unit) (fun _ => []) (fun _ w => (∀ c ∈ s,okC c) ∧ St W noF [] w) ?_ ?_
 ·refine Zak (α := Nat) (fun i => [(0,.string (str s)),(3,.string (str may)),(4,.int .i64 (i : Nat))]) (fun i w => i ≤ s.length ∧ (∀ c ∈ s.take i,okC c) ∧ St W noF [] w) (fun i => s.length - i) 0 ⟨rfl,rfl,rfl,trivial⟩ ⟨Nat.zero_le _,fun c hc => by simp at hc,hS⟩ ?_
  clear hS;rintro i w ⟨hi,hok,hS⟩
  by_cases hlt : i < s.length
  ·obtain ⟨x,hx0⟩ : ∃ x,s[i]? = some x := ⟨_,List.getElem?_eq_getElem hlt⟩
   have hx : s[((i : Nat) : Int).toNat]? = some x := hx0
   repeat (first|refine Yed ?_|refine Yaf ?_|refine Yag ?_|refine Yb0 ?_|refine Ya2 ?_|refine Yeh ?_|refine Yab ?_)
   refine Zbw (α := Unit) (fun _ => [(0,.string (str s)),(3,.string (str may)),(4,.int .i64 (i : Nat)),(5,.bool (decide (x ∈ may)))]) (fun _ w => St W noF [] w) ?_ ?_
   ·refine Zak (α := Nat × Bool) (fun z => [(0,.string (str s)),(3,.string (str may)),(4,.int .i64 (i : Nat)),(5,.bool z.2),(6,.int .i64 (z.1 : Nat))]) (fun z w => z.1 ≤ 39 ∧ z.2 = decide (x ∈ may.take z.1) ∧ St W noF [] w) (fun z => 39 - z.1) (0,false) ⟨rfl,rfl,rfl,rfl,rfl,trivial⟩ ⟨Nat.zero_le _,by simp,hS⟩ ?_
    clear hS;rintro ⟨k,fd⟩ w ⟨hk,hfd,hS⟩
    simp only at hk hfd hS
    by_cases hkl : k < 39
    ·obtain ⟨m,hm0⟩ : ∃ m,may[k]? = some m := ⟨_,List.getElem?_eq_getElem hkl⟩
     have hm : may[((k : Nat) : Int).toNat]? = some m := hm0
     have hnext : decide (x ∈ may.take (k + 1)) = (fd || decide (m = x)) := by
      rw [hfd,List.take_add_one,hm0];by_cases e1 : x ∈ may.take k <;> by_cases e2 : m = x
      ·simp [e1]
      ·simp [e1]
      ·simp [e2]
      ·simp [e1,e2]; exact fun h => e2 h.symm
     cases fd with
     | true =>
      repeat (first|refine Yed ?_|refine Yaf ?_|refine Yb0 ?_|refine Ya2 ?_|refine Yeh ?_|refine Yab ?_)
      refine Zam (.s 0 (.s 1 (.s 2 (.s 3 (.s 4 (.s 5 (.s 6 (.s 7 (.s 8 (.s 9 (.s 10 .nil))))))))))) mixed (by kernel_rfl) rfl ?_
      have hS := hS.drew
      repeat (first|refine Yed ?_|refine Yew ?_|refine Yad ?_|refine Yel ?_|(refine Zae ?_;first|refine Yay ?_|refine Ya4 ?_|refine Ybl ?_|refine Ycj ?_|refine Yck ?_))
      exact Zaf (z := (k,true)) (k + 1,true) ⟨rfl,rfl,rfl,rfl,rfl,trivial⟩ ⟨hkl,by rw [hnext]; rfl,hS⟩ (by dsimp only; omega)
     | false =>
      by_cases he : m = x
      ·have he' : m.toNat = x.toNat := by rw [he]
       repeat (first|refine Yed ?_|refine Yaf ?_|refine Yb0 ?_|refine Ya2 ?_|refine Yeh ?_|refine Yab ?_)
       refine Zam (.s 0 (.s 1 (.s 2 (.s 3 (.s 4 (.s 5 (.s 6 (.s 7 (.s 8 (.s 9 (.s 10 .nil))))))))))) mixed (by kernel_rfl) rfl ?_
       have hS := hS.drew
       repeat (first|refine Yed ?_|refine Yew ?_|refine Yad ?_|refine Yel ?_|(refine Zae ?_;first|refine Yay ?_|refine Ya4 ?_|refine Ybl ?_|refine Yb6 ?_|refine Yb2 ?_|refine Zbt rfl rfl rfl rfl (fun _ => Zom rfl rfl rfl (by omega)) rfl rfl ?_|refine Yec ?_))
       exact Zaf (z := (k,false)) (k + 1,true) ⟨rfl,rfl,rfl,rfl,rfl,trivial⟩ ⟨hkl,by rw [hnext,decide_eq_true he]; rfl,hS⟩ (by dsimp only; omega)
      ·have he' : ¬ m.toNat = x.toNat := fun h => he (UInt8.toNat_inj.1 h)
       repeat (first|refine Yed ?_|refine Yaf ?_|refine Yb0 ?_|refine Ya2 ?_|refine Yeh ?_|refine Yab ?_)
       refine Zam (.s 0 (.s 1 (.s 2 (.s 3 (.s 4 (.s 5 (.s 6 (.s 7 (.s 8 (.s 9 (.s 10 .nil))))))))))) mixed (by kernel_rfl) rfl ?_
       have hS := hS.drew
       repeat (first|refine Yed ?_|refine Yew ?_|refine Yad ?_|refine Yel ?_|(refine Zae ?_;first|refine Yay ?_|refine Ya4 ?_|refine Ybl ?_|refine Yb6 ?_|refine Yb2 ?_|refine Zbt rfl rfl rfl rfl (fun _ => Zic rfl rfl rfl (by omega)) rfl rfl ?_|refine Yec ?_))
       exact Zaf (z := (k,false)) (k + 1,false) ⟨rfl,rfl,rfl,rfl,rfl,trivial⟩ ⟨hkl,by rw [hnext,decide_eq_false he]; rfl,hS⟩ (by dsimp only; omega)
    ·repeat (first|refine Yed ?_|refine Yaf ?_|refine Yb0 ?_|refine Ya3 ?_|refine Yeu ?_|refine Yej ?_)
     have e : may.take k = may := List.take_of_length_le (by show 39 ≤ k; omega)
     rw [e] at hfd;subst hfd
     exact Za7 () ⟨rfl,rfl,rfl,rfl,trivial⟩ hS
   ·clear hS
    rintro _ w hS
    by_cases hc : okC x
    ·rw [decide_eq_true ((Z04 x).2 hc)]
     repeat (first|refine Yed ?_|refine Yaf ?_|refine Yag ?_|refine Ybe ?_|refine Ya1 ?_|refine Yeq ?_|refine Yel ?_)
     refine Zaf (z := i) (i + 1) ⟨rfl,rfl,rfl,trivial⟩ ⟨hlt,fun c hc' => ?_,hS⟩ (by omega)
     rw [List.take_add_one,hx0] at hc';rcases List.mem_append.1 hc' with h | h
     ·exact hok c h
     ·obtain rfl : c = x := by simpa using h
      exact hc
    ·rw [decide_eq_false (fun h => hc ((Z04 x).1 h))]
     repeat (first|refine Yed ?_|refine Yaf ?_|refine Yag ?_|refine Ybq ?_|refine Yeo ?_|refine Yez ?_)
     refine ⟨?_,hS⟩
     rw [decide_eq_false (fun q : nameOk s => hc (q.2.2.2.2 x (List.mem_of_getElem? hx0)))]
  ·repeat (first|refine Yed ?_|refine Yaf ?_|refine Yb0 ?_|refine Ya3 ?_|refine Yeu ?_|refine Yej ?_)
   refine Za7 () trivial ⟨?_,hS⟩
   rwa [List.take_of_length_le (by omega)] at hok
 ·clear hS
  rintro _ w ⟨hok,hS⟩
  repeat (first|refine Yed ?_|refine Yag ?_|refine Ye3 ?_|refine Yef ?_)
  refine ⟨?_,hS⟩
  rw [decide_eq_true (show nameOk s from ⟨by omega,by omega,h3,h4,hok⟩)]
theorem Zvn {i : Nat} (h : i < 6) : ∃ s,words6[i]? = some s ∧ (words6.map sv)[i]? = some (.string (str s)) := by
 have h0 : words6[i]? = some words6[i] := List.getElem?_eq_getElem h
 exact ⟨_,h0,by rw [List.getElem?_map,h0]; rfl⟩
theorem Z2c (r : Rec) (W : World) : Calls Tryz.prog 27 #[.agg r.cells.toArray] W (Ret fun v w => v = .int .i64 (rchk r : Nat) ∧ St W noF [] w) := by
 have hS := St.start W
 have hN1 := Z00 r.pub
 have hN2 := Z00 r.pkg
 refine Zab Tryz.func27 rfl Tryz.ntmps27 rfl ?_
 repeat (first|refine Yed ?_|(refine X_id ?_;first|refine Yag ?_|refine Yao (fun _ hS _ => ?_)|refine Ya5 (fun _ _ hS _ => ?_)|refine Yar (fun _ _ hS _ => ?_)|refine X_yl (Zsf rfl rfl rfl rfl rfl) rfl rfl ?_)|refine Yeg ?_|refine Yab ?_)
 rename_i b1 _ _ _ b3 _ _ _ _ _;replace hS : St W noF [pts b3 (.cells (words6.map sv).toArray 146 (0,0)),pts b1 (.cells r.cells.toArray 57 (0,0))] _ := hS
 replace hS := hS.head Zs0
 refine Zbw (α := Unit) (fun _ => [(1,.pointer (some ⟨b1,0,none⟩)),(4,.bool (decide (r.cmd ∈ words6)))]) (fun _ w => St W noF [pts b1 (.cells r.cells.toArray 57 (0,0))] w) ?_ ?_
 ·refine Zak (α := Nat × Bool) (fun z => [(1,.pointer (some ⟨b1,0,none⟩)),(3,.pointer (some ⟨b3,0,none⟩)),(4,.bool z.2),(5,.int .i64 (z.1 : Nat))])
   (fun z w => z.1 ≤ 6 ∧ z.2 = decide (r.cmd ∈ words6.take z.1) ∧ St W noF [row (some ⟨b3,0,none⟩) (words6.map sv),pts b1 (.cells r.cells.toArray 57 (0,0))] w) (fun z => 6 - z.1) (0,false) ⟨rfl,rfl,rfl,rfl,trivial⟩ ⟨Nat.zero_le _,by simp,hS⟩ ?_
  clear hS;rintro ⟨k,fd⟩ w ⟨hk,hfd,hS⟩
  simp only at hk hfd hS
  by_cases hkl : k < 6
  ·obtain ⟨m,hm,hx⟩ := Zvn hkl
   have hnext : decide (r.cmd ∈ words6.take (k + 1)) = (fd || decide (m = r.cmd)) := by
    rw [hfd,List.take_add_one,hm];by_cases e1 : r.cmd ∈ words6.take k <;> by_cases e2 : m = r.cmd
    ·simp [e1]
    ·simp [e1]
    ·simp [e2]
    ·simp [e1,e2]; exact fun h => e2 h.symm
   cases fd with
   | true =>
    repeat (first|refine Yed ?_|refine Yaf ?_|refine Ya2 ?_|refine Yeh ?_|refine Yab ?_)
    refine Zam (.s 0 (.s 1 (.s 2 (.s 3 (.s 4 (.s 5 (.s 6 (.s 7 (.s 8 (.s 9 .nil)))))))))) mixed (by kernel_rfl) rfl ?_
    have hS := hS.drew
    repeat (first|refine Yed ?_|refine Yew ?_|refine Yad ?_|refine Yel ?_|(refine Zae ?_;first|refine Yay ?_|refine Ya4 ?_|refine Ybl ?_|refine Ycj ?_|refine Yck ?_))
    exact Zaf (z := (k,true)) (k + 1,true) ⟨rfl,rfl,rfl,rfl,trivial⟩ ⟨hkl,by rw [hnext]; rfl,hS⟩ (by dsimp only; omega)
   | false =>
    by_cases he : m = r.cmd
    ·repeat (first|refine Yed ?_|refine Yaf ?_|refine Ya2 ?_|refine Yeh ?_|refine Yab ?_)
     refine Zam (.s 0 (.s 1 (.s 2 (.s 3 (.s 4 (.s 5 (.s 6 (.s 7 (.s 8 (.s 9 .nil)))))))))) mixed (by kernel_rfl) rfl ?_
     have hS := hS.drew
     have hcell := (hS.rd (r := row (some ⟨b3,0,none⟩) (words6.map sv)) (by simp)).cellF (o' := 0 + ((k : Nat) : Int).toNat * 1) (by omega) hx
     repeat (first|refine Yed ?_|refine Yew ?_|refine Yad ?_|refine Yel ?_|(refine Zae ?_;first|refine Yay ?_|refine Ya4 ?_|refine Ybl ?_|refine Yb6 ?_|refine Yb2 ?_|refine Ycn ?_|refine Yea ?_|refine Ycw ?_|refine Yeb ?_|refine Zbt rfl rfl rfl rfl (fun _ => Zm1 rfl rfl rfl (by assumption)) rfl rfl ?_))
     exact Zaf (z := (k,false)) (k + 1,true) ⟨rfl,rfl,rfl,rfl,trivial⟩ ⟨hkl,by rw [hnext,decide_eq_true he]; rfl,hS⟩ (by dsimp only; omega)
    ·repeat (first|refine Yed ?_|refine Yaf ?_|refine Ya2 ?_|refine Yeh ?_|refine Yab ?_)
     refine Zam (.s 0 (.s 1 (.s 2 (.s 3 (.s 4 (.s 5 (.s 6 (.s 7 (.s 8 (.s 9 .nil)))))))))) mixed (by kernel_rfl) rfl ?_
     have hS := hS.drew
     have hcell := (hS.rd (r := row (some ⟨b3,0,none⟩) (words6.map sv)) (by simp)).cellF (o' := 0 + ((k : Nat) : Int).toNat * 1) (by omega) hx
     repeat (first|refine Yed ?_|refine Yew ?_|refine Yad ?_|refine Yel ?_|(refine Zae ?_;first|refine Yay ?_|refine Ya4 ?_|refine Ybl ?_|refine Yb6 ?_|refine Yb2 ?_|refine Ycn ?_|refine Yea ?_|refine Ycw ?_|refine Yeb ?_|refine Zbt rfl rfl rfl rfl (fun _ => Zm2 rfl rfl rfl (by assumption)) rfl rfl ?_))
     exact Zaf (z := (k,false)) (k + 1,false) ⟨rfl,rfl,rfl,rfl,trivial⟩ ⟨hkl,by rw [hnext,decide_eq_false he]; rfl,hS⟩ (by dsimp only; omega)
  ·repeat (first|refine Yed ?_|refine Yaf ?_|refine Ya3 ?_|refine Yeu ?_|refine Yej ?_)
   have e : words6.take k = words6 := List.take_of_length_le (by show 6 ≤ k; omega)
   rw [e] at hfd;subst hfd
   exact Za7 () ⟨rfl,rfl,trivial⟩ (hS.pick [1])
 ·clear hS
  rintro _ w hS
  by_cases h1 : r.cmd ∈ words6
  ·rw [decide_eq_true h1]
   have c1 : r.pub = [] ∨ (¬ r.pub = [] ∧ nameOk r.pub) ∨ (¬ r.pub = [] ∧ ¬ nameOk r.pub) := by
    by_cases a : r.pub = []
    ·exact .inl a
    ·by_cases b : nameOk r.pub
     ·exact .inr (.inl ⟨a,b⟩)
     ·exact .inr (.inr ⟨a,b⟩)
   have c2 : r.pkg = [] ∨ (¬ r.pkg = [] ∧ nameOk r.pkg) ∨ (¬ r.pkg = [] ∧ ¬ nameOk r.pkg) := by
    by_cases a : r.pkg = []
    ·exact .inl a
    ·by_cases b : nameOk r.pkg
     ·exact .inr (.inl ⟨a,b⟩)
     ·exact .inr (.inr ⟨a,b⟩)
   have e : Zdp r.pub → Zdp r.pkg → rchk r = if 0 ≤ r.rev ∧ r.rev ≤ 999999 ∧ 0 ≤ r.out ∧ r.out ≤ 19 then 0 else 2 := fun p1 p2 => by unfold rchk; rw [if_pos h1,if_pos ⟨p1,p2⟩]
   rcases c1 with n1 | ⟨n1,q1⟩ | ⟨n1,q1⟩
   case inr.inr =>
    rw [decide_eq_false q1] at hN1;rw [show rchk r = 10 by unfold rchk; rw [if_pos h1,if_neg (fun q => q.1.elim n1 q1)]]
    repeat (first|refine Ye6 ?_|(refine X_id ?_;first|(refine Zad 68 rfl rfl rfl rfl rfl hS (hN1 _) ?_;rintro _ _ rfl hS)|refine Yaf ?_|refine Yag ?_|refine Yan ?_|refine Ya7 ?_|refine Ybe ?_|refine Ybq ?_|refine Yap ?_|refine Ycz ?_)|refine Ye1 ?_|refine Yep ?_)
    exact ⟨rfl,hS.drops⟩
   case' inl => replace e := e (.inl n1)
   case' inr.inl =>
    replace e := e (.inr q1)
    rw [decide_eq_true q1] at hN1
   all_goals
    rcases c2 with n2 | ⟨n2,q2⟩ | ⟨n2,q2⟩
    ·replace e := e (.inl n2)
     repeat' (first | (refine Zad 68 rfl rfl rfl rfl rfl hS (hN1 _) ?_; rintro _ _ rfl hS) | (refine G_id ?_; first | refine Zlo ?_ | refine Zeo rfl rfl ?_ | refine Zsj rfl rfl rfl rfl ?_ | refine G_no rfl rfl rfl rfl rfl rfl ?_) | (refine X_id ?_; first | refine X_yl (Zbz rfl rfl) rfl rfl ?_ | refine X_yl (Za3 rfl rfl) rfl rfl ?_ | refine X_yl (Zc4 rfl rfl rfl) rfl rfl ?_ | refine X_yl (Zgg rfl rfl rfl) rfl rfl ?_ | refine X_yl (Zfg rfl rfl rfl) rfl rfl ?_ | refine X_yl (Zgt rfl rfl) rfl rfl ?_ | refine X_yl (Zji rfl rfl rfl) rfl rfl ?_ | refine X_yl (Zm0 rfl rfl rfl) rfl rfl ?_ | refine X_yl (Zas rfl rfl hS.cell) rfl rfl ?_ | refine X_yl (Zi0 rfl rfl rfl (by assumption)) rfl rfl ?_ | refine X_yl (Ziz rfl rfl rfl (by assumption)) rfl rfl ?_) | (refine C_id ?_; first | refine Zcz ?_ | refine Zav ?_ | refine Zhh ?_ | refine Zeq ?_ | refine Zbu rfl ?_ | refine Zbi rfl ?_) | (refine E_id ?_; first | refine Zc5 ?_ | refine Zcx ?_ | refine Zg4 rfl (Zbj rfl) (Ret.mk ?_)) | (refine Zcs (d := 45) rfl ?_ ?_ <;> intro hd) | (refine Zcs (d := 50) rfl ?_ ?_ <;> intro hd) | (refine Zcs (d := 55) rfl ?_ ?_ <;> intro hd) | (refine Zd3 rfl ?_ ?_ <;> intro hd))
     all_goals
      refine ⟨?_,hS.drops⟩
      rw [e]
      first | (rw [if_pos (by omega)]; rfl) | (rw [if_neg (by omega)]; rfl)
    ·replace e := e (.inr q2)
     rw [decide_eq_true q2] at hN2;repeat' (first | (refine Zad 68 rfl rfl rfl rfl rfl hS (hN1 _) ?_; rintro _ _ rfl hS) | (refine Zad 68 rfl rfl rfl rfl rfl hS (hN2 _) ?_; rintro _ _ rfl hS) | (refine G_id ?_; first | refine Zlo ?_ | refine Zeo rfl rfl ?_ | refine Zsj rfl rfl rfl rfl ?_ | refine G_no rfl rfl rfl rfl rfl rfl ?_) | (refine X_id ?_; first | refine X_yl (Zbz rfl rfl) rfl rfl ?_ | refine X_yl (Za3 rfl rfl) rfl rfl ?_ | refine X_yl (Zc4 rfl rfl rfl) rfl rfl ?_ | refine X_yl (Zgg rfl rfl rfl) rfl rfl ?_ | refine X_yl (Zfg rfl rfl rfl) rfl rfl ?_ | refine X_yl (Zgt rfl rfl) rfl rfl ?_ | refine X_yl (Zji rfl rfl rfl) rfl rfl ?_ | refine X_yl (Zm0 rfl rfl rfl) rfl rfl ?_ | refine X_yl (Zas rfl rfl hS.cell) rfl rfl ?_ | refine X_yl (Zi0 rfl rfl rfl (by assumption)) rfl rfl ?_ | refine X_yl (Ziz rfl rfl rfl (by assumption)) rfl rfl ?_) | (refine C_id ?_; first | refine Zcz ?_ | refine Zav ?_ | refine Zhh ?_ | refine Zeq ?_ | refine Zbu rfl ?_ | refine Zbi rfl ?_) | (refine E_id ?_; first | refine Zc5 ?_ | refine Zcx ?_ | refine Zg4 rfl (Zbj rfl) (Ret.mk ?_)) | (refine Zcs (d := 45) rfl ?_ ?_ <;> intro hd) | (refine Zcs (d := 50) rfl ?_ ?_ <;> intro hd) | (refine Zcs (d := 55) rfl ?_ ?_ <;> intro hd) | (refine Zd3 rfl ?_ ?_ <;> intro hd))
     all_goals
      refine ⟨?_,hS.drops⟩
      rw [e]
      first | (rw [if_pos (by omega)]; rfl) | (rw [if_neg (by omega)]; rfl)
    ·rw [decide_eq_false q2] at hN2
     rw [show rchk r = 10 by unfold rchk; rw [if_pos h1,if_neg (fun q => q.2.elim n2 q2)]]
     repeat (first|refine Ye0 ?_|(refine X_id ?_;first|(refine Zad 68 rfl rfl rfl rfl rfl hS (hN1 _) ?_;rintro _ _ rfl hS)|(refine Zad 68 rfl rfl rfl rfl rfl hS (hN2 _) ?_;rintro _ _ rfl hS)|refine Yaf ?_|refine Yag ?_|refine Yan ?_|refine Ya7 ?_|refine Yaz ?_|refine Ybe ?_|refine Ybq ?_|refine Yap ?_|refine Yc5 ?_|refine Ycz ?_)|refine Ye1 ?_|refine Yep ?_)
     exact ⟨rfl,hS.drops⟩
  ·rw [decide_eq_false h1]
   rw [show rchk r = 1 from if_neg h1];repeat (first|refine Yed ?_|refine Yaf ?_|refine Yag ?_|refine Ybq ?_|refine Yeo ?_|refine Yep ?_)
   exact ⟨rfl,hS.drops⟩
abbrev rcA (a b c : List UInt8) (m n : Int) : List Value := [.string (str a),.string (str b),.string (str c),.int .i64 m,.int .i64 n]
theorem Zum (d : Nat) (w : World) (a0 a1 a2 b0 b1 b2 : List UInt8) (m0 m1 n0 n1 : Int) :
  (Op.equalIn (d + 2) 62 (.agg (rcA a0 a1 a2 m0 m1).toArray) (.agg (rcA b0 b1 b2 n0 n1).toArray)).run Tryz.prog w = .ok (decide (a0 = b0 ∧ a1 = b1 ∧ a2 = b2 ∧ m0 = n0 ∧ m1 = n1)) w := by
 have key : ∀ fs,Tryz.prog.underlying 62 = some (.struct fs) → Tryz.prog.fieldsOf 62 = fs := fun fs h => by unfold Program.fieldsOf; rw [h]
 have hu := Tryz.underlying62
 have hf := key _ hu
 rw [run_equalIn_struct w (d + 1) 62 _ _ (by rw [hf]; exact hu) (by kernel_rfl),hf]
 have hs := fun (a b : List UInt8) => Zv2 (P := Tryz.prog) (w := w) (e := 9) (d := d) a b
 have hi := fun (a b : Int) => run_equalIn_int (P := Tryz.prog) w d 3 .i64 .i64 a b Und.und
 have o1 : ∀ w,(isAgg 9).run Tryz.prog w = .ok false w := One.one
 have o2 : ∀ w,(isAgg 3).run Tryz.prog w = .ok false w := One.one
 have e1 : ∀ a b : Int,(a == b) = decide (a = b) := fun a b => by by_cases h : a = b <;> simp [h]
 simp [Op.eqFields,part,o1,o2,hs,hi,e1]
 by_cases h0 : a0 = b0 <;> by_cases h1 : a1 = b1 <;> by_cases h2 : a2 = b2 <;> by_cases h3 : m0 = n0 <;> by_cases h4 : m1 = n1 <;> simp [h0,h1,h2,h3,h4]
instance nogd_recA : NoGd Tryz.prog 62 := ⟨by kernel_rfl⟩
theorem Zmx {o : Oper} {σ : Env} {w : World} {x y : Operand} {ty : TypeId} (r : Rec) (ho : o.op = .binOp .neq 62 x y ty) (hx : ev σ x = some (.agg r.cells.toArray)) (hy : ev σ y = some (.agg r.cells.toArray)) :
  Yl Tryz.prog o σ w (.bool false) := ⟨fun N ds f hf => by
 have h2 := run_eqGuard_agg (P := Tryz.prog) (w := w) .neq 62 x y r.cells.toArray r.cells.toArray (NoGd.no)
 have h3 := run_neq_struct (P := Tryz.prog) (w := w) 62 r.cells.toArray r.cells.toArray
 have h4 := Zum 9998 w r.cmd r.pub r.pkg r.cmd r.pub r.pkg r.rev r.out r.rev r.out
 simp only [execOp,ho,hf.eval hx,hf.eval hy,Sem.run_bind,h2,h3,h4,Result.andThen_ok]
 simp⟩
theorem Zwi (r : Rec) (W : World) : Calls Tryz.prog 28 #[.agg r.cells.toArray] W (Ret fun v w => v = .agg r.cells.toArray ∧ St W noF [] w) := by
 have hS := St.start W
 refine Zab Tryz.func28 rfl Tryz.ntmps28 rfl ?_
 repeat (first|refine Yed ?_|(refine X_id ?_;first|refine Yan ?_|refine Ybk ?_|refine Yap ?_|refine Yao (fun _ hS _ => ?_)|refine Ya5 (fun _ _ hS _ => ?_)|refine Yar (fun _ _ hS _ => ?_))|refine Ye3 ?_|refine Yab ?_|refine Ybw ?_)
 exact ⟨rfl,hS.drops⟩
theorem Zkm (q r : Rec) (W : World) : Calls Tryz.prog 35 #[.agg q.cells.toArray,.agg r.cells.toArray] W (Ret fun v w => v = .bool (Zdk q r) ∧ St W noF [] w) := by
 have hS := St.start W
 refine Zab Tryz.func35 rfl Tryz.ntmps35 rfl ?_
 refine Z6d (α := Nat × Nat) (fun z => [(2,.pointer (some ⟨z.1,0,none⟩)),(3,.pointer (some ⟨z.2,0,none⟩))]) (fun z w => St W noF [pts z.2 (.cells r.cells.toArray 57 (0,0)),pts z.1 (.cells q.cells.toArray 57 (0,0))] w) ?_ ?_
 ·repeat (first|refine Yed ?_|refine Yag ?_|refine Ya5 (fun _ _ hS _ => ?_)|refine Yad ?_)
  exact Za7 (α := Nat × Nat) (_,_) (by exact ⟨rfl,rfl,trivial⟩) hS
 clear hS;rintro ⟨b1,b2⟩ w hS
 refine Z6d (α := Unit) (fun _ => [(2,.pointer (some ⟨b1,0,none⟩)),(3,.pointer (some ⟨b2,0,none⟩))]) (fun _ w => ((decide (q.cmd = []) || decide (q.cmd = r.cmd)) = true ∧ (decide (q.pub = []) || decide (q.pub = r.pub)) = true) ∧ St W noF [pts b2 (.cells r.cells.toArray 57 (0,0)),pts b1 (.cells q.cells.toArray 57 (0,0))] w) ?_ ?_
 ·by_cases h1 : q.cmd = []
  ·by_cases h2 : q.pub = []
   ·repeat (first|refine Ye0 ?_|(refine X_id ?_;first|refine Yaf ?_|refine Yan ?_|refine Yaz ?_|refine Yap ?_|refine Yc5 ?_)|refine Yeq ?_|refine Yab ?_)
    exact Za7 () ⟨rfl,rfl,trivial⟩ ⟨by simp [h1,h2],hS⟩
   ·by_cases h3 : q.pub = r.pub
    ·repeat (first|refine Ye0 ?_|(refine X_id ?_;first|refine Yaf ?_|refine Yan ?_|refine Ya7 ?_|refine Yaz ?_|refine Yap ?_|refine Yc5 ?_|refine Ycz ?_)|refine Yeq ?_|refine Yab ?_)
     exact Za7 () ⟨rfl,rfl,trivial⟩ ⟨by simp [h1,h3],hS⟩
    ·repeat (first|refine Ye0 ?_|(refine X_id ?_;first|refine Yaf ?_|refine Yag ?_|refine Yan ?_|refine Ya7 ?_|refine Yaz ?_|refine Yap ?_|refine Yc5 ?_|refine Ycz ?_)|refine Yeo ?_|refine Yep ?_)
     exact ⟨by simp [Zdk,h2,h3],hS.drops⟩
  ·by_cases h4 : q.cmd = r.cmd
   ·by_cases h2 : q.pub = []
    ·repeat (first|refine Ye0 ?_|(refine X_id ?_;first|refine Yaf ?_|refine Yan ?_|refine Ya7 ?_|refine Yaz ?_|refine Yap ?_|refine Yc5 ?_|refine Ycz ?_)|refine Yeq ?_|refine Yab ?_)
     exact Za7 () ⟨rfl,rfl,trivial⟩ ⟨by simp [h4,h2],hS⟩
    ·by_cases h3 : q.pub = r.pub
     ·repeat (first|refine Yes ?_|(refine X_id ?_;first|refine Yaf ?_|refine Yan ?_|refine Ya7 ?_|refine Yaz ?_|refine Yap ?_|refine Yc5 ?_|refine Ycz ?_)|refine Yeq ?_|refine Yab ?_)
      exact Za7 () ⟨rfl,rfl,trivial⟩ ⟨by simp [h4,h3],hS⟩
     ·repeat (first|refine Yes ?_|(refine X_id ?_;first|refine Yaf ?_|refine Yag ?_|refine Yan ?_|refine Ya7 ?_|refine Yaz ?_|refine Yap ?_|refine Yc5 ?_|refine Ycz ?_)|refine Yeo ?_|refine Yep ?_)
      exact ⟨by simp [Zdk,h2,h3],hS.drops⟩
   ·repeat (first|refine Ye6 ?_|(refine X_id ?_;first|refine Yaf ?_|refine Yag ?_|refine Yan ?_|refine Ya7 ?_|refine Yap ?_|refine Ycz ?_)|refine Yeo ?_|refine Yep ?_)
    exact ⟨by simp [Zdk,h1,h4],hS.drops⟩
 clear hS;rintro ⟨⟩ w ⟨⟨hb1,hb2⟩,hS⟩
 have hmr : Zdk q r = ((decide (q.pkg = []) || decide (q.pkg = r.pkg)) && (decide (q.out < 0) || decide (q.out = r.out))) := by
  unfold Zdk
  rw [hb1,hb2,Bool.true_and,Bool.true_and]
 clear hb1 hb2;rw [hmr];by_cases h1 : q.pkg = []
 ·by_cases h5 : q.out < 0
  ·repeat (first|refine Ye0 ?_|(refine X_id ?_;first|refine Yaf ?_|refine Yag ?_|refine Yan ?_|refine Ya7 ?_|refine Ya2 ?_|refine Yap ?_|refine Yb7 ?_)|refine Ye3 ?_|refine Yef ?_)
   exact ⟨by simp [h1,h5],hS.drops⟩
  ·by_cases h6 : q.out = r.out
   ·repeat (first|refine Ye0 ?_|(refine X_id ?_;first|refine Yaf ?_|refine Yag ?_|refine Yan ?_|refine Ya7 ?_|refine Yaz ?_|refine Ybj ?_|refine Ya3 ?_|refine Yap ?_|refine Yb7 ?_)|refine Ye3 ?_|refine Yef ?_)
    exact ⟨by simp [h1,h6],hS.drops⟩
   ·repeat (first|refine Ye0 ?_|(refine X_id ?_;first|refine Yaf ?_|refine Yag ?_|refine Yan ?_|refine Ya7 ?_|refine Yaz ?_|refine Ybh ?_|refine Ya3 ?_|refine Yap ?_|refine Yb7 ?_)|refine Ye3 ?_|refine Yef ?_)
    exact ⟨by simp [h5,h6],hS.drops⟩
 ·by_cases h4 : q.pkg = r.pkg
  ·by_cases h5 : q.out < 0
   ·repeat (first|refine Ye0 ?_|(refine X_id ?_;first|refine Yaf ?_|refine Yag ?_|refine Yan ?_|refine Ya7 ?_|refine Yaz ?_|refine Ya2 ?_|refine Yap ?_|refine Yb7 ?_|refine Yb8 ?_)|refine Ye3 ?_|refine Yef ?_)
    exact ⟨by simp [h4,h5],hS.drops⟩
   ·by_cases h6 : q.out = r.out
    ·repeat (first|refine Yes ?_|(refine X_id ?_;first|refine Yaf ?_|refine Yag ?_|refine Yan ?_|refine Ya7 ?_|refine Yaz ?_|refine Ybj ?_|refine Ya3 ?_|refine Yap ?_|refine Yb7 ?_|refine Yb8 ?_)|refine Ye3 ?_|refine Yef ?_)
     exact ⟨by simp [h4,h6],hS.drops⟩
    ·repeat (first|refine Yes ?_|(refine X_id ?_;first|refine Yaf ?_|refine Yag ?_|refine Yan ?_|refine Ya7 ?_|refine Yaz ?_|refine Ybh ?_|refine Ya3 ?_|refine Yap ?_|refine Yb7 ?_|refine Yb8 ?_)|refine Ye3 ?_|refine Yef ?_)
     exact ⟨by simp [h5,h6],hS.drops⟩
  ·repeat (first|refine Ye6 ?_|(refine X_id ?_;first|refine Yaf ?_|refine Yag ?_|refine Yan ?_|refine Yaz ?_|refine Yap ?_|refine Yb8 ?_)|refine Ye3 ?_|refine Yef ?_)
   exact ⟨by simp [h1,h4],hS.drops⟩
theorem Zqm : ∀ (l : List Rec) (r : Rec),badR (l ++ [r]) = if badR l = 0 then rchk r else badR l
 | [],r => by
  show (if rchk r = 0 then badR [] else rchk r) = if (0 : Nat) = 0 then rchk r else 0
  rw [if_pos rfl]
  split
  ·rename_i h; rw [h]; rfl
  ·rfl
 | x :: l,r => by
  rw [List.cons_append,badR,badR,Zqm l r];by_cases hx : rchk x = 0
  ·rw [if_pos hx,if_pos hx]
  ·rw [if_neg hx,if_neg hx,if_neg hx]
end Cr
namespace Cr
open Go
set_option maxHeartbeats 64000000
theorem Z3r {P : Program} {o : Oper} {σ : Env} {w : World} {x y : Operand} {ts : Array TypeId} {m n T : Nat} (ho : o.op = .call { callee := .builtin .min,args := #[x,y],argTypes := ts }) (hx : ev σ x = some (.int .i64 (m : Nat))) (hy : ev σ y = some (.int .i64 (n : Nat))) (hT : min m n = T) : Yl P o σ w (.int .i64 (T : Nat)) := ⟨fun N ds a ha => by
 simp [execOp,ho,resolve,invoke,builtin,ha.eval hx,ha.eval hy,Builtin.min_,Builtin.min2]
 rw [← hT]
 split <;> omega⟩
end Cr
namespace Cr
open Go Go.Proofs
set_option maxHeartbeats 64000000
end Cr
namespace Cr
open Go Go.Proofs
set_option maxRecDepth 100000
set_option maxHeartbeats 64000000
attribute [local irreducible] Calls

theorem Zxh (s : List UInt8) (W : World) : Calls Tryz.prog 64 #[.string (str s)] W (Ret fun v w => v = .string (str (s.take 40)) ∧ St W noF [] w) := by
 obtain ⟨T,hT⟩ : ∃ T,min s.length 40 = T := ⟨_,rfl⟩
 have hz := Zcd s
 have hS := St.start W
 refine Zab Tryz.func64 rfl Tryz.ntmps64 rfl ?_
 repeat (first|refine Yed ?_|refine Yaf ?_|refine Yag ?_|refine Yb0 ?_|refine Yee ?_|refine Yab ?_)
 refine X_yl (Z3r (m := (str s).size) (n := 40) (T := T) rfl rfl rfl (by rw [hz]; exact hT)) rfl rfl ?_
 repeat (first|refine Yed ?_|refine Yag ?_|refine Ydo ?_|refine Yah ?_|refine Yef ?_)
 refine ⟨?_,hS⟩
 rw [List.drop_zero,Nat.sub_zero,Int.toNat_natCast,← hT]
 congr 2
 rw [Nat.min_comm,← List.take_eq_take_min]
def Rec.cut (r : Rec) : Rec := ⟨r.cmd.take 40,r.pub.take 40,r.pkg.take 40,r.rev,r.out⟩
theorem Zvw (r : Rec) (W : World) : Calls Tryz.prog 21 #[.agg r.cells.toArray] W (Ret fun v w => v = .agg r.cut.cells.toArray ∧ St W noF [] w) := by
 have hS := St.start W
 have C1 := fun W => Zxh r.cmd W
 have C2 := fun W => Zxh r.pub W
 have C3 := fun W => Zxh r.pkg W
 refine Zab Tryz.func21 rfl Tryz.ntmps21 rfl ?_
 repeat (first|refine Yed ?_|refine Ya5 (fun _ _ hS _ => ?_)|refine Yar (fun _ _ hS _ => ?_)|refine Yee ?_|refine Yab ?_)
 refine Zam (.s 0 (.s 1 (.s 3 (.s 4 (.s 6 (.s 7 (.s 9 (.s 10 (.s 11 (.s 12 (.h 2 (.h 5 (.h 8 (.s 13 (.h 14 .nil .no)) .no) .no) .no))))))))))) mixed (by kernel_rfl) rfl ?_
 have hS := hS.drew
 repeat (first|(refine X_id ?_;first|(refine Zad 64 rfl rfl rfl rfl rfl hS (C1 _) ?_;rintro _ _ rfl hS)|(refine Zad 64 rfl rfl rfl rfl rfl hS (C2 _) ?_;rintro _ _ rfl hS)|(refine Zad 64 rfl rfl rfl rfl rfl hS (C3 _) ?_;rintro _ _ rfl hS)|refine Yao (fun _ hS _ => ?_))|refine Yah ?_|refine Yab ?_|refine Ybw ?_|(refine Zae ?_;first|refine Yay ?_|refine Ybg ?_|refine Ycc ?_|refine Ybn ?_|refine Yas ?_)|(refine Zac ?_;first|refine Ya0 ?_))
 exact ⟨rfl,hS.drops⟩
theorem Zt3 (q : Rec) : ∀ (l m : List Rec) (i : Nat),askF q i (l ++ m) = askF q i l ++ askF q (i + l.length) m
 | [],m,i => rfl
 | x :: l,m,i => by
  have e : i + 1 + l.length = i + (x :: l).length := by rw [List.length_cons]; omega
  rw [List.cons_append,askF,askF,Zt3 q l m,e]
  split <;> rfl
theorem auditNotes_ (a1 : Option Addr) (c1 : Nat) (l1 : List Rec) (a2 : Option Addr) (c2 : Nat) (l2 : List Rec) (q : Rec) (rd fs : List Int) (W : World) (hG : Gl W noF rd fs) (hL : Lg W noF) (hSp : Sp W noF) (hl1 : Ro W noF (row a1 (Zbk l1))) (hl2 : Ro W noF (row a2 (Zbk l2))) :
  Calls Tryz.prog 6 #[.slice a1 l1.length c1,.slice a2 l2.length c2,.agg q.cells.toArray] W (Ret fun v w => v = .bool true ∧ St W noF [] w) := by
 have hS := St.start W
 refine Zab Tryz.func6 rfl Tryz.ntmps6 rfl ?_
 repeat (first|refine Yed ?_|refine Yag ?_|refine Ya5 (fun _ _ hS _ => ?_)|refine Yee ?_|refine Yab ?_)
 rename_i bq _ _;refine Zaa _ rfl rfl rfl rfl rfl (Zz6 rd fs _ (hG.mono fun _ hr => (hr.rd hS).ro) (hL.at_ hS)) ?_
 rintro _ wb ⟨lp,tp,p,f,c,rfl,hS'⟩
 replace hS := hS.plus hS';clear hS';obtain ⟨F1,hS1,hro,hw1,hbk1⟩ := hS.call [true]
 have hT := Z1x (hro (pts f (.cells (List.toArray [.pointer (some ⟨tp,0,none⟩),.int .i64 0]) 100 (0,0))) (by simp)) (hro (itab rd fs tp lp p 60 2 10 40 (Zcl 10)) (by simp))
 have hc := hro (pts bq (.cells q.cells.toArray 57 (0,0))) (by simp)
 have hG1 := hG.mono fun r hr => hw1 r hr
 have hL1 := hL.mono fun r hr => hw1 r hr
 have hSp1 : Sp wb F1 := hw1 _ hSp
 have hi1 := hw1 _ hl1
 have hi2 := hw1 _ hl2
 clear hS hro;have hS : St wb F1 [chR c f 0 (atT (Zcl 10)) (Nt (trV (Za5 rd fs []))) []] wb := hS1
 clear hS1;repeat (first|refine Yed ?_|refine Yer ?_|refine Yee ?_|refine Yab ?_)
 obtain ⟨_,hcc,_,hw,hbk⟩ := hS.call [true]
 refine Zaa _ rfl rfl rfl rfl rfl (Z7d rd fs _ _ (hT.mono hw) (hL1.mono hw) (hG1.mono hw) hcc) ?_
 rintro _ w0 ⟨ax,x,tb,z0,rfl,hz0,hzok,_,hS⟩
 replace hS := hbk hS
 clear hbk hw hcc;obtain ⟨F3,hS3,hro3,hw3,hbk3⟩ := hS.call [false,true,true,true,true,true]
 have htb := hro3 (pts tb (tbC c logN)) (by simp)
 replace hT := hT.mono hw3
 replace hc := hw3 _ hc
 replace hG1 := hG1.mono hw3
 replace hL1 := hL1.mono hw3
 replace hSp1 : Sp w0 F3 := hw3 _ hSp1
 replace hi1 := hw3 _ hi1
 replace hi2 := hw3 _ hi2
 clear hS hro3;have hS : St w0 F3 (z0.res rd fs ax x tb c f 0 (atT (Zcl 10))) w0 := hS3
 clear hS3;obtain ⟨A0,la0,lc0,ra0,rc0,L0,X0⟩ := z0
 simp only at hz0
 subst hz0
 have hS : St w0 F3 [pts ax (audC x la0 0 lc0),own 62 5 la0 lc0 (Zbk []),pts x (chnC 0 (Zat rd fs [] 0) tb ra0 rc0),own 35 1 ra0 rc0 (L0.map Bs.val),chR c f 0 (atT (Zcl 10)) (Nt (trV (Za5 rd fs []))) X0] w0 := hS
 have hmz : (Zat rd fs [] 0).length = 32 := Zby _ _ _ _
 have hcr : Ro w0 F3 (row (some ⟨bq,0,none⟩) q.cells) := hc.mono fun h hh => ⟨h,Zkl h hh,fun _ _ e => e⟩
 repeat (first|refine Yes ?_|(refine X_id ?_;first|refine Yaf ?_|refine Yag ?_|refine Yax ?_|refine Yaz ?_|refine Ya6 ?_|refine Ybs ?_)|refine Yee ?_|refine Yab ?_)
 refine Zaa _ rfl rfl rfl rfl rfl (Z3m ax x la0 0 lc0 0 _ tb ra0 rc0 _ (hS.rd (r := pts ax (audC x la0 0 lc0)) (by simp)).ro (hS.rd (r := pts x (chnC 0 (Zat rd fs [] 0) tb ra0 rc0)) (by simp))) ?_
 rintro _ _ ⟨rfl,rfl⟩
 repeat (first|refine Yaa ?_|refine Yat ?_|refine Yaf ?_|refine Yaz ?_|refine Ya6 ?_)
 refine Zaa _ rfl rfl rfl rfl rfl (Zxw ax x la0 0 lc0 0 _ hmz tb ra0 rc0 _ (hS.rd (r := pts ax (audC x la0 0 lc0)) (by simp)).ro (hS.rd (r := pts x (chnC 0 (Zat rd fs [] 0) tb ra0 rc0)) (by simp)).ro) ?_
 rintro _ w ⟨rfl,hS'⟩
 replace hS := hS.plus hS';clear hS';repeat (first|refine Yat ?_)
 refine Zaa _ rfl rfl rfl rfl rfl (Z0w rd fs _ (hG1.mono fun r hr => (hr.rd hS).ro)) ?_
 rintro _ w ⟨rfl,hS'⟩
 replace hS := hS.plus hS';clear hS';repeat (first|refine Yat ?_)
 refine X_yl (Zfh rfl rfl rfl hmz hmz) rfl rfl ?_
 rw [decide_eq_false (fun h => h rfl)];repeat (first|refine Yed ?_|refine Yag ?_|refine Yaz ?_|refine Yet ?_|refine Yab ?_)
 have hS := hS.own_none 62 5 none
 refine Zbw (α := AuZ × Option Addr × Nat) (fun y => [(5,.pointer (some ⟨bq,0,none⟩)),(7,.pointer (some ⟨c,0,none⟩)),(8,.pointer (some ⟨ax,0,none⟩)),(10,.slice y.2.1 y.1.A.length y.2.2)])
  (fun y w' => y.1.Ok ∧ y.1.A.length ≤ 6 ∧ y.1.A.length ≤ y.2.2 ∧ St w0 F3 (own 62 5 y.2.1 y.2.2 (Zbk y.1.A) :: y.1.res rd fs ax x tb c f 0 (atT (Zcl 10))) w') ?_ ?_
 ·refine Zak (α := Nat × AuZ × Option Addr × Nat) (fun y => [(0,.slice a1 l1.length c1),(1,.slice a2 l2.length c2),(5,.pointer (some ⟨bq,0,none⟩)),(7,.pointer (some ⟨c,0,none⟩)),(8,.pointer (some ⟨ax,0,none⟩)),(10,.slice y.2.2.1 y.2.1.A.length y.2.2.2),(11,.int .i64 (y.1 : Nat))])
   (fun y w' => y.1 ≤ 2 ∧ y.2.1.Ok ∧ y.2.1.A.length ≤ 3 * y.1 ∧ y.2.1.A.length ≤ y.2.2.2 ∧ St w0 F3 (own 62 5 y.2.2.1 y.2.2.2 (Zbk y.2.1.A) :: y.2.1.res rd fs ax x tb c f 0 (atT (Zcl 10))) w') (fun y => 2 - y.1) (0,⟨[],la0,lc0,ra0,rc0,L0,X0⟩,none,0) ⟨rfl,rfl,rfl,rfl,rfl,rfl,rfl,trivial⟩ ⟨Nat.zero_le _,hzok,Nat.le_refl _,Nat.le_refl _,hS⟩ ?_
  clear hS hzok hmz;rintro ⟨turn,z,aa,ac⟩ w ⟨ht,hok,hlen,hac,hS⟩
  simp only [AuZ.res] at ht hok hlen hac hS ⊢
  by_cases hlt : turn < 2
  case neg =>
   repeat (first|refine Yed ?_|refine Yaf ?_|refine Ya3 ?_|refine Yeu ?_|refine Yej ?_)
   exact Za7 (z,aa,ac) ⟨rfl,rfl,rfl,rfl,trivial⟩ ⟨hok,by dsimp only; omega,hac,hS⟩
  repeat (first|refine Yed ?_|refine Yaf ?_|refine Yag ?_|refine Ya2 ?_|refine Ycu ?_|refine Yeh ?_|refine Yab ?_)
  refine Zlq (α := Option Addr × Nat × List Rec) (fun y => [(0,.slice a1 l1.length c1),(1,.slice a2 l2.length c2),(5,.pointer (some ⟨bq,0,none⟩)),(7,.pointer (some ⟨c,0,none⟩)),(8,.pointer (some ⟨ax,0,none⟩)),(10,.slice aa z.A.length ac),(11,.int .i64 (turn : Nat)),(12,.slice y.1 y.2.2.length y.2.1)])
   (fun y w' => Ro w0 F3 (row y.1 (Zbk y.2.2)) ∧ St w0 F3 (own 62 5 aa ac (Zbk z.A) :: z.res rd fs ax x tb c f 0 (atT (Zcl 10))) w') ?_ ?_
  ·by_cases h1 : turn = 1
   ·rw [decide_eq_true (show (turn : Int) = 1 by omega)]
    repeat (first|refine Yed ?_|refine Yer ?_|refine Yad ?_|refine Yaj ?_)
    exact Za7 (a2,c2,l2) ⟨rfl,rfl,rfl,rfl,rfl,rfl,rfl,rfl,trivial⟩ ⟨hi2,hS⟩
   ·rw [decide_eq_false (show ¬ (turn : Int) = 1 by omega)]
    repeat (first|refine Yak ?_|refine Yai ?_)
    exact Za7 (a1,c1,l1) ⟨rfl,rfl,rfl,rfl,rfl,rfl,rfl,rfl,trivial⟩ ⟨hi1,hS⟩
  clear hS;rintro ⟨ain,cin,lin⟩ w ⟨hin,hS⟩
  simp only [AuZ.res] at hin hS ⊢
  repeat (first|refine Yed ?_|refine Yag ?_|refine Yeg ?_|refine Yab ?_)
  have hS := hS.own_none 62 5 none
  refine Zbw (α := Option Addr × Nat × List Rec) (fun y => [(0,.slice a1 l1.length c1),(1,.slice a2 l2.length c2),(5,.pointer (some ⟨bq,0,none⟩)),(7,.pointer (some ⟨c,0,none⟩)),(8,.pointer (some ⟨ax,0,none⟩)),(10,.slice aa z.A.length ac),(11,.int .i64 (turn : Nat)),(13,.slice y.1 y.2.2.length y.2.1),(14,.int .i64 (badR y.2.2 : Nat))])
   (fun y w' => y.2.2.length ≤ 3 ∧ y.2.2.length ≤ y.2.1 ∧ St w0 F3 (own 62 5 y.1 y.2.1 (Zbk y.2.2) :: own 62 5 aa ac (Zbk z.A) :: z.res rd fs ax x tb c f 0 (atT (Zcl 10))) w') ?_ ?_
  ·refine Zak (α := Nat × Option Addr × Nat × List Rec) (fun y => [(0,.slice a1 l1.length c1),(1,.slice a2 l2.length c2),(5,.pointer (some ⟨bq,0,none⟩)),(7,.pointer (some ⟨c,0,none⟩)),(8,.pointer (some ⟨ax,0,none⟩)),(10,.slice aa z.A.length ac),(11,.int .i64 (turn : Nat)),(12,.slice ain lin.length cin),(13,.slice y.2.1 y.1 y.2.2.1),(14,.int .i64 (badR y.2.2.2 : Nat)),(15,.int .i64 (y.1 : Nat))])
    (fun y w' => y.1 ≤ lin.length ∧ y.1 ≤ 3 ∧ y.2.2.2.length = y.1 ∧ y.1 ≤ y.2.2.1 ∧ St w0 F3 [own 62 5 y.2.1 y.2.2.1 (Zbk y.2.2.2),own 62 5 aa ac (Zbk z.A),pts ax (audC x z.la z.A.length z.lc),own 62 5 z.la z.lc (Zbk z.A),pts x (chnC (Zar z.A).length (Zat rd fs (Zar z.A) (Zar z.A).length) tb z.ra z.rc),own 35 1 z.ra z.rc (z.L.map Bs.val),chR c f 0 (atT (Zcl 10)) (Nt (trV (Za5 rd fs (Zar z.A)))) z.X] w') (fun y => 3 - y.1) (0,none,0,[]) ⟨rfl,rfl,rfl,rfl,rfl,rfl,rfl,rfl,rfl,rfl,rfl,trivial⟩ ⟨Nat.zero_le _,Nat.zero_le _,rfl,Nat.le_refl _,hS⟩ ?_
   clear hS;rintro ⟨i,xa,xc,X⟩ w ⟨hi,hi3,hX,hxc,hS⟩
   simp only at hi hi3 hX hxc hS ⊢
   by_cases h1 : i < lin.length
   case neg =>
    repeat (first|refine Yev ?_|refine Yaf ?_|refine Yaz ?_|refine Yav ?_|refine Ya3 ?_|refine Yeu ?_|refine Yej ?_)
    exact Za7 (xa,xc,X) ⟨rfl,rfl,rfl,rfl,rfl,rfl,rfl,by dsimp only; rw [hX]; rfl,rfl,trivial⟩ ⟨by dsimp only; omega,by dsimp only; omega,hS⟩
   by_cases h2 : i < 3
   case neg =>
    repeat (first|refine Yes ?_|(refine X_id ?_;first|refine Yaf ?_|refine Ya7 ?_|refine Yav ?_|refine Ya2 ?_|refine Ya3 ?_)|refine Yeu ?_|refine Yej ?_)
    exact Za7 (xa,xc,X) ⟨rfl,rfl,rfl,rfl,rfl,rfl,rfl,by dsimp only; rw [hX]; rfl,rfl,trivial⟩ ⟨by dsimp only; omega,by dsimp only; omega,hS⟩
   have hx0 : lin[i]? = some lin[i] := List.getElem?_eq_getElem h1
   generalize lin[i] = r at hx0;have hxs := Zhs hx0
   have hr := hin
   obtain ⟨ab,ao,hab⟩ := (hr.rd hS).base (by intro e; rw [e] at hxs; simp at hxs)
   rw [hab] at hr ⊢;repeat (first|refine Yes ?_|(refine X_id ?_;first|refine Yaf ?_|refine Ya7 ?_|refine Yav ?_|refine Ya2 ?_|refine Ybc ?_|refine Ybp ?_)|refine Yeh ?_|refine Yab ?_)
   refine Zaa _ rfl rfl rfl rfl rfl (Zvw r _) ?_
   rintro _ w ⟨rfl,hS'⟩
   replace hS := hS.plus hS';clear hS';generalize r.cut = y;repeat (first|refine Yed ?_|refine Yaf ?_|refine Ycu ?_|refine Yao (fun _ hS _ => ?_)|refine Yar (fun _ _ hS _ => ?_)|refine Yee ?_|refine Yab ?_)
   rename_i br _ _ _ _ _;refine Zlq (α := Unit) (fun _ => [(0,.slice a1 l1.length c1),(1,.slice a2 l2.length c2),(5,.pointer (some ⟨bq,0,none⟩)),(7,.pointer (some ⟨c,0,none⟩)),(8,.pointer (some ⟨ax,0,none⟩)),(10,.slice aa z.A.length ac),(11,.int .i64 (turn : Nat)),(12,.slice (some ⟨ab,ao,none⟩) lin.length cin),(13,.slice xa i xc),(14,.int .i64 (badR (X ++ [y]) : Nat)),(15,.int .i64 (i : Nat)),(16,.pointer (some ⟨br,0,none⟩))])
    (fun _ w' => St w0 F3 [pts br (.cells y.cells.toArray 62 (0,0)),own 62 5 xa xc (Zbk X),own 62 5 aa ac (Zbk z.A),pts ax (audC x z.la z.A.length z.lc),own 62 5 z.la z.lc (Zbk z.A),pts x (chnC (Zar z.A).length (Zat rd fs (Zar z.A) (Zar z.A).length) tb z.ra z.rc),own 35 1 z.ra z.rc (z.L.map Bs.val),chR c f 0 (atT (Zcl 10)) (Nt (trV (Za5 rd fs (Zar z.A)))) z.X] w') ?_ ?_
   ·rw [Zqm]
    by_cases hb : badR X = 0
    ·rw [hb,if_pos rfl]
     repeat (first|refine Yaa ?_|refine Ybf ?_|refine Yad ?_|refine Yaj ?_)
     refine Zaa _ rfl rfl rfl rfl rfl (Zwi y _) ?_
     rintro _ w ⟨rfl,hS'⟩
     replace hS := hS.plus hS';clear hS';repeat (first|refine Yaa ?_)
     refine Zaa _ rfl rfl rfl rfl rfl (Z2c y _) ?_
     rintro _ w ⟨rfl,hS'⟩
     replace hS := hS.plus hS';clear hS';repeat (first|refine Yed ?_|refine Yag ?_)
     exact Za7 () ⟨rfl,rfl,rfl,rfl,rfl,rfl,rfl,rfl,rfl,rfl,rfl,rfl,trivial⟩ hS
    ·rw [if_neg hb]
     generalize badR X = n at hb ⊢;repeat (first|refine Yak ?_|refine Ydn ?_)
     exact Za7 () ⟨rfl,rfl,rfl,rfl,rfl,rfl,rfl,rfl,rfl,rfl,rfl,rfl,trivial⟩ hS
   clear hS;rintro ⟨⟩ w hS
   repeat (first|refine Yaa ?_|refine Yaf ?_|refine Ybf ?_|refine Ybi (fun _ _ hS _ => ?_)|refine Yad ?_)
   have hnw := (hS.rd (List.mem_cons_self ..)).own_row
   refine Zao (T := 62) (a := xa) (m := 1) rfl rfl rfl rfl rfl hS (by rw [Zc1,hX]) hxc hnw rfl (Zf0 [y]) (by omega) (by simp only [maxLen]; omega) (fun b' q'' w hS hq'' _ => ?_)
   repeat (first|refine Yed ?_|refine Yew ?_|refine Yad ?_|refine Yel ?_)
   refine Zaf (z := (i,xa,xc,X)) (i + 1,b',q'',X ++ [y]) ⟨rfl,rfl,rfl,rfl,rfl,rfl,rfl,rfl,rfl,rfl,rfl,trivial⟩ ⟨h1,h2,by dsimp only; rw [List.length_append,hX]; rfl,hq'',?_⟩ (by dsimp only; omega)
   dsimp only
   rw [show Zbk (X ++ [y]) = Zbk X ++ y.cells by rw [Zht]; simp]
   exact hS.took
  clear hS hin;rintro ⟨xa,xc,X⟩ w ⟨hX3,hxc,hS⟩
  simp only [AuZ.res] at hX3 hxc hS ⊢
  repeat (first|refine Yaa ?_|refine Yaf ?_|refine Yee ?_)
  obtain ⟨_,hcc,hr1,hw,hbk⟩ := hS.call [false,false,true,true,true,true,true]
  refine Zaa _ rfl rfl rfl rfl rfl (Z5x rd fs ax x tb z hok xa X xc hxc (by omega) _ _ (hT.mono hw) (hL1.mono hw) (hG1.mono hw) (hw _ hSp1) (hw _ htb) ((hr1 (own 62 5 xa xc (Zbk X)) (by simp)).own_row) hcc) ?_
  rintro _ w (⟨hb,rfl,hS⟩ | ⟨hb,rfl,z',hok',hA',_,hS⟩)
  ·replace hS := hbk hS
   clear hbk hw hcc hr1;generalize badR X = n at hb ⊢;repeat (first|refine Yes ?_|(refine X_id ?_;first|refine Yaf ?_|refine Yag ?_|refine Yax ?_|refine Yaz ?_|refine Ybm ?_|refine Ya6 ?_|refine Ya1 ?_)|refine Yae ?_|refine Yad ?_|refine Yak ?_|refine Ya9 ?_|refine Yaj ?_|refine Yai ?_|refine Yej ?_)
   exact Zaf (z := (turn,z,aa,ac)) (turn + 1,z,aa,ac) ⟨rfl,rfl,rfl,rfl,rfl,rfl,rfl,trivial⟩ ⟨hlt,hok,by dsimp only; omega,hac,hS.took⟩ (by dsimp only; omega)
  ·replace hS := hbk hS
   clear hbk hw hcc;rw [hb];repeat (first|refine Yes ?_|(refine X_id ?_;first|refine Yaf ?_|refine Yag ?_|refine Yax ?_|refine Yaz ?_|refine Yav ?_|refine Ya6 ?_)|refine Yeq ?_|refine Yab ?_)
   refine Zao (T := 62) (a := aa) (m := X.length) rfl rfl rfl rfl rfl hS (Zc1 z.A) hac (hS.rd (r := own 62 5 xa xc (Zbk X)) (by simp)).own_row (Zc1 X) (Zf0 X) (by omega) (by simp only [maxLen]; omega) (fun aa' ac' w hS hac' _ => ?_)
   repeat (first|refine Yed ?_|refine Yew ?_|refine Yad ?_|refine Yel ?_)
   have hlz : z'.A.length = z.A.length + X.length := by rw [hA',List.length_append]
   refine Zaf (z := (turn,z,aa,ac)) (turn + 1,z',aa',ac') ⟨rfl,rfl,rfl,rfl,rfl,by dsimp only; rw [hlz]; rfl,rfl,trivial⟩ ⟨hlt,hok',by dsimp only; omega,by dsimp only; omega,?_⟩ (by dsimp only; omega)
   dsimp only
   rw [← Zht,← hA'] at hS;exact hS.took
 clear hS hzok;rintro ⟨z,aa,ac⟩ w ⟨hok,h6,hac,hS⟩
 simp only [AuZ.res] at hok h6 hac hS ⊢
 have hel := Zfb z.A
 have hm32 : (Zat rd fs (Zar z.A) (Zar z.A).length).length = 32 := Zby _ _ _ _
 repeat (first|refine Yaa ?_|refine Yaf ?_|refine Yee ?_)
 obtain ⟨_,hcc,_,hw,hbk⟩ := hS.call [false,false,false,false,false,true]
 refine Zaa _ rfl rfl rfl rfl rfl (aof_ rd fs z.A hok.ok hok.l7 _ _ (hT.mono hw) (hL1.mono hw) (hG1.mono hw) (hw _ hSp1) hcc) ?_
 rintro _ w ⟨ay,y,tb2,⟨A2,la2,lc2,ra2,rc2,L2,X2⟩,rfl,hA2,hok2,hX2,hS⟩
 simp only at hA2
 subst hA2
 replace hS := hbk hS
 clear hbk hw hcc;simp only [AuZ.res] at hS
 repeat (first|refine Yed ?_|refine Yex ?_|refine Yee ?_|refine Yab ?_)
 obtain ⟨_,hcc,_,hw,hbk⟩ := hS.call [false,false,false,false,false,true]
 refine Zaa _ rfl rfl rfl rfl rfl (Z0l rd fs z.A hok.ok hok.l7 _ _ (hT.mono hw) (hL1.mono hw) (hG1.mono hw) (hw _ hSp1) hcc) ?_
 rintro _ w ⟨X3,rfl,hX3,hS⟩
 replace hS := hbk hS
 clear hbk hw hcc;repeat (first|refine Yes ?_|(refine X_id ?_;first|refine Yaf ?_|refine Yag ?_|refine Yax ?_|refine Yaz ?_|refine Yav ?_|refine Ya6 ?_)|refine Yee ?_|refine Yab ?_)
 refine Zaa _ rfl rfl rfl rfl rfl (Z3m ay y la2 z.A.length lc2 (Zar z.A).length _ tb2 ra2 rc2 _ (hS.rd (r := pts ay (audC y la2 z.A.length lc2)) (by repeat (first|exact List.mem_cons_self ..|refine Yb5 ?_))).ro (hS.rd (r := pts y (chnC (Zar z.A).length (Zat rd fs (Zar z.A) (Zar z.A).length) tb2 ra2 rc2)) (by repeat (first|exact List.mem_cons_self ..|refine Yb5 ?_)))) ?_
 rintro _ _ ⟨rfl,rfl⟩
 rw [hel];repeat (first|refine Yaa ?_|refine Yat ?_|refine Yaf ?_|refine Yaz ?_|refine Yav ?_|refine Ya6 ?_)
 refine Zaa _ rfl rfl rfl rfl rfl (Z3m ax x z.la z.A.length z.lc (Zar z.A).length _ tb z.ra z.rc _ (hS.rd (r := pts ax (audC x z.la z.A.length z.lc)) (by repeat (first|exact List.mem_cons_self ..|refine Yb5 ?_))).ro (hS.rd (r := pts x (chnC (Zar z.A).length (Zat rd fs (Zar z.A) (Zar z.A).length) tb z.ra z.rc)) (by repeat (first|exact List.mem_cons_self ..|refine Yb5 ?_)))) ?_
 rintro _ _ ⟨rfl,rfl⟩
 rw [hel];repeat (first|refine Yaa ?_|refine Yat ?_|refine Yaf ?_|refine Yaz ?_|refine Yav ?_|refine Ya6 ?_)
 refine Zaa _ rfl rfl rfl rfl rfl (Zxw ax x z.la z.A.length z.lc (Zar z.A).length _ hm32 tb z.ra z.rc _ (hS.rd (r := pts ax (audC x z.la z.A.length z.lc)) (by repeat (first|exact List.mem_cons_self ..|refine Yb5 ?_))).ro (hS.rd (r := pts x (chnC (Zar z.A).length (Zat rd fs (Zar z.A) (Zar z.A).length) tb z.ra z.rc)) (by repeat (first|exact List.mem_cons_self ..|refine Yb5 ?_))).ro) ?_
 rintro _ w ⟨rfl,hS'⟩
 replace hS := hS.plus hS';clear hS';repeat (first|refine Yat ?_|refine Yaf ?_)
 refine Zaa _ rfl rfl rfl rfl rfl (Zxw ay y la2 z.A.length lc2 (Zar z.A).length _ hm32 tb2 ra2 rc2 _ (hS.rd (r := pts ay (audC y la2 z.A.length lc2)) (by repeat (first|exact List.mem_cons_self ..|refine Yb5 ?_))).ro (hS.rd (r := pts y (chnC (Zar z.A).length (Zat rd fs (Zar z.A) (Zar z.A).length) tb2 ra2 rc2)) (by repeat (first|exact List.mem_cons_self ..|refine Yb5 ?_))).ro) ?_
 rintro _ w ⟨rfl,hS'⟩
 replace hS := hS.plus hS';clear hS';repeat (first|refine Yat ?_)
 refine X_yl (Zfh rfl rfl rfl hm32 hm32) rfl rfl ?_
 rw [decide_eq_false (fun h => h rfl)];repeat (first|refine Yaa ?_|refine Yat ?_|refine Yaf ?_|refine Yaz ?_)
 refine Zaa _ rfl rfl rfl rfl rfl (Z0n ay y la2 lc2 z.A _ (hS.rd (r := pts ay (audC y la2 z.A.length lc2)) (by repeat (first|exact List.mem_cons_self ..|refine Yb5 ?_))).ro (hS.rd (r := own 62 5 la2 lc2 (Zbk z.A)) (by repeat (first|exact List.mem_cons_self ..|refine Yb5 ?_))).own_row.ro (by omega)) ?_
 rintro _ w ⟨e1,e2,rfl,_,hS'⟩
 replace hS := hS.plus hS';clear hS';repeat (first|refine Yes ?_|refine Yaf ?_|refine Yaz ?_|refine Yav ?_|refine Ya6 ?_|refine Yeq ?_|refine Yab ?_)
 refine X_yl (Za2 rfl rfl ((hcr.rd hS).cellsC (i := 0) rfl rfl rfl)) rfl rfl ?_
 repeat (first|refine Yaa ?_)
 refine Zaa _ rfl rfl rfl rfl rfl (Zvw q _) ?_
 rintro _ w ⟨rfl,hS'⟩
 replace hS := hS.plus hS';clear hS';generalize hqq : q.cut = qq;repeat (first|refine Yaa ?_)
 refine Zaa _ rfl rfl rfl rfl rfl (Z7e qq ay y la2 lc2 z.A _ (hS.rd (r := pts ay (audC y la2 z.A.length lc2)) (by repeat (first|exact List.mem_cons_self ..|refine Yb5 ?_))).ro (hS.rd (r := own 62 5 la2 lc2 (Zbk z.A)) (by repeat (first|exact List.mem_cons_self ..|refine Yb5 ?_))).own_row.ro (by omega)) ?_
 rintro _ w6 ⟨g1,g2,rfl,hg2,hS'⟩
 replace hS := hS.plus hS';clear hS';obtain ⟨F4,hS4,hro,hw,hbk⟩ := hS.call []
 have hcax := hro (pts ax (audC x z.la z.A.length z.lc)) (by repeat (first|exact List.mem_cons_self ..|refine Yb5 ?_))
 have hcay := hro (pts ay (audC y la2 z.A.length lc2)) (by repeat (first|exact List.mem_cons_self ..|refine Yb5 ?_))
 have hrx := (hro (own 62 5 z.la z.lc (Zbk z.A)) (by repeat (first|exact List.mem_cons_self ..|refine Yb5 ?_))).own_row
 have hry := (hro (own 62 5 la2 lc2 (Zbk z.A)) (by repeat (first|exact List.mem_cons_self ..|refine Yb5 ?_))).own_row
 have hrA := (hro (own 62 5 aa ac (Zbk z.A)) (by repeat (first|exact List.mem_cons_self ..|refine Yb5 ?_))).own_row
 have hrG := (hro (own 3 1 g1 g2 (ansV (askF qq 0 z.A))) (by repeat (first|exact List.mem_cons_self ..|refine Yb5 ?_))).own_row
 replace hcr := hw _ hcr
 clear hro hS;have hS := hS4
 clear hS4;repeat (first|refine Yed ?_|refine Yag ?_|refine Yeg ?_|refine Yab ?_)
 refine Zak (α := Nat) (fun i => [(5,.pointer (some ⟨bq,0,none⟩)),(8,.pointer (some ⟨ax,0,none⟩)),(10,.slice aa z.A.length ac),(19,.pointer (some ⟨ay,0,none⟩)),(23,.slice g1 (askF qq 0 z.A).length g2),(24,.int .i64 ((askF qq 0 (z.A.take i)).length : Nat)),(25,.int .i64 (i : Nat))])
  (fun i w' => i ≤ z.A.length ∧ St w6 F4 [] w') (fun i => z.A.length - i) 0 ⟨rfl,rfl,rfl,rfl,rfl,rfl,rfl,trivial⟩ ⟨Nat.zero_le _,hS⟩ ?_
 clear hS;rintro i w ⟨hi,hS⟩
 by_cases hlt : i < z.A.length
 case neg =>
  obtain rfl : i = z.A.length := by omega
  rw [List.take_length];repeat (first|refine Yed ?_|refine Yaf ?_|refine Yav ?_|refine Ya3 ?_|refine Yeu ?_|refine Yej ?_)
  refine Zaa _ rfl rfl rfl rfl rfl (Zws _ ((hL1.mono hw).at_ hS) (Sp.at_ (hw _ hSp1) hS)) ?_
  rintro _ w ⟨rfl,hS'⟩
  replace hS := hS.plus hS';clear hS';repeat (first|refine Yes ?_|(refine X_id ?_;first|refine Yaf ?_|refine Yag ?_|refine Ya7 ?_|refine Yav ?_|refine Ybj ?_)|refine Yah ?_|refine Yef ?_)
  exact ⟨rfl,(hbk1 (hbk3 (hbk hS))).drops⟩
 have hx0 : z.A[i]? = some z.A[i] := List.getElem?_eq_getElem hlt
 have htk : z.A.take (i + 1) = z.A.take i ++ [z.A[i]] := List.take_succ_eq_append_getElem hlt
 have hsp : z.A = z.A.take (i + 1) ++ z.A.drop (i + 1) := (List.take_append_drop _ _).symm
 generalize z.A[i] = r at hx0 htk;have hxs := Zhs hx0
 have hlr := Zc1 z.A
 have hGs : askF qq 0 z.A = askF qq 0 (z.A.take (i + 1)) ++ askF qq (i + 1) (z.A.drop (i + 1)) := by
  have h := Zt3 qq (z.A.take (i + 1)) (z.A.drop (i + 1)) 0
  rw [List.take_append_drop,List.length_take,Nat.zero_add,Nat.min_eq_left (by omega)] at h;exact h
 rw [htk,Zia,List.length_take,Nat.zero_add,Nat.min_eq_left (by omega)] at hGs;obtain ⟨ab,ao,hab⟩ := (hrA.rd hS).base (by intro e; rw [e] at hxs; simp at hxs)
 have hrA' := hrA
 rw [hab] at hrA' ⊢;repeat (first|refine Yed ?_|refine Yaf ?_|refine Yav ?_|refine Ya2 ?_|refine Yeh ?_|refine Yab ?_)
 refine Zam (.s 0 (.s 2 (.s 5 (.s 6 (.s 7 (.s 8 (.h 1 (.s 3 (.s 4 (.s 9 (.s 10 (.s 11 (.s 13 (.s 16 (.s 17 (.s 18 (.s 19 (.h 12 (.s 14 (.s 15 (.s 20 (.s 21 (.s 22 (.s 23 (.s 25 (.s 26 (.s 27 (.s 28 (.s 30 (.s 33 (.s 34 (.s 35 (.s 36 (.h 24 (.h 29 (.h 31 (.h 32 (.h 37 (.h 38 (.s 39 (.s 40 .nil)) .no) .no) .no) .no) .no) .no)))))))))))))))) .no))))))))))) .no))))))) mixed (by kernel_rfl) rfl ?_
 have hS := hS.drew
 repeat (first|(refine Zae ?_;first|refine Ya4 ?_|refine Ycb ?_))
 refine Za0 (fun w' => Zb5 w' _ _ _) rfl rfl ((hrA'.rd hS).cellsC (by first | omega | (dsimp only; omega)) hxs rfl) (fun _ hc => Za2 rfl rfl hc) rfl rfl ?_
 repeat (first|(refine Zae ?_;first|refine Yas ?_))
 refine Zaa _ rfl rfl rfl rfl rfl (Z0n ax x z.la z.lc z.A _ (hcax.rd hS).ro (hrx.rd hS).ro (by omega)) ?_
 rintro _ w ⟨e3,e4,rfl,_,hS'⟩
 replace hS := hS.plus hS';clear hS';obtain ⟨rb,hrb⟩ := St.ownBase hS (by intro e; rw [e] at hxs; simp at hxs)
 rw [hrb] at hS ⊢;repeat (first|(refine Zae ?_;first|refine Ycb ?_)|(refine Zac ?_;first|refine Ycf ?_))
 refine Za0 (fun w' => Zb5 w' _ _ _) rfl rfl ((hS.ownRd (a := some ⟨rb,0,none⟩)).cellsC (by first | omega | (dsimp only; omega)) hxs rfl) (fun _ hc => Za2 rfl rfl hc) rfl rfl ?_
 repeat (first|fail)
 refine Zal rfl rfl (fun _ => Zmx r rfl rfl rfl) rfl rfl ?_
 repeat (first|(refine Zae ?_;first|refine Ya4 ?_|refine Yb2 ?_|refine Yde ?_))
 refine Za4 (fun w' => Zb5 w' _ _ _) rfl rfl rfl rfl ((hrA'.rd hS).cellsC (by first | omega | (dsimp only; omega)) hxs rfl) (fun _ hc => Za2 rfl rfl hc) rfl rfl ?_
 repeat (first|(refine Zae ?_;first|refine Ych ?_))
 refine Zaa _ rfl rfl rfl rfl rfl (Z0n ay y la2 lc2 z.A _ (hcay.rd hS).ro (hry.rd hS).ro (by omega)) ?_
 rintro _ w ⟨e5,e6,rfl,_,hS'⟩
 replace hS := hS.plus hS';clear hS';obtain ⟨rc,hrc⟩ := St.ownBase hS (by intro e; rw [e] at hxs; simp at hxs)
 rw [hrc] at hS ⊢;repeat (first|(refine Zae ?_;first|refine Yde ?_)|(refine Zac ?_;first|refine Ycf ?_))
 refine Za4 (fun w' => Zb5 w' _ _ _) rfl rfl rfl rfl ((hS.ownRd (a := some ⟨rc,0,none⟩)).cellsC (by first | omega | (dsimp only; omega)) hxs rfl) (fun _ hc => Za2 rfl rfl hc) rfl rfl ?_
 repeat (first|fail)
 refine Zbt rfl rfl rfl rfl (fun _ => Zmx r rfl rfl rfl) rfl rfl ?_
 repeat (first|(refine Zae ?_;first|refine Ya4 ?_|refine Yb6 ?_))
 refine Za4 (fun w' => Zb5 w' _ _ _) rfl rfl rfl rfl ((hcr.rd hS).cellsC (i := 0) rfl rfl rfl) (fun _ hc => Za2 rfl rfl hc) rfl rfl ?_
 repeat (first|(refine Zae ?_;first|refine Yb2 ?_|refine Yde ?_))
 refine Za4 (fun w' => Zb5 w' _ _ _) rfl rfl rfl rfl ((hrA'.rd hS).cellsC (by first | omega | (dsimp only; omega)) hxs rfl) (fun _ hc => Za2 rfl rfl hc) rfl rfl ?_
 repeat (first|fail)
 refine Za4 (fun w' => Zb5 w' _ _ _) rfl rfl rfl rfl ((hcr.rd hS).cellsC (i := 0) rfl rfl rfl) (fun _ hc => Za2 rfl rfl hc) rfl rfl ?_
 repeat (first|(refine Zae ?_;first|refine Yb2 ?_|refine Yde ?_))
 refine Za4 (fun w' => Zb5 w' _ _ _) rfl rfl rfl rfl ((hrA'.rd hS).cellsC (by first | omega | (dsimp only; omega)) hxs rfl) (fun _ hc => Za2 rfl rfl hc) rfl rfl ?_
 repeat (first|(refine Zae ?_;first|refine Ych ?_))
 refine Zaa _ rfl rfl rfl rfl rfl (Zvw q _) ?_
 rintro _ w ⟨rfl,hS'⟩
 replace hS := hS.plus hS';clear hS';rw [hqq];repeat (first|(refine Zae ?_;first|refine Ych ?_)|(refine Zac ?_;first|refine Ycf ?_))
 refine Zaa _ rfl rfl rfl rfl rfl (Zxv qq r _) ?_
 rintro _ w ⟨rfl,hS'⟩
 replace hS := hS.plus hS';clear hS';repeat (first|(refine Zae ?_;first|refine Ych ?_)|(refine Zac ?_;first|refine Ycf ?_))
 refine Zaa _ rfl rfl rfl rfl rfl (Zvw q _) ?_
 rintro _ w ⟨rfl,hS'⟩
 replace hS := hS.plus hS';clear hS';rw [hqq];repeat (first|(refine Zae ?_;first|refine Ych ?_)|(refine Zac ?_;first|refine Ycf ?_))
 refine Zaa _ rfl rfl rfl rfl rfl (Zwi qq _) ?_
 rintro _ w ⟨rfl,hS'⟩
 replace hS := hS.plus hS';clear hS';repeat (first|(refine Zae ?_;first|refine Ych ?_)|(refine Zac ?_;first|refine Ycf ?_))
 refine Zaa _ rfl rfl rfl rfl rfl (Zwi r _) ?_
 rintro _ w ⟨rfl,hS'⟩
 replace hS := hS.plus hS';clear hS';repeat (first|(refine Zae ?_;first|refine Ych ?_)|(refine Zac ?_;first|refine Ycf ?_))
 refine Zaa _ rfl rfl rfl rfl rfl (Zkm qq r _) ?_
 rintro _ w ⟨rfl,hS'⟩
 replace hS := hS.plus hS';clear hS';repeat (first|(refine Zac ?_;first|refine Ycf ?_))
 refine Zbt rfl rfl rfl rfl (fun _ => Zmy (a := Zdk qq r) (b := Zdk qq r) rfl rfl rfl) rfl rfl ?_
 rw [show (!(Zdk qq r == Zdk qq r)) = false by simp]
 repeat (first|refine Yae ?_|refine Yak ?_|refine Yai ?_|refine Yab ?_|(refine Zae ?_;first|refine Yay ?_|refine Yb6 ?_))
 refine Zam (.s 0 (.s 3 (.s 4 (.s 5 (.s 6 (.h 1 (.h 2 (.h 7 (.h 8 (.s 9 .nil) .no) .no) .no) .no)))))) mixed (by kernel_rfl) rfl ?_
 have hS := hS.drew
 repeat (first|fail)
 refine Za0 (fun w' => Zb5 w' _ _ _) rfl rfl ((hcr.rd hS).cellsC (i := 0) rfl rfl rfl) (fun _ hc => Za2 rfl rfl hc) rfl rfl ?_
 repeat (first|(refine Zae ?_;first|refine Ya4 ?_|refine Ycb ?_))
 refine Za0 (fun w' => Zb5 w' _ _ _) rfl rfl ((hrA'.rd hS).cellsC (by first | omega | (dsimp only; omega)) hxs rfl) (fun _ hc => Za2 rfl rfl hc) rfl rfl ?_
 repeat (first|(refine Zae ?_;first|refine Yas ?_))
 refine Zaa _ rfl rfl rfl rfl rfl (Zvw q _) ?_
 rintro _ w ⟨rfl,hS'⟩
 replace hS := hS.plus hS';clear hS';rw [hqq];repeat (first|(refine Zae ?_;first|refine Yas ?_)|(refine Zac ?_;first|refine Ycf ?_))
 refine Zaa _ rfl rfl rfl rfl rfl (Zwi qq _) ?_
 rintro _ w ⟨rfl,hS'⟩
 replace hS := hS.plus hS';clear hS';repeat (first|(refine Zae ?_;first|refine Yas ?_)|(refine Zac ?_;first|refine Ycf ?_))
 refine Zaa _ rfl rfl rfl rfl rfl (Zwi r _) ?_
 rintro _ w ⟨rfl,hS'⟩
 replace hS := hS.plus hS';clear hS';repeat (first|(refine Zae ?_;first|refine Yas ?_)|(refine Zac ?_;first|refine Ycf ?_))
 refine Zaa _ rfl rfl rfl rfl rfl (Zkm qq r _) ?_
 rintro _ w ⟨rfl,hS'⟩
 replace hS := hS.plus hS';clear hS';have hnx0 := Zia qq r (z.A.take i) 0
 rw [← htk,List.length_take,Nat.zero_add,Nat.min_eq_left (by omega)] at hnx0;rcases Bool.eq_false_or_eq_true (Zdk qq r) with hm | hm
 ·rw [hm]
  rw [if_pos hm] at hGs hnx0;have hGi : (askF qq 0 z.A)[(askF qq 0 (z.A.take i)).length]? = some i := by
   rw [hGs,List.append_assoc,List.getElem?_append_right (Nat.le_refl _)];simp
  have hGl := (List.getElem?_eq_some_iff.1 hGi).1
  have hGb := Ziy qq z.A 0
  have hxg : (ansV (askF qq 0 z.A))[(askF qq 0 (z.A.take i)).length]? = some (.int .i64 (i : Nat)) := by rw [List.getElem?_map,hGi]; rfl
  have hnl : (askF qq 0 (z.A.take (i + 1))).length = (askF qq 0 (z.A.take i)).length + 1 := by rw [hnx0,List.length_append]; rfl
  obtain ⟨gb,go,hgb⟩ := (hrG.rd hS).base (by intro e; rw [e] at hxg; simp at hxg)
  have hr := hrG
  rw [hgb] at hr ⊢;generalize (askF qq 0 (z.A.take i)).length = n at hGl hxg hnl ⊢;have hx := hxg
  repeat (first|refine Yes ?_|(refine X_id ?_;first|refine Yaf ?_|refine Yag ?_|refine Yaz ?_|refine Yav ?_|refine Ya6 ?_|refine Yce ?_|refine Ybc ?_|refine Ya1 ?_|refine Ybz ?_)|refine Yeq ?_|refine Yel ?_|(refine Zae ?_;first|refine Yay ?_|refine Yc7 ?_)|(refine Zac ?_;first|refine Ycf ?_))
  exact Zaf (z := i) (i + 1) ⟨rfl,rfl,rfl,rfl,rfl,by rw [hnl]; rfl,rfl,trivial⟩ ⟨hlt,hS.drops⟩ (by omega)
 ·rw [hm]
  rw [if_neg (by rw [hm]; decide),List.append_nil] at hnx0
  repeat (first|refine Yed ?_|refine Yew ?_|refine Yad ?_|refine Ya9 ?_|refine Yaj ?_|refine Yej ?_|(refine Zae ?_;first|refine Yay ?_|refine Zal rfl rfl (fun _ => Zog rfl rfl) rfl rfl ?_)|(refine Zac ?_;first|refine Ycf ?_))
  exact Zaf (z := i) (i + 1) ⟨rfl,rfl,rfl,rfl,rfl,by rw [hnx0]; rfl,rfl,trivial⟩ ⟨hlt,hS.drops⟩ (by omega)
end Cr
namespace Cr
open Go Go.Proofs Go.ChangeShapes Go.WideShapes Go.Deep
set_option maxHeartbeats 64000000
section
variable {H : Type} {enc : TypeId × Value → H} {P : Program} {w : World} {base : Nat} {sp : Nat → Bool} {held : Bool}
theorem Rd.ofCellsA {a : Addr} {l : List Value} (h : ∀ i v,l[i]? = some v → w.cell? (a.add i) = some v) : Rd w (row (some a) l) := by
 cases l with
 | nil => exact Zq3 w _
 | cons x r =>
  have h0 := h 0 x rfl
  have hsp : a.spot = none := by
   have := World.cell?_spot h0
   simpa [Addr.add] using this
  obtain ⟨b,off,spot⟩ := a
  obtain rfl : spot = none := hsp
  unfold World.cell? at h0
  split at h0
  ·rename_i c t fz hb
   have hb : w.heap[b]? = some (.cells c t fz) := by simpa [Addr.add] using hb
   refine ⟨Zck b (.cells c t fz),.inr ⟨b,off,c,t,fz,rfl,rfl,fun i v hv => ?_⟩,fun k o e => ?_⟩
   ·have := h i v hv
    have e : (⟨b,off,none⟩ : Addr).add i = ⟨b,off + i,none⟩ := by
     unfold Addr.add; split
     ·rename_i h; subst h; rfl
     ·rfl
    rw [e,cell_of_row w b (off + i) c t fz hb] at this;exact this
   ·obtain ⟨rfl,rfl⟩ := Zhw e
    exact hb
  ·cases h0
end
section
variable {H : Type} {enc : TypeId × Value → H} {P : Program} {w : World} {base : Nat} {sp : Nat → Bool} {held : Bool}
theorem Zro {α : Type} [Inhabited α] (f : α → List Value) (Ok : α → Prop) {t e : TypeId} {fuel : Nat} {cs : List Value} {x : DataW H × List MemPlace} (n : Nat) (ht : P.underlying t = some (.slice e)) (ce : P.cellsOf e = n) (hpos : 0 < n)
  (hopen : ∀ (fuel : Nat) (cs : List Value) (y : DataW H × List MemPlace),DataW.trod enc P w base sp held fuel e cs = some y → ∃ a : α,cs = f a ∧ Ok a)
  (h : DataW.trod enc P w base sp held fuel t cs = some x) : ∃ (a : Option Addr) (l : List α) (c : Nat),cs = [.slice a l.length c] ∧ l.length ≤ c ∧ c ≤ maxLen ∧ Rd w (row a (l.flatMap f)) ∧ ∀ y ∈ l,Ok y ∧ (f y).length = n := by
 rcases DataW.trod_slice ht h with ⟨rfl,_⟩ | ⟨a,len,cap,elems,rest,m,_,rfl,_,_,hl,hm,hel,hx,_⟩
 ·exact ⟨none,[],0,rfl,Nat.le_refl _,Nat.zero_le _,Zq3 w _,fun _ h => (List.not_mem_nil h).elim⟩
 ·have each : ∀ i,i < len → ∃ q : α,Ok q ∧ (f q).length = n ∧ ∀ k,k < n → w.cell? (a.add (i * n + k)) = (f q)[k]? := fun i hi => by
   have h1 := hx i hi
   rw [List.getElem?_eq_getElem (by omega),ce,Option.bind_eq_some_iff] at h1;obtain ⟨cs',h2,h3⟩ := h1
   obtain ⟨_,hlen,hcell⟩ := World.cells?_some h2
   obtain ⟨q,rfl,hq⟩ := hopen _ _ _ h3
   exact ⟨q,hq,hlen,fun k hk => by rw [← add_add]; exact hcell k hk⟩
  obtain ⟨q,hq⟩ := choose_lt each
  have hlen : ((List.range len).map q).length = len := by simp
  have hall : ∀ y ∈ (List.range len).map q,Ok y ∧ (f y).length = n := fun y hy => by
   obtain ⟨i,hi,rfl⟩ := List.mem_map.1 hy
   have := hq i (List.mem_range.1 hi)
   exact ⟨this.1,this.2.1⟩
  refine ⟨some a,(List.range len).map q,cap,by rw [hlen],by rw [hlen]; exact hl,hm,Rd.ofCellsA fun k v hv => ?_,hall⟩
  have hfl := Zej (n := n) fun y hy => (hall y hy).2
  have hk : k / n < len := by
   have := (List.getElem?_eq_some_iff.1 hv).1
   rw [hfl,hlen] at this;exact (Nat.div_lt_iff_lt_mul hpos).2 this
  have hget : ((List.range len).map q)[k / n]? = some (q (k / n)) := by simp [hk]
  have hsg := Zcq (f := f) (fun y hy => (hall y hy).2) hget
  have hmod : k % n < n := Nat.mod_lt _ hpos
  have hk2 : k / n * n + k % n = k := by rw [Nat.mul_comm]; exact Nat.div_add_mod k n
  have hv3 := congrArg (fun l => l[k % n]?) hsg
  simp only [List.getElem?_take,List.getElem?_drop] at hv3
  rw [if_pos hmod,hk2,hv] at hv3;have := (hq (k / n) hk).2.2 (k % n) hmod
  rw [hk2] at this;rw [this]; exact hv3.symm
end
end Cr
namespace Cr
open Go Go.Proofs Go.ChangeShapes Go.WideShapes
set_option maxRecDepth 100000
set_option maxHeartbeats 64000000
section
variable {H : Type} {enc : TypeId × Value → H} {w : World} {base : Nat} {sp : Nat → Bool} {held : Bool}
theorem len5 {cs : List Value} (h : cs.length = 5) : ∃ a0 a1 a2 a3 a4,cs = [a0,a1,a2,a3,a4] := by
 match cs,h with
 | [a0,a1,a2,a3,a4],_ => exact ⟨_,_,_,_,_,rfl⟩
theorem Znq {n : Nat} {v : Value} {y : DataW H × List MemPlace} (h : DataW.trod enc Tryz.prog w base sp held n 9 [v] = some y) : ∃ s,v = .string (str s) := by
 obtain ⟨s,hs,_⟩ := DataW.trod_string Tryz.underlying9 h
 obtain ⟨l,rfl⟩ := Z36 s
 exact ⟨l,by simpa using hs⟩
theorem Zs9 {n : Nat} {v : Value} {y : DataW H × List MemPlace} (h : DataW.trod enc Tryz.prog w base sp held n 3 [v] = some y) : ∃ k : Int,v = .int .i64 k ∧ -9223372036854775808 ≤ k ∧ k ≤ 9223372036854775807 := by
 obtain ⟨k,hk,_,hw⟩ := DataW.trod_int Tryz.underlying3 h
 simp only [Lit.wf,Bool.and_eq_true,decide_eq_true_eq] at hw
 exact ⟨k,by simpa using hk,hw.1,hw.2⟩
theorem Ziv : Tryz.prog.cellsOf 9 = 1 := by kernel_rfl
theorem Zmv : Tryz.prog.cellsOf 3 = 1 := by kernel_rfl
theorem Zty : Tryz.prog.cellsOf 57 = 5 := by kernel_rfl
theorem open_rec {fuel : Nat} {cs : List Value} {x : DataW H × List MemPlace} (h : DataW.trod enc Tryz.prog w base sp held fuel 57 cs = some x) :
  ∃ r : Rec,cs = r.cells ∧ (-9223372036854775808 ≤ r.rev ∧ r.rev ≤ 9223372036854775807) ∧ -9223372036854775808 ≤ r.out ∧ r.out ≤ 9223372036854775807 := by
 obtain ⟨xs,n,_,_,hl,hxl,hf⟩ := DataW.trod_struct Tryz.underlying57 h
 rw [Zty] at hl;have hxl : xs.length = 5 := hxl
 obtain ⟨a0,a1,a2,a3,a4,rfl⟩ := len5 hl
 have f0 : DataW.trod enc Tryz.prog w base sp held n 9 [a0] = xs[0]? := by
  have h : DataW.trod enc Tryz.prog w base sp held n 9 ((List.drop 0 [a0,a1,a2,a3,a4]).take (Tryz.prog.cellsOf 9)) = xs[0]? := by
   have h0 := hf 0 _ rfl
   exact h0
  rw [Ziv] at h;exact h
 have f1 : DataW.trod enc Tryz.prog w base sp held n 9 [a1] = xs[1]? := by
  have h : DataW.trod enc Tryz.prog w base sp held n 9 ((List.drop 1 [a0,a1,a2,a3,a4]).take (Tryz.prog.cellsOf 9)) = xs[1]? := by
   have h0 := hf 1 _ rfl
   exact h0
  rw [Ziv] at h;exact h
 have f2 : DataW.trod enc Tryz.prog w base sp held n 9 [a2] = xs[2]? := by
  have h : DataW.trod enc Tryz.prog w base sp held n 9 ((List.drop 2 [a0,a1,a2,a3,a4]).take (Tryz.prog.cellsOf 9)) = xs[2]? := by
   have h0 := hf 2 _ rfl
   exact h0
  rw [Ziv] at h;exact h
 have f3 : DataW.trod enc Tryz.prog w base sp held n 3 [a3] = xs[3]? := by
  have h : DataW.trod enc Tryz.prog w base sp held n 3 ((List.drop 3 [a0,a1,a2,a3,a4]).take (Tryz.prog.cellsOf 3)) = xs[3]? := by
   have h0 := hf 3 _ rfl
   exact h0
  rw [Zmv] at h;exact h
 have f4 : DataW.trod enc Tryz.prog w base sp held n 3 [a4] = xs[4]? := by
  have h : DataW.trod enc Tryz.prog w base sp held n 3 ((List.drop 4 [a0,a1,a2,a3,a4]).take (Tryz.prog.cellsOf 3)) = xs[4]? := by
   have h0 := hf 4 _ rfl
   exact h0
  rw [Zmv] at h;exact h
 rw [List.getElem?_eq_getElem (by omega)] at f0 f1 f2 f3 f4;obtain ⟨s0,rfl⟩ := Znq f0
 obtain ⟨s1,rfl⟩ := Znq f1
 obtain ⟨s2,rfl⟩ := Znq f2
 obtain ⟨n0,rfl,h1⟩ := Zs9 f3
 obtain ⟨n1,rfl,h2⟩ := Zs9 f4
 exact ⟨⟨s0,s1,s2,n0,n1⟩,rfl,h1,h2⟩
end
end Cr
namespace Cr
open Go Go.Proofs Go.ChangeShapes Go.WideShapes Go.Deep
set_option maxRecDepth 100000
set_option maxHeartbeats 64000000
instance : Inhabited Rec := ⟨zRec⟩
def Rec.ints (r : Rec) : Prop := (-9223372036854775808 ≤ r.rev ∧ r.rev ≤ 9223372036854775807) ∧ -9223372036854775808 ≤ r.out ∧ r.out ≤ 9223372036854775807
theorem arg_recs {H : Type} {enc : TypeId × Value → H} {W : World} {p : List MemPlace} {d : DataW H} {v : Value} {base : Nat}
  (hok : Value.okWide Tryz.prog W .any base 55 v) (h : DataW.Trod enc Tryz.prog W 0 (fun _ => true) true 55 v d p) :
  ∃ (a : Option Addr) (l : List Rec) (ca : Nat),v = .slice a l.length ca ∧ Ro W noF (row a (Zbk l)) ∧ ∀ r ∈ l,r.ints := by
 obtain ⟨a0,n0,c0,rfl⟩ := okWide_slice Tryz.underlying55 hok
 obtain ⟨fuel,hf⟩ := h
 obtain ⟨a,l,c,e,_,_,hr,hall⟩ := Zro Rec.cells Rec.ints 5 Tryz.underlying55 Zty (by omega) (fun _ _ _ h => open_rec h) hf
 have e : [Value.slice a0 n0 c0] = [.slice a l.length c] := e
 simp only [List.cons.injEq,Value.slice.injEq,and_true] at e
 obtain ⟨rfl,rfl,rfl⟩ := e
 exact ⟨_,l,_,rfl,hr.ro,fun r hr => (hall r hr).1⟩
end Cr
