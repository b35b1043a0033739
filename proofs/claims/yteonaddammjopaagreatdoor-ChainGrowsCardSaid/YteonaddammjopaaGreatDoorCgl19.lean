/-
  The law ChainNil: what nil tells; what it computes.
  The law ChainBinds: what it computes.
  The law ChainGrows: what it computes.
-/
import Derived.Test.YteonaddammjopaaGreatDoorCgl5
import Derived.Test.YteonaddammjopaaGreatDoorCgl18
import Derived.Test.YteonaddammjopaaGreatDoorCgl11
import Derived.Test.YteonaddammjopaaGreatDoorCgl17
namespace Cr
open Go Go.Proofs
set_option maxRecDepth 100000
set_option maxHeartbeats 16000000
attribute [local irreducible] Calls

theorem known11_ (W : World) (hG : Gl W noF roundL firstL) : Calls Tryz.prog 15 #[] W (Ret fun v w => v = .bool true ∧ St W noF [] w) := Cl.calls_of_runD Cl.run11 W hG
end Cr
namespace Cr
open Go Go.Proofs
set_option maxRecDepth 100000
set_option maxHeartbeats 16000000
attribute [local irreducible] Calls

theorem BsIn.bss {L : List Bs} {X : List RowD} {W : World} {F : Nat → Prop} {a : Option Addr} {c : Nat} (h : BsIn L X) (h1 : Ro W F (own 36 1 a c (L.map Bs.val))) (h2 : Ro W F (bag X)) : Bss W F a L := ⟨h1.own_row,fun x hx => h2.bag (h.inn x hx)⟩
theorem Znj {l : List (List UInt8)} {L : List Bs} (hT : Zbs L = cutL (l.take 6)) : L.length ≤ 6 ∧ ∀ x ∈ L,x.s.length ≤ 420 := by
 refine ⟨?_,fun x hx => ?_⟩
 ·have := congrArg List.length hT
  simp [Zbs,cutL] at this; omega
 ·have : x.s ∈ Zbs L := List.mem_map.2 ⟨x,hx,rfl⟩
  rw [hT] at this
  obtain ⟨s,_,e⟩ := List.mem_map.1 this
  rw [← e]
  exact Zrl s
theorem Zjv (rd fs : List Int) {l m : List (List UInt8)} : ∀ {n : Nat},(∀ j,j < n → l.getD j [] = m.getD j []) → Zdf rd fs l n = Zdf rd fs m n
 | 0,_ => rfl
 | n + 1,h => by
  show digest rd fs [Zdf rd fs l n,_,_] = digest rd fs [Zdf rd fs m n,_,_]
  rw [Zjv rd fs fun j hj => h j (by omega),h n (by omega)]
theorem Rd.cellsC {w : World} {b off o' i n : Nat} {cs seg : List Value} (H : Rd w (row (some ⟨b,off,none⟩) cs)) (hi : o' = off + i) (h : (cs.drop i).take n = seg) (hn : seg.length = n) : Zdj w ⟨b,o',none⟩ n seg := by
 subst hi; subst h
 exact ⟨H.seg _ _,hn⟩
theorem Zhg (rd fs : List Int) (l : List (List UInt8)) {n i : Nat} (h : i < n) : ((Zgl rd fs l n).drop (i * 32)).take 32 = bv (Zdf rd fs l (i + 1)) :=
 Zdy (f := fun i => bv (Zdf rd fs l (i + 1))) (fun i _ => by rw [Za4,Zca]) (by simp [h])
end Cr
namespace Cr
open Go Go.Proofs
set_option maxRecDepth 100000
set_option maxHeartbeats 16000000
attribute [local irreducible] Calls

theorem markAt_app (rd fs : List Int) (l m : List (List UInt8)) {n : Nat} (h : n ≤ l.length) : Zdf rd fs (l ++ m) n = Zdf rd fs l n :=
 Zjv rd fs fun j hj => by simp only [List.getD_eq_getElem?_getD]; rw [List.getElem?_append_left (by omega)]
theorem chainGrows_ (a1 : Option Addr) (c1 : Nat) (l1 : List Bs) (a2 : Option Addr) (c2 : Nat) (l2 : List Bs) (W : World) (hG : Gl W noF roundL firstL) (hB1 : Bss W noF a1 l1) (hk1 : ∀ x ∈ l1,x.s.length ≤ x.c) (hB2 : Bss W noF a2 l2) (hk2 : ∀ x ∈ l2,x.s.length ≤ x.c) :
  Calls Tryz.prog 5 #[.slice a1 l1.length c1,.slice a2 l2.length c2] W (Ret fun v w => v = .bool true ∧ St W noF [] w) := by
 have hS := St.start W
 refine Zas Tryz.func5 rfl Tryz.ntmps5 rfl ?_
 repeat (first|(refine G_id ?_;first|refine Zah ?_|refine Zab rfl rfl ?_)|(refine X_id ?_;first|refine X_yl (Zad rfl rfl) rfl rfl ?_|refine X_yl (Zac rfl rfl) rfl rfl ?_)|(refine C_id ?_;first|refine Zak ?_|refine Zaa ?_)|(refine E_id ?_;first|refine Zae ?_))
 refine Zan _ rfl rfl rfl rfl rfl (few11_ a1 c1 l1 _ (hB1.mono fun r hr => (hr.rd hS).ro) hk1) ?_
 rintro _ w ⟨b1,d1,L,X,rfl,hT1,hX1,hd1,hS'⟩
 replace hS := hS.plus hS'
 clear hS'
 repeat (first|(refine G_id ?_;first|refine Zab rfl rfl ?_)|(refine X_id ?_;first|refine X_yl (Zad rfl rfl) rfl rfl ?_))
 refine Zan _ rfl rfl rfl rfl rfl (few11_ a2 c2 l2 _ (hB2.mono fun r hr => (hr.rd hS).ro) hk2) ?_
 rintro _ w ⟨b2,d2,M,Y,rfl,hT2,hX2,hd2,hS'⟩
 replace hS := hS.plus hS'
 clear hS'
 obtain ⟨hL6,hL4⟩ := Znj hT1
 obtain ⟨hM6,hM4⟩ := Znj hT2
 have hBL : Bss w noF b1 L := hX1.bss (hS.rd (r := own 36 1 b1 d1 (L.map Bs.val)) (by simp)).ro (hS.rd (r := bag X) (by simp)).ro
 repeat (first|(refine G_id ?_;first|refine Zah ?_|refine Zab rfl rfl ?_)|(refine X_id ?_;first|refine X_yl (Zad rfl rfl) rfl rfl ?_|refine X_yl (Zac rfl rfl) rfl rfl ?_)|(refine C_id ?_;first|refine Zak ?_|refine Zaa ?_)|(refine E_id ?_;first|refine Zae ?_))
 refine Zan _ rfl rfl rfl rfl rfl (marks_ b1 d1 L roundL firstL _ (hG.mono fun r hr => (hr.rd hS).ro) hBL (by omega) (fun x hx => by have := hL4 x hx; omega)) ?_
 rintro _ w ⟨e1,f1,rfl,hf1,hS'⟩
 replace hS := hS.plus hS'
 clear hS' hBL
 repeat (first|(refine G_id ?_;first|refine Zab rfl rfl ?_)|(refine X_id ?_;first|refine X_yl (Zad rfl rfl) rfl rfl ?_|refine Za6 rfl rfl rfl rfl rfl rfl rfl rfl hS (fun _ _ hS _ => ?_)))
 refine Zc4 (T := 36) (n := 0) (m := L.length) rfl rfl rfl rfl rfl hS rfl (Nat.zero_le _) ((hS.rd (r := own 36 1 b1 d1 (L.map Bs.val)) (by simp)).own_row) (by simp) (fun u hu => by obtain ⟨x,_,rfl⟩ := List.mem_map.1 hu; rfl) (by omega) (by simp only [maxLen]; omega) (fun g1 h1 w hS hh1 _ => ?_)
 rw [Nat.zero_add] at hh1 ⊢
 simp only [List.nil_append] at hS
 repeat (first|(refine G_id ?_;first|refine Zab rfl rfl ?_)|(refine X_id ?_;first|refine X_yl (Zad rfl rfl) rfl rfl ?_))
 refine Zc4 (T := 36) (a := g1) (m := M.length) rfl rfl rfl rfl rfl hS (by simp) hh1 ((hS.rd (r := own 36 1 b2 d2 (M.map Bs.val)) (by simp)).own_row) (by simp) (fun u hu => by obtain ⟨x,_,rfl⟩ := List.mem_map.1 hu; rfl) (by omega) (by simp only [maxLen]; omega) (fun g2 h2 w hS hh2 _ => ?_)
 rw [← List.map_append] at hS
 have hlen : (L ++ M).length = L.length + M.length := List.length_append
 have hBN : Bss w noF g2 (L ++ M) := ⟨(hS.rd (r := own 36 1 g2 h2 ((L ++ M).map Bs.val)) (by simp)).ro.own_row,fun x hx => by
  rcases List.mem_append.1 hx with hx | hx
  ·exact (hS.rd (r := bag X) (by simp)).ro.bag (hX1.inn x hx)
  ·exact (hS.rd (r := bag Y) (by simp)).ro.bag (hX2.inn x hx)⟩
 have hMk := fun W (hG : Gl W noF roundL firstL) (h : Bss W noF g2 (L ++ M)) => marks_ g2 h2 (L ++ M) roundL firstL W hG h (by omega) (fun x hx => by
  rcases List.mem_append.1 hx with hx | hx
  ·have := hL4 x hx; omega
  ·have := hM4 x hx; omega)
 rw [hlen] at hMk
 have hTN : Zbs (L ++ M) = Zbs L ++ Zbs M := List.map_append
 have hLt : (Zbs L).length = L.length := by simp [Zbs]
 repeat (first|(refine G_id ?_;first|refine Zab rfl rfl ?_))
 refine Zan _ rfl rfl rfl rfl rfl (hMk _ (hG.mono fun r hr => (hr.rd hS).ro) hBN) ?_
 rintro _ w ⟨e2,f2,rfl,hf2,hS'⟩
 replace hS := hS.plus hS'
 clear hS' hBN hMk
 rw [hTN] at hS
 repeat (first|(refine G_id ?_;first|refine Zah ?_|refine Zab rfl rfl ?_|refine Zcu rfl rfl rfl rfl ?_)|(refine X_id ?_;first|refine X_yl (Zad rfl rfl) rfl rfl ?_|refine X_yl (Zac rfl rfl) rfl rfl ?_|refine X_yl (Zbb rfl rfl rfl) rfl rfl ?_|refine X_yl (Zbt rfl rfl) rfl rfl ?_|refine X_yl (Zb1 rfl rfl rfl (by omega)) rfl rfl ?_|refine X_yl (Zbk rfl rfl rfl (w64 (by omega) (by omega))) rfl rfl ?_)|(refine C_id ?_;first|refine Zak ?_|refine Zaa ?_|refine Zaq ?_|refine Zaw ?_|refine Zaj rfl ?_)|(refine E_id ?_;first|refine Zae ?_))
 obtain ⟨F2,hS2,hro,hw,hbk⟩ := hS.call []
 have rA : Ro _ F2 (row e1 (Zgl roundL firstL (Zbs L) L.length)) := (hro (own 23 32 e1 f1 (Zgl roundL firstL (Zbs L) L.length)) (by simp)).own_row
 have rB : Ro _ F2 (row e2 (Zgl roundL firstL (Zbs L ++ Zbs M) (L.length + M.length))) := (hro (own 23 32 e2 f2 (Zgl roundL firstL (Zbs L ++ Zbs M) (L.length + M.length))) (by simp)).own_row
 have hBM : Bss _ F2 b2 M := hX2.bss (hro (own 36 1 b2 d2 (M.map Bs.val)) (by simp)) (hro (bag Y) (by simp))
 have hG2 := hG.mono hw
 clear hS hro hw
 refine Zg8 (α := Unit) (fun _ => [(5,.slice b1 L.length d1),(6,.slice b2 M.length d2),(8,.slice e2 (L.length + M.length) f2)]) (fun _ w' => St w F2 [] w') ?_ ?_
 ·refine Zb7 (α := Nat) (fun i => [(5,.slice b1 L.length d1),(6,.slice b2 M.length d2),(7,.slice e1 L.length f1),(8,.slice e2 (L.length + M.length) f2),(9,.int .i64 (i : Nat))])
   (fun i w' => i ≤ L.length ∧ St w F2 [] w') (fun i => L.length - i) 0 ⟨rfl,rfl,rfl,rfl,rfl,trivial⟩ ⟨Nat.zero_le _,hS2⟩ ?_
  clear hS2
  rintro i w1 ⟨hi,hS3⟩
  by_cases hlt : i < L.length
  ·have sA := Zhg roundL firstL (Zbs L) hlt
   have sB := Zhg roundL firstL (Zbs L ++ Zbs M) (show i < L.length + M.length by omega)
   rw [markAt_app _ _ _ _ (show i + 1 ≤ (Zbs L).length by omega)] at sB
   have lA := Zca roundL firstL (Zbs L) (i + 1)
   obtain ⟨eb,eo,rfl⟩ := (rA.rd hS3).base (by intro e; rw [e] at sA; have := congrArg List.length sA; simp [Za4,Zca] at this)
   obtain ⟨fb,fo,rfl⟩ := (rB.rd hS3).base (by intro e; rw [e] at sB; have := congrArg List.length sB; simp [Za4,Zca] at this)
   have hS := hS3
   repeat (first|(refine G_id ?_;first|refine Zah ?_|refine Zab rfl rfl ?_)|(refine X_id ?_;first|refine X_yl (Zad rfl rfl) rfl rfl ?_|refine X_yl (Zbt rfl rfl) rfl rfl ?_|refine X_yl (Za3 rfl rfl rfl (by omega)) rfl rfl ?_)|(refine C_id ?_;first|refine Zak ?_|refine Zaa ?_|refine Zaq ?_|refine Zaw ?_|refine Zam rfl ?_)|(refine E_id ?_;first|refine Zae ?_))
   refine Zci (.s 0 (.s 1 (.s 2 (.s 3 (.s 4 (.s 5 (.s 6 (.s 7 (.s 8 .nil))))))))) mixed (by kernel_rfl) rfl ?_
   have hS := hS.drew
   repeat (first|(refine Zbj ?_;first|refine Zag rfl rfl (fun _ => Zad rfl rfl) rfl rfl ?_|refine Zag rfl rfl (fun _ => Zau rfl rfl rfl (by omega) (by omega) (by first|assumption|exact ⟨_,_,rfl⟩)) rfl rfl ?_))
   refine Zbi (fun w' => Zdj w' _ _ _) rfl rfl ((rA.rd hS).cellsC (by first | omega | (dsimp only; omega)) sA (by rw [Za4,lA])) (fun _ hc => Zbc rfl rfl hc) rfl rfl ?_
   repeat (first|(refine Zbj ?_;first|refine Zag rfl rfl (fun _ => Zad rfl rfl) rfl rfl ?_|refine Zag rfl rfl (fun _ => Zau rfl rfl rfl (by omega) (by omega) (by first|assumption|exact ⟨_,_,rfl⟩)) rfl rfl ?_))
   refine Zbi (fun w' => Zdj w' _ _ _) rfl rfl ((rB.rd hS).cellsC (by first | omega | (dsimp only; omega)) sB (by rw [Za4,lA])) (fun _ hc => Zbc rfl rfl hc) rfl rfl ?_
   repeat (first|fail)
   refine Zag rfl rfl (fun _ => Zf4 rfl rfl rfl lA lA) rfl rfl ?_
   rw [decide_eq_false (fun h => h rfl)]
   repeat (first|(refine G_id ?_;first|refine Zah ?_|refine Zab rfl rfl ?_)|(refine X_id ?_;first|refine X_yl (Zad rfl rfl) rfl rfl ?_|refine X_yl (Zac rfl rfl) rfl rfl ?_|refine X_yl (Zbk rfl rfl rfl (w64 (by omega) (by omega))) rfl rfl ?_)|(refine C_id ?_;first|refine Zaa ?_|refine Zaw ?_|refine Zaj rfl ?_)|(refine E_id ?_;first|refine Zae ?_|refine Zbf ?_)|(refine Zbj ?_;first|refine Zbw ?_))
   refine Zbu (i + 1) ⟨rfl,rfl,rfl,rfl,rfl,trivial⟩ ⟨by omega,hS⟩ (by omega)
  ·have hS := hS3
   repeat (first|(refine G_id ?_;first|refine Zah ?_|refine Zab rfl rfl ?_)|(refine X_id ?_;first|refine X_yl (Zad rfl rfl) rfl rfl ?_|refine X_yl (Zbt rfl rfl) rfl rfl ?_|refine X_yl (Za7 rfl rfl rfl (by omega)) rfl rfl ?_)|(refine C_id ?_;first|refine Zak ?_|refine Zaa ?_|refine Zb0 ?_|refine Zaj rfl ?_)|(refine E_id ?_;first|refine Zae ?_|refine Zav ?_|refine Zaz ?_))
   exact Ziz () ⟨rfl,rfl,rfl,trivial⟩ hS
 ·clear hS2
  rintro ⟨⟩ w1 hS
  repeat (first|(refine G_id ?_;first|refine Zah ?_|refine Zab rfl rfl ?_)|(refine X_id ?_;first|refine X_yl (Zac rfl rfl) rfl rfl ?_)|(refine C_id ?_;first|refine Zak ?_|refine Zaa ?_|refine Zaq ?_)|(refine E_id ?_;first|refine Zae ?_))
  refine Zb7 (α := Nat) (fun i => [(5,.slice b1 L.length d1),(6,.slice b2 M.length d2),(8,.slice e2 (L.length + M.length) f2),(10,.int .i64 (i : Nat))])
   (fun i w' => i ≤ M.length ∧ St w F2 [] w') (fun i => M.length - i) 0 ⟨rfl,rfl,rfl,rfl,trivial⟩ ⟨Nat.zero_le _,hS⟩ ?_
  clear hS
  rintro i w2 ⟨hi,hS3⟩
  by_cases hlt : i < M.length
  ·have hy0 : M[i]? = some M[i] := List.getElem?_eq_getElem hlt
   generalize M[i] = y at hy0
   have hym := List.mem_of_getElem? hy0
   have hr := hBM.row
   have hx : (M.map Bs.val)[i]? = some (.slice y.a y.s.length y.c) := by simp [hy0,Bs.val]
   have sB := Zhg roundL firstL (Zbs L ++ Zbs M) (show L.length + i < L.length + M.length by omega)
   have lB := Zca roundL firstL (Zbs L ++ Zbs M) (L.length + i + 1)
   have lC := Zca roundL firstL (Zbs L ++ Zbs M) (L.length + i)
   obtain ⟨xb,xo,rfl⟩ := (hr.rd hS3).base (by intro e; rw [e] at hx; simp at hx)
   obtain ⟨fb,fo,rfl⟩ := (rB.rd hS3).base (by intro e; rw [e] at sB; have := congrArg List.length sB; simp [Za4,Zca] at this)
   have hnext : Zdf roundL firstL (Zbs L ++ Zbs M) (L.length + i + 1) = digest roundL firstL [Zdf roundL firstL (Zbs L ++ Zbs M) (L.length + i),be8 ((L.length : Int) + (i : Int)),y.s] := by
    show digest roundL firstL [_,_,(Zbs L ++ Zbs M).getD (L.length + i) []] = _
    rw [List.getD_eq_getElem?_getD,List.getElem?_append_right (by omega),hLt,Nat.add_sub_cancel_left]
    simp [Zbs,hy0]
   have hS := hS3
   have hl32 : LenO (bv (Zd7 roundL firstL Zfh)) 32 := ⟨by rw [Za4]; exact Zds _ _ _⟩
   have hl33 : LenO (bv (Zdf roundL firstL (Zbs L ++ Zbs M) (L.length + i))) 32 := ⟨by rw [Za4]; exact lC⟩
   by_cases hpos : 0 < L.length + i
   ·have sC := Zhg roundL firstL (Zbs L ++ Zbs M) (show L.length + i - 1 < L.length + M.length by omega)
    rw [show L.length + i - 1 + 1 = L.length + i by omega] at sC
    repeat (first|(refine G_id ?_;first|refine Zah ?_|refine Zab rfl rfl ?_)|(refine X_id ?_;first|(refine Zbm 11 rfl rfl rfl rfl rfl hS (start_ roundL firstL _ (hG2.mono fun r hr => (hr.rd hS).ro)) ?_;rintro _ _ rfl hS)|refine X_yl (Zad rfl rfl) rfl rfl ?_|refine X_yl (Zbt rfl rfl) rfl rfl ?_|refine X_yl (Za3 rfl rfl rfl (by omega)) rfl rfl ?_|refine X_yl (Zhj rfl rfl rfl (by omega)) rfl rfl ?_|refine X_yl (Zau rfl rfl rfl (by omega) (by omega) (by first|assumption|exact ⟨_,_,rfl⟩)) rfl rfl ?_|refine X_yl (Zbk rfl rfl rfl (w64 (by omega) (by omega))) rfl rfl ?_|refine X_yl (Zdn rfl rfl rfl (w64 (by omega) (by omega))) rfl rfl ?_|refine Za1 rfl rfl rfl rfl hS (fun _ hS _ => ?_)|refine Zbe rfl rfl rfl hS (fun _ _ hS _ => ?_))|(refine C_id ?_;first|refine Zak ?_|refine Zaa ?_|refine Zaq ?_|refine Zaw ?_|refine Zam rfl ?_)|(refine E_id ?_;first|refine Zae ?_))
    refine X_yl (Zbc rfl rfl ((rB.rd hS).cellsC (by first | omega | (dsimp only; omega)) sC (by rw [Za4,lC]))) rfl rfl ?_
    repeat (first|(refine G_id ?_;first|refine Zah ?_|refine Zab rfl rfl ?_)|(refine X_id ?_;first|refine Zct rfl rfl rfl rfl hS (fun _ hS => ?_))|(refine C_id ?_;first|refine Zak ?_)|(refine E_id ?_;first|refine Zae ?_))
    refine Zci (.s 0 (.s 1 (.s 2 (.s 3 (.s 4 (.s 5 (.s 6 (.s 7 (.s 8 (.s 10 (.s 11 (.s 12 (.s 13 (.s 14 (.s 15 (.s 16 (.h 9 (.s 17 .nil) .no))))))))))))))))) mixed (by kernel_rfl) rfl ?_
    have hS := hS.drew
    repeat (first|(refine Zbj ?_;first|refine Zag rfl rfl (fun _ => Zad rfl rfl) rfl rfl ?_|refine Zag rfl rfl (fun _ => Zbt rfl rfl) rfl rfl ?_|refine Zag rfl rfl (fun _ => Zau rfl rfl rfl (by omega) (by omega) (by first|assumption|exact ⟨_,_,rfl⟩)) rfl rfl ?_|refine Zag rfl rfl (fun _ => Zbk rfl rfl rfl (w64 (by omega) (by omega))) rfl rfl ?_|refine Zbi (fun w' => w'.cell? _ = some _) rfl rfl ((hr.rd hS).cellX (by omega) hx) (fun _ hc => Zao rfl rfl hc) rfl rfl ?_|refine Zbi (fun w' => Zdj w' _ _ _) rfl rfl hS.cellsN (fun _ hc => Zbc rfl rfl hc) rfl rfl ?_))
    refine Zbi (fun w' => Zdj w' _ _ _) rfl rfl ((rB.rd hS).cellsC (by first | omega | (dsimp only; omega)) sB (by rw [Za4,lB])) (fun _ hc => Zbc rfl rfl hc) rfl rfl ?_
    repeat (first|(refine Zbj ?_;first|refine Za8 rfl rfl ?_))
    refine Zbm 16 rfl rfl rfl rfl rfl hS (mark_ (Zdf roundL firstL (Zbs L ++ Zbs M) (L.length + i)) ((L.length : Int) + (i : Int)) y.a y.c y.s roundL firstL _ lC (hG2.mono fun r hr => (hr.rd hS).ro) ((hBM.all y hym).rd hS).ro (by have := hM4 y hym; omega)) ?_
    rintro _ w5 rfl hS
    rw [← hnext]
    refine And.intro (And.intro (.inr ((rB.rd hS).cellsC (by first|omega|(dsimp only;omega)) sB (by rw [Za4,lB]))) (by repeat (first|exact trivial|refine And.intro (.inl (by decide +kernel)) ?_|refine And.intro (.inr (by first|exact hS.cellsN|exact ((hr.rd hS).cellX (by omega) hx)|assumption)) ?_))) ?_
    repeat (first|fail)
    refine Zag rfl rfl (fun _ => Zf4 rfl rfl rfl lB lB) rfl rfl ?_
    rw [decide_eq_false (fun h => h rfl)]
    repeat (first|(refine G_id ?_;first|refine Zah ?_|refine Zab rfl rfl ?_)|(refine X_id ?_;first|refine X_yl (Zad rfl rfl) rfl rfl ?_|refine X_yl (Zac rfl rfl) rfl rfl ?_|refine X_yl (Zbk rfl rfl rfl (w64 (by omega) (by omega))) rfl rfl ?_)|(refine C_id ?_;first|refine Zaa ?_|refine Zaw ?_|refine Zaj rfl ?_)|(refine E_id ?_;first|refine Zae ?_|refine Zbf ?_)|(refine Zbj ?_;first|refine Zbw ?_))
    refine Zbu (i + 1) ⟨rfl,rfl,rfl,rfl,trivial⟩ ⟨by omega,hS.drops⟩ (by omega)
   ·repeat (first|(refine G_id ?_;first|refine Zah ?_|refine Zab rfl rfl ?_)|(refine X_id ?_;first|(refine Zbm 11 rfl rfl rfl rfl rfl hS (start_ roundL firstL _ (hG2.mono fun r hr => (hr.rd hS).ro)) ?_;rintro _ _ rfl hS)|refine X_yl (Zad rfl rfl) rfl rfl ?_|refine X_yl (Zbt rfl rfl) rfl rfl ?_|refine X_yl (Za3 rfl rfl rfl (by omega)) rfl rfl ?_|refine X_yl (Zdl rfl rfl rfl (by omega)) rfl rfl ?_|refine X_yl (Zbk rfl rfl rfl (w64 (by omega) (by omega))) rfl rfl ?_|refine Za1 rfl rfl rfl rfl hS (fun _ hS _ => ?_)|refine Zbe rfl rfl rfl hS (fun _ _ hS _ => ?_))|(refine C_id ?_;first|refine Zak ?_|refine Zaa ?_|refine Zaq ?_|refine Zaw ?_|refine Zam rfl ?_|refine Zaj rfl ?_)|(refine E_id ?_;first|refine Zae ?_))
    have e0 : Zd7 roundL firstL Zfh = Zdf roundL firstL (Zbs L ++ Zbs M) (L.length + i) := by
     rw [show L.length + i = 0 by omega]; rfl
    rw [e0] at hS
    refine Zci (.s 0 (.s 1 (.s 2 (.s 3 (.s 4 (.s 5 (.s 6 (.s 7 (.s 8 (.s 10 (.s 11 (.s 12 (.s 13 (.s 14 (.s 15 (.s 16 (.h 9 (.s 17 .nil) .no))))))))))))))))) mixed (by kernel_rfl) rfl ?_
    have hS := hS.drew
    repeat (first|(refine Zbj ?_;first|refine Zag rfl rfl (fun _ => Zad rfl rfl) rfl rfl ?_|refine Zag rfl rfl (fun _ => Zbt rfl rfl) rfl rfl ?_|refine Zag rfl rfl (fun _ => Zau rfl rfl rfl (by omega) (by omega) (by first|assumption|exact ⟨_,_,rfl⟩)) rfl rfl ?_|refine Zag rfl rfl (fun _ => Zbk rfl rfl rfl (w64 (by omega) (by omega))) rfl rfl ?_|refine Zbi (fun w' => w'.cell? _ = some _) rfl rfl ((hr.rd hS).cellX (by omega) hx) (fun _ hc => Zao rfl rfl hc) rfl rfl ?_|refine Zbi (fun w' => Zdj w' _ _ _) rfl rfl hS.cellsN (fun _ hc => Zbc rfl rfl hc) rfl rfl ?_))
    refine Zbi (fun w' => Zdj w' _ _ _) rfl rfl ((rB.rd hS).cellsC (by first | omega | (dsimp only; omega)) sB (by rw [Za4,lB])) (fun _ hc => Zbc rfl rfl hc) rfl rfl ?_
    repeat (first|(refine Zbj ?_;first|refine Za8 rfl rfl ?_))
    refine Zbm 16 rfl rfl rfl rfl rfl hS (mark_ (Zdf roundL firstL (Zbs L ++ Zbs M) (L.length + i)) ((L.length : Int) + (i : Int)) y.a y.c y.s roundL firstL _ lC (hG2.mono fun r hr => (hr.rd hS).ro) ((hBM.all y hym).rd hS).ro (by have := hM4 y hym; omega)) ?_
    rintro _ w5 rfl hS
    rw [← hnext]
    refine And.intro (And.intro (.inr ((rB.rd hS).cellsC (by first|omega|(dsimp only;omega)) sB (by rw [Za4,lB]))) (by repeat (first|exact trivial|refine And.intro (.inl (by decide +kernel)) ?_|refine And.intro (.inr (by first|exact hS.cellsN|exact ((hr.rd hS).cellX (by omega) hx)|assumption)) ?_))) ?_
    repeat (first|fail)
    refine Zag rfl rfl (fun _ => Zf4 rfl rfl rfl lB lB) rfl rfl ?_
    rw [decide_eq_false (fun h => h rfl)]
    repeat (first|(refine G_id ?_;first|refine Zah ?_|refine Zab rfl rfl ?_)|(refine X_id ?_;first|refine X_yl (Zad rfl rfl) rfl rfl ?_|refine X_yl (Zac rfl rfl) rfl rfl ?_|refine X_yl (Zbk rfl rfl rfl (w64 (by omega) (by omega))) rfl rfl ?_)|(refine C_id ?_;first|refine Zaa ?_|refine Zaw ?_|refine Zaj rfl ?_)|(refine E_id ?_;first|refine Zae ?_|refine Zbf ?_)|(refine Zbj ?_;first|refine Zbw ?_))
    refine Zbu (i + 1) ⟨rfl,rfl,rfl,rfl,trivial⟩ ⟨by omega,hS.drops⟩ (by omega)
  ·have hS := hS3
   repeat (first|(refine G_id ?_;first|refine Zah ?_|refine Zab rfl rfl ?_)|(refine X_id ?_;first|(refine Zbm 15 rfl rfl rfl rfl rfl hS (known11_ _ (hG2.mono fun r hr => (hr.rd hS).ro)) ?_;rintro _ _ rfl hS)|refine X_yl (Zad rfl rfl) rfl rfl ?_|refine X_yl (Zac rfl rfl) rfl rfl ?_|refine X_yl (Zbt rfl rfl) rfl rfl ?_|refine X_yl (Za7 rfl rfl rfl (by omega)) rfl rfl ?_)|(refine C_id ?_;first|refine Zak ?_|refine Zaa ?_|refine Za2 ?_|refine Zb0 ?_|refine Zaj rfl ?_)|(refine E_id ?_;first|refine Zae ?_|refine Zav ?_|refine Zaz ?_|refine Zax rfl (Zap rfl) (Ret.mk ?_)))
   have hS := hbk hS
   exact ⟨rfl,hS.drops⟩
end Cr
