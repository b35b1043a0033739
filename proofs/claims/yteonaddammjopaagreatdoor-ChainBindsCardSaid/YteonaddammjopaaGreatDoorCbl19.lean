/-
  The law ChainNil: what nil tells; what it computes.
  The law ChainBinds: what it computes.
-/
import Derived.Test.YteonaddammjopaaGreatDoorCbl5
import Derived.Test.YteonaddammjopaaGreatDoorCbl18
import Derived.Test.YteonaddammjopaaGreatDoorCbl11
import Derived.Test.YteonaddammjopaaGreatDoorCbl17
namespace Cr
open Go Go.Proofs
set_option maxRecDepth 100000
set_option maxHeartbeats 16000000
attribute [local irreducible] Calls

theorem Zin (W : World) (hG : Gl W noF roundL firstL) : Calls Tryz.prog 15 #[] W (Ret fun v w => v = .bool true ∧ St W noF [] w) := Cl.calls_of_runD Cl.run11 W hG
end Cr
namespace Cr
open Go Go.Proofs
set_option maxRecDepth 100000
set_option maxHeartbeats 16000000
attribute [local irreducible] Calls

theorem BsIn.bss {L : List Bs} {X : List RowD} {W : World} {F : Nat → Prop} {a : Option Addr} {c : Nat} (h : BsIn L X) (h1 : Ro W F (own 36 1 a c (L.map Bs.val))) (h2 : Ro W F (bag X)) : Bss W F a L := ⟨h1.own_row,fun x hx => h2.bag (h.inn x hx)⟩
theorem Znm {l : List (List UInt8)} {L : List Bs} (hT : Zbz L = cutL (l.take 6)) : L.length ≤ 6 ∧ ∀ x ∈ L,x.s.length ≤ 420 := by
 refine ⟨?_,fun x hx => ?_⟩
 ·have := congrArg List.length hT
  simp [Zbz,cutL] at this; omega
 ·have : x.s ∈ Zbz L := List.mem_map.2 ⟨x,hx,rfl⟩
  rw [hT] at this
  obtain ⟨s,_,e⟩ := List.mem_map.1 this
  rw [← e]
  exact Zro s
theorem Zjw (rd fs : List Int) {l m : List (List UInt8)} : ∀ {n : Nat},(∀ j,j < n → l.getD j [] = m.getD j []) → Zd7 rd fs l n = Zd7 rd fs m n
 | 0,_ => rfl
 | n + 1,h => by
  show digest rd fs [Zd7 rd fs l n,_,_] = digest rd fs [Zd7 rd fs m n,_,_]
  rw [Zjw rd fs fun j hj => h j (by omega),h n (by omega)]
theorem Zmg {P : Program} {o : Oper} {σ : Env} {w : World} {t ty : TypeId} {x y : Operand} {a b : Bool} (ho : o.op = .binOp .neq t x y ty) (hx : ev σ x = some (.bool a)) (hy : ev σ y = some (.bool b)) [h : Und P t .bool] : Yl P o σ w (.bool (!(a == b))) := ⟨fun N ds f ha => by
 have h2 := run_neq_bool (P := P) w t a b h.und
 simp [execOp,ho,ha.eval hx,ha.eval hy,eqGuard,h2]⟩
theorem Rd.cellsC {w : World} {b off o' i n : Nat} {cs seg : List Value} (H : Rd w (row (some ⟨b,off,none⟩) cs)) (hi : o' = off + i) (h : (cs.drop i).take n = seg) (hn : seg.length = n) : Zda w ⟨b,o',none⟩ n seg := by
 subst hi; subst h
 exact ⟨H.seg _ _,hn⟩
theorem Zm9 (rd fs : List Int) (l : List (List UInt8)) {n i : Nat} (h : i < n) : ((Zgl rd fs l n).drop (i * 32)).take 32 = bv (Zd7 rd fs l (i + 1)) :=
 Zdz (f := fun i => bv (Zd7 rd fs l (i + 1))) (fun i _ => by rw [Za5,Zcp]) (by simp [h])
theorem chainBinds_ (a1 : Option Addr) (c1 : Nat) (l1 : List Bs) (a2 : Option Addr) (c2 : Nat) (l2 : List Bs) (W : World) (hG : Gl W noF roundL firstL) (hB1 : Bss W noF a1 l1) (hk1 : ∀ x ∈ l1,x.s.length ≤ x.c) (hB2 : Bss W noF a2 l2) (hk2 : ∀ x ∈ l2,x.s.length ≤ x.c) :
  Calls Tryz.prog 4 #[.slice a1 l1.length c1,.slice a2 l2.length c2] W (Ret fun v w => v = .bool true ∧ St W noF [] w) := by
 have hS := St.start W
 refine Zas Tryz.func4 rfl Tryz.ntmps4 rfl ?_
 repeat (first|(refine G_id ?_;first|refine Zah ?_|refine Zac rfl rfl ?_)|(refine X_id ?_;first|refine X_yl (Zad rfl rfl) rfl rfl ?_|refine X_yl (Zab rfl rfl) rfl rfl ?_)|(refine C_id ?_;first|refine Zaj ?_|refine Zaa ?_)|(refine E_id ?_;first|refine Zae ?_))
 refine Zan _ rfl rfl rfl rfl rfl (few11_ a1 c1 l1 _ (hB1.mono fun r hr => (hr.rd hS).ro) hk1) ?_
 rintro _ w ⟨b1,d1,L,X,rfl,hT1,hX1,hd1,hS'⟩
 replace hS := hS.plus hS'
 clear hS'
 repeat (first|(refine G_id ?_;first|refine Zac rfl rfl ?_)|(refine X_id ?_;first|refine X_yl (Zad rfl rfl) rfl rfl ?_))
 refine Zan _ rfl rfl rfl rfl rfl (few11_ a2 c2 l2 _ (hB2.mono fun r hr => (hr.rd hS).ro) hk2) ?_
 rintro _ w ⟨b2,d2,M,Y,rfl,hT2,hX2,hd2,hS'⟩
 replace hS := hS.plus hS'
 clear hS'
 obtain ⟨hL6,hL4⟩ := Znm hT1
 obtain ⟨hM6,hM4⟩ := Znm hT2
 by_cases hlen : L.length = M.length
 ·by_cases hz : L.length = 0
  ·have hz2 : M.length = 0 := by omega
   rw [hz,hz2]
   repeat (first|(refine G_id ?_;first|refine Zah ?_|refine Zac rfl rfl ?_|refine Zcn rfl rfl rfl rfl ?_)|(refine X_id ?_;first|(refine Zbn 15 rfl rfl rfl rfl rfl hS (Zin _ (hG.mono fun r hr => (hr.rd hS).ro)) ?_;rintro _ _ rfl hS)|refine X_yl (Zad rfl rfl) rfl rfl ?_|refine X_yl (Zab rfl rfl) rfl rfl ?_|refine X_yl (Za6 rfl rfl rfl) rfl rfl ?_|refine X_yl (Zbt rfl rfl) rfl rfl ?_|refine X_yl (Zea rfl rfl rfl (by omega)) rfl rfl ?_|refine X_yl (Zby rfl rfl rfl (by omega)) rfl rfl ?_)|(refine C_id ?_;first|refine Zaj ?_|refine Zaa ?_|refine Za1 ?_|refine Zam rfl ?_)|(refine E_id ?_;first|refine Zae ?_|refine Zat ?_|refine Zax rfl (Zap rfl) (Ret.mk ?_)))
   exact ⟨rfl,hS.drops⟩
  ·have hBL : Bss w noF b1 L := hX1.bss (hS.rd (r := own 36 1 b1 d1 (L.map Bs.val)) (by simp)).ro (hS.rd (r := bag X) (by simp)).ro
   repeat (first|(refine G_id ?_;first|refine Zah ?_|refine Zac rfl rfl ?_|refine Zcn rfl rfl rfl rfl ?_)|(refine X_id ?_;first|refine X_yl (Zad rfl rfl) rfl rfl ?_|refine X_yl (Zab rfl rfl) rfl rfl ?_|refine X_yl (Za6 rfl rfl rfl) rfl rfl ?_|refine X_yl (Zbt rfl rfl) rfl rfl ?_|refine X_yl (Zdw rfl rfl rfl (by omega)) rfl rfl ?_|refine X_yl (Zby rfl rfl rfl (by omega)) rfl rfl ?_)|(refine C_id ?_;first|refine Zaj ?_|refine Zaa ?_|refine Zav ?_|refine Zak rfl ?_)|(refine E_id ?_;first|refine Zae ?_))
   refine Zan _ rfl rfl rfl rfl rfl (marks_ b1 d1 L roundL firstL _ (hG.mono fun r hr => (hr.rd hS).ro) hBL (by omega) (fun x hx => by have := hL4 x hx; omega)) ?_
   rintro _ w ⟨e1,f1,rfl,hf1,hS'⟩
   replace hS := hS.plus hS'
   clear hS' hBL
   have hBM : Bss w noF b2 M := hX2.bss (hS.rd (r := own 36 1 b2 d2 (M.map Bs.val)) (by simp)).ro (hS.rd (r := bag Y) (by simp)).ro
   repeat (first|(refine G_id ?_;first|refine Zac rfl rfl ?_)|(refine X_id ?_;first|refine X_yl (Zad rfl rfl) rfl rfl ?_))
   refine Zan _ rfl rfl rfl rfl rfl (marks_ b2 d2 M roundL firstL _ (hG.mono fun r hr => (hr.rd hS).ro) hBM (by omega) (fun x hx => by have := hM4 x hx; omega)) ?_
   rintro _ w ⟨e2,f2,rfl,hf2,hS'⟩
   replace hS := hS.plus hS'
   clear hS' hBM
   repeat (first|(refine G_id ?_;first|refine Zah ?_|refine Zac rfl rfl ?_|refine Zcn rfl rfl rfl rfl ?_)|(refine X_id ?_;first|refine X_yl (Zad rfl rfl) rfl rfl ?_|refine X_yl (Zab rfl rfl) rfl rfl ?_|refine X_yl (Za6 rfl rfl rfl) rfl rfl ?_|refine X_yl (Zbt rfl rfl) rfl rfl ?_|refine X_yl (Zby rfl rfl rfl (by omega)) rfl rfl ?_)|(refine C_id ?_;first|refine Zaj ?_|refine Zaa ?_|refine Zaq ?_|refine Zav ?_|refine Zak rfl ?_)|(refine E_id ?_;first|refine Zae ?_))
   obtain ⟨F2,hS2,hro,hw,hbk⟩ := hS.call []
   have rA : Ro _ F2 (row e1 (Zgl roundL firstL (Zbz L) L.length)) := (hro (own 23 32 e1 f1 (Zgl roundL firstL (Zbz L) L.length)) (by simp)).own_row
   have rB : Ro _ F2 (row e2 (Zgl roundL firstL (Zbz M) M.length)) := (hro (own 23 32 e2 f2 (Zgl roundL firstL (Zbz M) M.length)) (by simp)).own_row
   have hBL : Bss _ F2 b1 L := hX1.bss (hro (own 36 1 b1 d1 (L.map Bs.val)) (by simp)) (hro (bag X) (by simp))
   have hBM : Bss _ F2 b2 M := hX2.bss (hro (own 36 1 b2 d2 (M.map Bs.val)) (by simp)) (hro (bag Y) (by simp))
   have hG2 := hG.mono hw
   clear hS hro hw
   refine Zb8 (α := Nat × Bool) (fun z => [(5,.slice b1 L.length d1),(6,.slice b2 M.length d2),(7,.slice e1 L.length f1),(8,.slice e2 M.length f2),(9,.bool z.2),(10,.int .i64 (z.1 : Nat))])
    (fun z w => z.1 ≤ L.length ∧ z.2 = decide (∀ j,j < z.1 → (Zbz L).getD j [] = (Zbz M).getD j []) ∧ St _ F2 [] w) (fun z => L.length - z.1) (0,true) ⟨rfl,rfl,rfl,rfl,rfl,rfl,trivial⟩ ⟨Nat.zero_le _,by simp,hS2⟩ ?_
   clear hS2
   rintro ⟨i,same⟩ w ⟨hi,hsm,hS⟩
   simp only at hi hsm hS ⊢
   by_cases hlt : i < L.length
   ·have hx0 : L[i]? = some L[i] := List.getElem?_eq_getElem hlt
    generalize L[i] = x at hx0
    have hy0 : M[i]? = some M[i] := List.getElem?_eq_getElem (by omega)
    generalize M[i] = y at hy0
    have hxm := List.mem_of_getElem? hx0
    have hym := List.mem_of_getElem? hy0
    have hr := hBL.row
    have hr2 := hBM.row
    have hx : (L.map Bs.val)[i]? = some (.slice x.a x.s.length x.c) := by simp [hx0,Bs.val]
    have hx2 : (M.map Bs.val)[i]? = some (.slice y.a y.s.length y.c) := by simp [hy0,Bs.val]
    have sA := Zm9 roundL firstL (Zbz L) hlt
    have sB := Zm9 roundL firstL (Zbz M) (show i < M.length by omega)
    have gx : (Zbz L).getD i [] = x.s := by simp [Zbz,List.getD,hx0]
    have gy : (Zbz M).getD i [] = y.s := by simp [Zbz,List.getD,hy0]
    obtain ⟨xb,xo,rfl⟩ := (hr.rd hS).base (by intro e; rw [e] at hx; simp at hx)
    obtain ⟨yb,yo,rfl⟩ := (hr2.rd hS).base (by intro e; rw [e] at hx2; simp at hx2)
    obtain ⟨eb,eo,rfl⟩ := (rA.rd hS).base (by intro e; rw [e] at sA; have := congrArg List.length sA; simp [Za5,Zcp] at this)
    obtain ⟨fb,fo,rfl⟩ := (rB.rd hS).base (by intro e; rw [e] at sB; have := congrArg List.length sB; simp [Za5,Zcp] at this)
    have lA := Zcp roundL firstL (Zbz L) (i + 1)
    have lB := Zcp roundL firstL (Zbz M) (i + 1)
    have hSm := fun W (ha : Rd W (bytes x.a x.s)) (hb : Rd W (bytes y.a y.s)) => same_ x.a y.a x.c y.c x.s y.s W ha hb (by have := hL4 x hxm; omega)
    obtain ⟨same2,hs2⟩ : ∃ b,b = (same && decide (x.s = y.s)) := ⟨_,rfl⟩
    have hsm2 : same2 = decide (∀ j,j < i + 1 → (Zbz L).getD j [] = (Zbz M).getD j []) := by
     rw [hs2,hsm,← Bool.decide_and]
     apply decide_eq_decide.2
     refine ⟨fun h j hj => ?_,fun h => ⟨fun j hj => h j (by omega),by rw [← gx,← gy]; exact h i (by omega)⟩⟩
     rcases Nat.lt_or_ge j i with q | q
     ·exact h.1 j q
     ·obtain rfl : j = i := by omega
      rw [gx,gy]; exact h.2
    repeat (first|(refine G_id ?_;first|refine Zah ?_|refine Zac rfl rfl ?_)|(refine X_id ?_;first|refine X_yl (Zad rfl rfl) rfl rfl ?_|refine X_yl (Zbt rfl rfl) rfl rfl ?_|refine X_yl (Za4 rfl rfl rfl (by omega)) rfl rfl ?_)|(refine C_id ?_;first|refine Zaj ?_|refine Zaa ?_|refine Zaq ?_|refine Zav ?_|refine Zam rfl ?_)|(refine E_id ?_;first|refine Zae ?_))
    cases same with
    | false =>
     rw [Bool.false_and] at hs2
     subst hs2
     refine Zca (.s 0 (.s 1 (.s 2 (.s 3 (.s 4 (.s 5 (.s 6 (.s 7 (.s 8 (.s 9 (.h 10 (.s 11 (.s 12 .nil)) .no))))))))))) mixed (by kernel_rfl) rfl ?_
     have hS := hS.drew
     repeat (first|(refine C_id ?_;first|refine Zaj ?_)|(refine E_id ?_;first|refine Zae ?_)|(refine Zbf ?_;first|refine Zbs ?_|refine Zag rfl rfl (fun _ => Zad rfl rfl) rfl rfl ?_|refine Zag rfl rfl (fun _ => Zab rfl rfl) rfl rfl ?_|refine Zag rfl rfl (fun _ => Za6 rfl rfl rfl) rfl rfl ?_|refine Ze4 rfl rfl rfl rfl rfl rfl rfl ?_|refine Zr0 rfl rfl rfl rfl rfl rfl rfl ?_))
     refine Zca (.s 0 (.s 1 (.s 2 (.s 3 (.s 4 (.s 5 (.s 6 (.s 7 (.s 8 (.s 9 (.s 10 .nil))))))))))) mixed (by kernel_rfl) rfl ?_
     have hS := hS.drew
     repeat (first|(refine Zbf ?_;first|refine Zag rfl rfl (fun _ => Zad rfl rfl) rfl rfl ?_|refine Zag rfl rfl (fun _ => Zau rfl rfl rfl (by omega) (by omega) (by first|assumption|exact ⟨_,_,rfl⟩)) rfl rfl ?_))
     refine Zbj (fun w' => Zda w' _ _ _) rfl rfl ((rA.rd hS).cellsC (by first | omega | (dsimp only; omega)) sA (by rw [Za5,lA])) (fun _ hc => Zba rfl rfl hc) rfl rfl ?_
     repeat (first|(refine Zbf ?_;first|refine Zag rfl rfl (fun _ => Zad rfl rfl) rfl rfl ?_|refine Zag rfl rfl (fun _ => Zau rfl rfl rfl (by omega) (by omega) (by first|assumption|exact ⟨_,_,rfl⟩)) rfl rfl ?_))
     refine Zbj (fun w' => Zda w' _ _ _) rfl rfl ((rB.rd hS).cellsC (by first | omega | (dsimp only; omega)) sB (by rw [Za5,lB])) (fun _ hc => Zba rfl rfl hc) rfl rfl ?_
     repeat (first|fail)
     refine Zag rfl rfl (fun _ => Zix rfl rfl rfl lA lB) rfl rfl ?_
     obtain ⟨q,hq⟩ : ∃ q,q = decide (Zd7 roundL firstL (Zbz L) (i + 1) = Zd7 roundL firstL (Zbz M) (i + 1)) := ⟨_,rfl⟩
     rw [← hq]
     refine Zag rfl rfl (fun _ => Zmg rfl rfl rfl) rfl rfl ?_
     cases q with
     | false =>
      repeat (first|(refine G_id ?_;first|refine Zah ?_|refine Zac rfl rfl ?_)|(refine X_id ?_;first|refine X_yl (Zad rfl rfl) rfl rfl ?_|refine X_yl (Zab rfl rfl) rfl rfl ?_|refine X_yl (Zbm rfl rfl rfl (w64 (by omega) (by omega))) rfl rfl ?_)|(refine C_id ?_;first|refine Zaa ?_|refine Zav ?_|refine Zak rfl ?_)|(refine E_id ?_;first|refine Zae ?_|refine Zbh ?_)|(refine Zbf ?_;first|refine Zbs ?_))
      refine Zbu (α := Nat × Bool) (z := (i,false)) (i + 1,false) ⟨rfl,rfl,rfl,rfl,rfl,rfl,trivial⟩ ⟨by simp only; omega,hsm2,hS⟩ (by simp only; omega)
     | true =>
      repeat (first|(refine C_id ?_;first|refine Zaj ?_|refine Zam rfl ?_)|(refine E_id ?_;first|refine Zae ?_)|(refine Zbf ?_;first|refine Zbs ?_))
      refine Zca (.h 0 (.s 1 (.s 2 (.s 3 (.s 4 (.s 5 (.s 6 (.s 7 (.s 8 (.s 9 (.s 10 (.s 11 (.s 12 (.s 13 (.s 14 (.s 15 (.s 16 .nil)))))))))))))))) .no) mixed (by kernel_rfl) rfl ?_
      have hS := hS.drew
      repeat (first|(refine X_id ?_;first|(refine Zbn 15 rfl rfl rfl rfl rfl hS (Zin _ (hG2.mono fun r hr => (hr.rd hS).ro)) ?_;rintro _ _ rfl hS))|(refine Zbf ?_;first|refine Zag rfl rfl (fun _ => Zad rfl rfl) rfl rfl ?_|refine Zag rfl rfl (fun _ => Zbk rfl rfl rfl) rfl rfl ?_|refine Za8 rfl rfl ?_|refine Zcz rfl rfl rfl rfl (fun _ => Zad rfl rfl) rfl rfl ?_|refine Zcz rfl rfl rfl rfl (fun _ => Zb5 rfl rfl) rfl rfl ?_|refine Zcz rfl rfl rfl rfl (fun _ => Zau rfl rfl rfl (by omega) (by omega) (by first|assumption|exact ⟨_,_,rfl⟩)) rfl rfl ?_)|(refine Za3 ?_;first|refine And.intro (by repeat (first|exact trivial|refine And.intro (.inl (by decide +kernel)) ?_|refine And.intro (.inr (by first|assumption|exact hS.cell|exact Zal (by assumption)|exact hS.cellI (by omega)|exact hS.cellIP (by omega)|exact hS.cellsN|exact ((hr.rd hS).cellX (by omega) hx)|exact ((hr2.rd hS).cellX (by omega) hx2)|exact hS.cellB (by omega)|exact hS.cellBA (by omega)|exact (hb.rd hS).cellB' (by omega)|exact ((hr.rd hS).cellF (by first|omega|(dsimp only;omega)) hx)|exact ((hr2.rd hS).cellF (by first|omega|(dsimp only;omega)) hx2)|exact hS.cellO 0 (by omega)|exact hS.cellO 1 (by omega)|exact hS.cellIA (by omega)|exact Zal (hc.rd hS).pts|exact hb.rd hS|exact hS.cellO 4 (by omega)|exact hS.cellO 5 (by omega)|exact hS.cellO 6 (by omega)|exact hS.cellO 7 (by omega)|exact hS.cellO 8 (by omega)|exact hS.cellO 9 (by omega)|exact hS.cellO 10 (by omega)|exact hS.cellO 11 (by omega)|exact hS.cellO 12 (by omega)|exact hS.cellO 13 (by omega)|exact hS.cellO 2 (by omega)|exact hS.cellO 3 (by omega))) ?_)) ?_))
      refine Zck (fun w' => Zda w' _ _ _) rfl rfl rfl rfl ((rA.rd hS).cellsC (by first | omega | (dsimp only; omega)) sA (by rw [Za5,lA])) (fun _ hc => Zba rfl rfl hc) rfl rfl ?_
      repeat (first|(refine Zbf ?_;first|refine Zcz rfl rfl rfl rfl (fun _ => Zad rfl rfl) rfl rfl ?_|refine Zcz rfl rfl rfl rfl (fun _ => Zau rfl rfl rfl (by omega) (by omega) (by first|assumption|exact ⟨_,_,rfl⟩)) rfl rfl ?_))
      refine Zck (fun w' => Zda w' _ _ _) rfl rfl rfl rfl ((rB.rd hS).cellsC (by first | omega | (dsimp only; omega)) sB (by rw [Za5,lB])) (fun _ hc => Zba rfl rfl hc) rfl rfl ?_
      repeat (first|fail)
      refine Zcz rfl rfl rfl rfl (fun _ => Zix rfl rfl rfl lA lB) rfl rfl ?_
      rw [← hq]
      repeat (first|(refine C_id ?_;first|refine Za1 ?_)|(refine E_id ?_;first|refine Zae ?_|refine Zat ?_|refine Zbg ?_|refine Zax rfl (Zap rfl) (Ret.mk ?_))|(refine Zbf ?_;first|refine Zbs ?_|refine Zag rfl rfl (fun _ => Zab rfl rfl) rfl rfl ?_|refine Zag rfl rfl (fun _ => Zbk rfl rfl rfl) rfl rfl ?_))
      have hS := hbk hS
      exact ⟨rfl,hS.drops⟩
    | true =>
     rw [Bool.true_and] at hs2
     subst hs2
     refine Zca (.s 0 (.s 1 (.s 2 (.s 3 (.s 4 (.s 5 (.s 6 (.s 7 (.s 8 (.s 9 (.h 10 (.s 11 (.s 12 .nil)) .no))))))))))) mixed (by kernel_rfl) rfl ?_
     have hS := hS.drew
     repeat (first|(refine Zbf ?_;first|refine Zag rfl rfl (fun _ => Zad rfl rfl) rfl rfl ?_|refine Zcz rfl rfl rfl rfl (fun _ => Zad rfl rfl) rfl rfl ?_|refine Zcz rfl rfl rfl rfl (fun _ => Zau rfl rfl rfl (by omega) (by omega) (by first|assumption|exact ⟨_,_,rfl⟩)) rfl rfl ?_|refine Zck (fun w' => w'.cell? _ = some _) rfl rfl rfl rfl ((hr.rd hS).cellX (by omega) hx) (fun _ hc => Zao rfl rfl hc) rfl rfl ?_))
     refine Zck (fun w' => w'.cell? _ = some _) rfl rfl rfl rfl ((hr2.rd hS).cellX (by omega) hx2) (fun _ hc => Zao rfl rfl hc) rfl rfl ?_
     repeat (first|(refine X_id ?_;first|(refine Zbn 17 rfl rfl rfl rfl rfl hS (hSm _ ((hBL.all x hxm).rd hS) ((hBM.all y hym).rd hS)) ?_;rintro _ _ rfl hS))|(refine C_id ?_;first|refine Zaj ?_)|(refine E_id ?_;first|refine Zae ?_)|(refine Zbf ?_;first|refine Zbs ?_|refine Zag rfl rfl (fun _ => Zab rfl rfl) rfl rfl ?_|refine Zag rfl rfl (fun _ => Zbk rfl rfl rfl) rfl rfl ?_|refine Zgk rfl rfl rfl rfl ?_)|(refine Za3 ?_;first|refine And.intro (by repeat (first|exact trivial|refine And.intro (.inl (by decide +kernel)) ?_|refine And.intro (.inr (by first|assumption|exact hS.cell|exact Zal (by assumption)|exact hS.cellI (by omega)|exact hS.cellIP (by omega)|exact hS.cellsN|exact ((hr.rd hS).cellX (by omega) hx)|exact ((hr2.rd hS).cellX (by omega) hx2)|exact hS.cellB (by omega)|exact hS.cellBA (by omega)|exact (hb.rd hS).cellB' (by omega)|exact ((hr.rd hS).cellF (by first|omega|(dsimp only;omega)) hx)|exact ((hr2.rd hS).cellF (by first|omega|(dsimp only;omega)) hx2)|exact hS.cellO 0 (by omega)|exact hS.cellO 1 (by omega)|exact hS.cellIA (by omega)|exact Zal (hc.rd hS).pts|exact hb.rd hS|exact hS.cellO 4 (by omega)|exact hS.cellO 5 (by omega)|exact hS.cellO 6 (by omega)|exact hS.cellO 7 (by omega)|exact hS.cellO 8 (by omega)|exact hS.cellO 9 (by omega)|exact hS.cellO 10 (by omega)|exact hS.cellO 11 (by omega)|exact hS.cellO 12 (by omega)|exact hS.cellO 13 (by omega)|exact hS.cellO 2 (by omega)|exact hS.cellO 3 (by omega))) ?_)) ?_))
     refine Zca (.s 0 (.s 1 (.s 2 (.s 3 (.s 4 (.s 5 (.s 6 (.s 7 (.s 8 (.s 9 (.s 10 .nil))))))))))) mixed (by kernel_rfl) rfl ?_
     have hS := hS.drew
     repeat (first|(refine Zbf ?_;first|refine Zag rfl rfl (fun _ => Zad rfl rfl) rfl rfl ?_|refine Zag rfl rfl (fun _ => Zau rfl rfl rfl (by omega) (by omega) (by first|assumption|exact ⟨_,_,rfl⟩)) rfl rfl ?_))
     refine Zbj (fun w' => Zda w' _ _ _) rfl rfl ((rA.rd hS).cellsC (by first | omega | (dsimp only; omega)) sA (by rw [Za5,lA])) (fun _ hc => Zba rfl rfl hc) rfl rfl ?_
     repeat (first|(refine Zbf ?_;first|refine Zag rfl rfl (fun _ => Zad rfl rfl) rfl rfl ?_|refine Zag rfl rfl (fun _ => Zau rfl rfl rfl (by omega) (by omega) (by first|assumption|exact ⟨_,_,rfl⟩)) rfl rfl ?_))
     refine Zbj (fun w' => Zda w' _ _ _) rfl rfl ((rB.rd hS).cellsC (by first | omega | (dsimp only; omega)) sB (by rw [Za5,lB])) (fun _ hc => Zba rfl rfl hc) rfl rfl ?_
     repeat (first|fail)
     refine Zag rfl rfl (fun _ => Zix rfl rfl rfl lA lB) rfl rfl ?_
     obtain ⟨q,hq⟩ : ∃ q,q = decide (Zd7 roundL firstL (Zbz L) (i + 1) = Zd7 roundL firstL (Zbz M) (i + 1)) := ⟨_,rfl⟩
     rw [← hq]
     refine Zag rfl rfl (fun _ => Zmg rfl rfl rfl) rfl rfl ?_
     obtain ⟨s2,hs2e⟩ : ∃ s2,s2 = decide (x.s = y.s) := ⟨_,rfl⟩
     rw [← hs2e] at hsm2 ⊢
     have hsq : s2 = true → q = true := fun h => by
      rw [hq]
      refine decide_eq_true (Zjw _ _ fun j hj => ?_)
      exact of_decide_eq_true (hsm2.symm.trans h) j hj
     cases s2 with
     | true =>
      obtain rfl := hsq rfl
      repeat (first|(refine G_id ?_;first|refine Zah ?_|refine Zac rfl rfl ?_)|(refine X_id ?_;first|refine X_yl (Zad rfl rfl) rfl rfl ?_|refine X_yl (Zab rfl rfl) rfl rfl ?_|refine X_yl (Zbm rfl rfl rfl (w64 (by omega) (by omega))) rfl rfl ?_)|(refine C_id ?_;first|refine Zaa ?_|refine Zav ?_|refine Zak rfl ?_)|(refine E_id ?_;first|refine Zae ?_|refine Zbh ?_)|(refine Zbf ?_;first|refine Zbs ?_))
      refine Zbu (α := Nat × Bool) (z := (i,true)) (i + 1,true) ⟨rfl,rfl,rfl,rfl,rfl,rfl,trivial⟩ ⟨by simp only; omega,hsm2,hS⟩ (by simp only; omega)
     | false =>
      cases q with
      | false =>
       repeat (first|(refine G_id ?_;first|refine Zah ?_|refine Zac rfl rfl ?_)|(refine X_id ?_;first|refine X_yl (Zad rfl rfl) rfl rfl ?_|refine X_yl (Zab rfl rfl) rfl rfl ?_|refine X_yl (Zbm rfl rfl rfl (w64 (by omega) (by omega))) rfl rfl ?_)|(refine C_id ?_;first|refine Zaa ?_|refine Zav ?_|refine Zak rfl ?_)|(refine E_id ?_;first|refine Zae ?_|refine Zbh ?_)|(refine Zbf ?_;first|refine Zbs ?_))
       refine Zbu (α := Nat × Bool) (z := (i,true)) (i + 1,false) ⟨rfl,rfl,rfl,rfl,rfl,rfl,trivial⟩ ⟨by simp only; omega,hsm2,hS⟩ (by simp only; omega)
      | true =>
       repeat (first|(refine C_id ?_;first|refine Zaj ?_|refine Zam rfl ?_)|(refine E_id ?_;first|refine Zae ?_)|(refine Zbf ?_;first|refine Zbs ?_))
       refine Zca (.h 0 (.s 1 (.s 2 (.s 3 (.s 4 (.s 5 (.s 6 (.s 7 (.s 8 (.s 9 (.s 10 (.s 11 (.s 12 (.s 13 (.s 14 (.s 15 (.s 16 .nil)))))))))))))))) .no) mixed (by kernel_rfl) rfl ?_
       have hS := hS.drew
       repeat (first|(refine X_id ?_;first|(refine Zbn 15 rfl rfl rfl rfl rfl hS (Zin _ (hG2.mono fun r hr => (hr.rd hS).ro)) ?_;rintro _ _ rfl hS))|(refine Zbf ?_;first|refine Zag rfl rfl (fun _ => Zad rfl rfl) rfl rfl ?_|refine Zag rfl rfl (fun _ => Zbk rfl rfl rfl) rfl rfl ?_|refine Za8 rfl rfl ?_|refine Zcz rfl rfl rfl rfl (fun _ => Zad rfl rfl) rfl rfl ?_|refine Zcz rfl rfl rfl rfl (fun _ => Zb5 rfl rfl) rfl rfl ?_|refine Zcz rfl rfl rfl rfl (fun _ => Zau rfl rfl rfl (by omega) (by omega) (by first|assumption|exact ⟨_,_,rfl⟩)) rfl rfl ?_)|(refine Za3 ?_;first|refine And.intro (by repeat (first|exact trivial|refine And.intro (.inl (by decide +kernel)) ?_|refine And.intro (.inr (by first|assumption|exact hS.cell|exact Zal (by assumption)|exact hS.cellI (by omega)|exact hS.cellIP (by omega)|exact hS.cellsN|exact ((hr.rd hS).cellX (by omega) hx)|exact ((hr2.rd hS).cellX (by omega) hx2)|exact hS.cellB (by omega)|exact hS.cellBA (by omega)|exact (hb.rd hS).cellB' (by omega)|exact ((hr.rd hS).cellF (by first|omega|(dsimp only;omega)) hx)|exact ((hr2.rd hS).cellF (by first|omega|(dsimp only;omega)) hx2)|exact hS.cellO 0 (by omega)|exact hS.cellO 1 (by omega)|exact hS.cellIA (by omega)|exact Zal (hc.rd hS).pts|exact hb.rd hS|exact hS.cellO 4 (by omega)|exact hS.cellO 5 (by omega)|exact hS.cellO 6 (by omega)|exact hS.cellO 7 (by omega)|exact hS.cellO 8 (by omega)|exact hS.cellO 9 (by omega)|exact hS.cellO 10 (by omega)|exact hS.cellO 11 (by omega)|exact hS.cellO 12 (by omega)|exact hS.cellO 13 (by omega)|exact hS.cellO 2 (by omega)|exact hS.cellO 3 (by omega))) ?_)) ?_))
       refine Zck (fun w' => Zda w' _ _ _) rfl rfl rfl rfl ((rA.rd hS).cellsC (by first | omega | (dsimp only; omega)) sA (by rw [Za5,lA])) (fun _ hc => Zba rfl rfl hc) rfl rfl ?_
       repeat (first|(refine Zbf ?_;first|refine Zcz rfl rfl rfl rfl (fun _ => Zad rfl rfl) rfl rfl ?_|refine Zcz rfl rfl rfl rfl (fun _ => Zau rfl rfl rfl (by omega) (by omega) (by first|assumption|exact ⟨_,_,rfl⟩)) rfl rfl ?_))
       refine Zck (fun w' => Zda w' _ _ _) rfl rfl rfl rfl ((rB.rd hS).cellsC (by first | omega | (dsimp only; omega)) sB (by rw [Za5,lB])) (fun _ hc => Zba rfl rfl hc) rfl rfl ?_
       repeat (first|fail)
       refine Zcz rfl rfl rfl rfl (fun _ => Zix rfl rfl rfl lA lB) rfl rfl ?_
       rw [← hq]
       repeat (first|(refine C_id ?_;first|refine Za1 ?_)|(refine E_id ?_;first|refine Zae ?_|refine Zat ?_|refine Zbg ?_|refine Zax rfl (Zap rfl) (Ret.mk ?_))|(refine Zbf ?_;first|refine Zbs ?_|refine Zag rfl rfl (fun _ => Zab rfl rfl) rfl rfl ?_|refine Zag rfl rfl (fun _ => Zbk rfl rfl rfl) rfl rfl ?_))
       have hS := hbk hS
       exact ⟨rfl,hS.drops⟩
   ·repeat (first|(refine G_id ?_;first|refine Zah ?_|refine Zac rfl rfl ?_)|(refine X_id ?_;first|(refine Zbn 15 rfl rfl rfl rfl rfl hS (Zin _ (hG2.mono fun r hr => (hr.rd hS).ro)) ?_;rintro _ _ rfl hS)|refine X_yl (Zad rfl rfl) rfl rfl ?_|refine X_yl (Zab rfl rfl) rfl rfl ?_|refine X_yl (Zbt rfl rfl) rfl rfl ?_|refine X_yl (Za7 rfl rfl rfl (by omega)) rfl rfl ?_)|(refine C_id ?_;first|refine Zaj ?_|refine Zaa ?_|refine Za1 ?_|refine Zb1 ?_|refine Zak rfl ?_)|(refine E_id ?_;first|refine Zae ?_|refine Zaw ?_|refine Zaz ?_|refine Zax rfl (Zap rfl) (Ret.mk ?_)))
    have hS := hbk hS
    exact ⟨rfl,hS.drops⟩
 ·repeat (first|(refine G_id ?_;first|refine Zah ?_|refine Zac rfl rfl ?_|refine G_no rfl rfl rfl rfl rfl rfl ?_)|(refine X_id ?_;first|(refine Zbn 15 rfl rfl rfl rfl rfl hS (Zin _ (hG.mono fun r hr => (hr.rd hS).ro)) ?_;rintro _ _ rfl hS)|refine X_yl (Zad rfl rfl) rfl rfl ?_|refine X_yl (Zab rfl rfl) rfl rfl ?_|refine X_yl (Zbk rfl rfl rfl) rfl rfl ?_|refine X_yl (Zbt rfl rfl) rfl rfl ?_|refine X_yl (Zci rfl rfl rfl (by omega)) rfl rfl ?_)|(refine C_id ?_;first|refine Zaj ?_|refine Zaa ?_|refine Za1 ?_|refine Zam rfl ?_)|(refine E_id ?_;first|refine Zae ?_|refine Zat ?_|refine Zax rfl (Zap rfl) (Ret.mk ?_)))
  exact ⟨rfl,hS.drops⟩
end Cr
