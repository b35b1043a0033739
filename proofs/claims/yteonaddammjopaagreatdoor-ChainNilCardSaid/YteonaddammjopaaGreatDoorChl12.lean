/-
  Layer 4 (wal): entry.
  Layer 4 (wal): clear; Once.Do.
  Layer 4 (wal): found.
  Layer 4 (wal): redo.
  sync.Mutex,sync.Once,as one goroutine meets them.
  Layer 4 (wal): Once.Do at Open; Open.
-/
import Derived.Test.YteonaddammjopaaGreatDoorChl11
import Derived.Test.YteonaddammjopaaGreatDoorChl4
import Derived.Laws.LoneSync
namespace Cr
open Go Go.Proofs
set_option maxRecDepth 100000
set_option maxHeartbeats 4000000
attribute [local irreducible] Calls

structure Ent where
 no : Int
 b : List UInt8
 count : Int
 d : List UInt8
 ok : Bool
def Ent.none : Ent := ⟨0,[],0,List.replicate 32 0,false⟩
def entOf (a b : List UInt8) (number at_ top : Int) : Ent :=
 ⟨Zd5 ((a.drop 16).take 4),b,Zd5 ((a.drop 12).take 4),(a.drop 20).take 32,decide (a = noteB number at_ (Zd5 ((a.drop 12).take 4)) (Zd5 ((a.drop 16).take 4)) ((a.drop 20).take 32)) && decide (Zd5 ((a.drop 16).take 4) < top)⟩
def entM (D : DiskM) (j : Nat) (number at_ : Int) : Ent :=
 if at_ < 0 ∨ (j : Int) / 2 ≤ at_ then Ent.none else
 if ¬ (D.read (1 + 2 * at_)).1 = 0 ∨ ¬ (D.read (1 + 2 * at_ + 1)).1 = 0 then Ent.none else
 entOf (D.read (1 + 2 * at_)).2 (D.read (1 + 2 * at_ + 1)).2 number at_ ((D.laid.length : Int) - 1 - j)
theorem read_64 {D : DiskM} (hok : D.ok) {no : Int} (h : (D.read no).1 = 0) : (D.read no).2.length = 64 := by
 unfold DiskM.read at h ⊢
 by_cases h1 : D.off = true
 ·simp [h1] at h
 ·rw [if_neg h1] at h ⊢
  by_cases h2 : Zek D no = false
  ·simp [h2] at h
  ·rw [if_neg h2]
   have h2' : 0 ≤ no ∧ no < D.laid.length := by simpa [Zek] using h2
   simp only [DiskM.find]
   split
   ·rename_i x hx
    exact (hok.line64 x (by simpa using List.mem_of_find?_eq_some hx)).1
   ·rw [List.getD_eq_getElem?_getD,List.getElem?_eq_getElem (show no.toNat < D.laid.length by omega)]
    exact hok.laid64 _ (List.getElem_mem _)
def Ent.val (e : Ent) (a : Option Addr) (c : Nat) : Value := .tuple #[.agg #[.int .i64 e.no,.slice a e.b.length c],.int .i64 e.count,.agg (bv e.d).toArray,.bool e.ok]
theorem small_sub (ab ao l n c : Nat) (s : List UInt8) (w : World) (hs : Rd w (bytes (some ⟨ab,ao,none⟩) s)) (h : l + n ≤ s.length) (hn : n ≤ 1048576) (hc : s.length ≤ c) (h0 : 0 < n) :
  Calls Tryz.prog 203 #[.slice (some ⟨ab,ao + l,none⟩) n (c - l)] w (Ret fun v w' => v = .int .i64 (Zd5 ((s.drop l).take n)) ∧ w = w') := by
 have h1 := hs.subBytes (l := l) (h := l + n) (c := c) (by omega) (by omega)
 rw [show sub (some ⟨ab,ao,none⟩) l 1 c = some ⟨ab,ao + l,none⟩ by unfold sub; rw [if_neg (by omega)]; simp [Zcj],show l + n - l = n by omega] at h1
 have hl : ((s.drop l).take n).length = n := by simp; omega
 have := small_ (some ⟨ab,ao + l,none⟩) (c - l) ((s.drop l).take n) w h1 (by omega)
 rw [hl] at this
 exact this
theorem entry_ (lp p : Nat) (o s m : Int) (j : Nat) (done : Int) (rdn : Bool) (D : DiskM) (number at_ : Int) (W : World) (hL : Rd W (Zdl lp p o s m j done rdn)) (hD : Rd W (disk p D)) (hj : j ≤ 4096) (hline : D.line.length < 1073741824) (hat : at_ ≤ 1099511627776) :
  Calls Tryz.prog 205 #[.pointer (some ⟨lp,0,none⟩),.int .i64 number,.int .i64 at_] W (Ret fun v w => ∃ a c,v = (entM D j number at_).val a c ∧ (entM D j number at_).b.length ≤ c ∧ St W noF [bytes a (entM D j number at_).b] w) := by
 have hS := St.start W
 have hc := hL.pts
 have hLo := hL.ro
 have hDo := hD.ro
 have hok := hD.disk.1
 have hl0 : LenO (bv (List.replicate 32 0)) 32 := inferInstance
 by_cases h1 : at_ < 0
 ·have e : entM D j number at_ = Ent.none := by unfold entM; rw [if_pos (.inl h1)]
  refine Zaq Tryz.func205 rfl Tryz.ntmps205 rfl ?_
  repeat (first|(refine G_id ?_;first|refine Zah ?_|refine Zac rfl rfl ?_|refine G_no rfl rfl rfl rfl rfl rfl ?_)|(refine X_id ?_;first|refine X_yl (Zad rfl rfl) rfl rfl ?_|refine X_yl (Zab rfl rfl) rfl rfl ?_|refine X_yl (Zbp rfl rfl rfl) rfl rfl ?_|refine X_yl (Za7 rfl rfl rfl (by omega)) rfl rfl ?_|refine Zbc rfl rfl rfl hS (fun _ _ hS _ => ?_))|(refine C_id ?_;first|refine Zaj ?_|refine Zaa ?_|refine Zam rfl ?_)|(refine E_id ?_;first|refine Zae ?_))
  rw [bv_rep] at hS
  refine Zco (.s 0 (.s 1 (.h 2 (.s 3 (.h 4 (.s 5 .nil) .no)) .no))) mixed (by kernel_rfl) rfl ?_
  have hS := hS.drew
  repeat (first|(refine X_id ?_;first|refine Za2 rfl rfl rfl rfl hS (fun _ hS _ => ?_)|refine Zc2 rfl rfl rfl rfl hS (fun _ hS => ?_))|(refine C_id ?_;first|refine Za0 ?_)|(refine E_id ?_;first|refine Zae ?_|refine Zar ?_|refine E_ret4 rfl (by first|exact Zao rfl|exact Zay rfl (Za5 hS.cell)|exact Zay rfl (Za4 hS.cellsN)) (by first|exact Zao rfl|exact Zay rfl (Za5 hS.cell)|exact Zay rfl (Za4 hS.cellsN)) (by first|exact Zao rfl|exact Zay rfl (Za5 hS.cell)|exact Zay rfl (Za4 hS.cellsN)) (by first|exact Zao rfl|exact Zay rfl (Za5 hS.cell)|exact Zay rfl (Za4 hS.cellsN)) (Ret.mk ?_))|(refine Zbm ?_;first|refine Zbv ?_|refine Zai rfl rfl (fun _ => Zab rfl rfl) rfl rfl ?_|refine Zbq (fun w' => Zfe w' _ _ _) rfl rfl hS.cellsN (fun _ hc => Zbf rfl rfl hc) rfl rfl ?_|refine Za9 rfl rfl ?_)|(refine Za3 ?_;first|refine And.intro (by repeat (first|exact trivial|refine And.intro (.inl (by decide +kernel)) ?_|refine And.intro (.inr (by first|assumption|exact hS.cell|exact Zan (by assumption)|exact hS.cellI (by omega)|exact hS.cellIP (by omega)|exact hS.cellsN|exact ((hr.rd hS).cellX (by omega) hx)|exact ((hr2.rd hS).cellX (by omega) hx2)|exact hS.cellB (by omega)|exact hS.cellBA (by omega)|exact (hb.rd hS).cellB' (by omega)|exact (hb2.rd hS).cellB' (by omega)|exact (hg.rd hS).cellI (by omega)|exact (hg2.rd hS).cellI (by omega)|exact ((hr.rd hS).cellF (by first|omega|(dsimp only;omega)) hx)|exact ((hr2.rd hS).cellF (by first|omega|(dsimp only;omega)) hx2)|exact hS.cellO 0 (by omega)|exact hS.cellO 1 (by omega)|exact hS.cellIA (by omega)|exact (hg.rd hS).cellIA (by omega)|exact (hg2.rd hS).cellIA (by omega)|exact Zan (hc.rd hS).pts|exact hb.rd hS|exact (hr.rd hS).cellsF7 (by first|omega|(dsimp only;omega)) hst4 rfl|exact (hr2.rd hS).cellsF7 (by first|omega|(dsimp only;omega)) hst4 rfl|exact hS.cellO 4 (by omega)|exact hS.cellO 5 (by omega)|exact hS.cellO 6 (by omega)|exact hS.cellO 7 (by omega)|exact hS.cellO 8 (by omega)|exact hS.cellO 9 (by omega)|exact hS.cellO 10 (by omega)|exact hS.cellO 11 (by omega)|exact hS.cellO 12 (by omega)|exact hS.cellO 13 (by omega)|exact hS.cellO 2 (by omega)|exact hS.cellO 3 (by omega))) ?_)) ?_))
  rw [e]
  exact ⟨none,0,rfl,Nat.le_refl _,hS.drops.row_none⟩
 by_cases h2 : (j : Int) / 2 ≤ at_
 ·have e : entM D j number at_ = Ent.none := by unfold entM; rw [if_pos (.inr h2)]
  refine Zaq Tryz.func205 rfl Tryz.ntmps205 rfl ?_
  repeat (first|(refine G_id ?_;first|refine Zah ?_|refine Zac rfl rfl ?_|refine Zcp rfl rfl rfl rfl ?_)|(refine X_id ?_;first|refine X_yl (Zad rfl rfl) rfl rfl ?_|refine X_yl (Zab rfl rfl) rfl rfl ?_|refine X_yl (Zag rfl rfl) rfl rfl ?_|refine X_yl (Zaf rfl rfl rfl) rfl rfl ?_|refine X_yl (Za8 rfl rfl rfl (by omega)) rfl rfl ?_|refine Zbc rfl rfl rfl hS (fun _ _ hS _ => ?_))|(refine C_id ?_;first|refine Zaj ?_|refine Zaa ?_)|(refine E_id ?_;first|refine Zae ?_))
  have hc := (hLo.rd hS).pts
  repeat (first|(refine G_id ?_;first|refine Zah ?_|refine Zac rfl rfl ?_|refine Zcp rfl rfl rfl rfl ?_)|(refine X_id ?_;first|refine X_yl (Za6 rfl rfl rfl) rfl rfl ?_|refine X_yl (Zc8 rfl rfl rfl (by omega)) rfl rfl ?_|refine X_yl (Yl_quoE rfl rfl rfl (by omega) (by omega) (by omega)) rfl rfl ?_|refine X_yl (Zap rfl rfl (Zan (by assumption))) rfl rfl ?_)|(refine C_id ?_;first|refine Zaj ?_|refine Zam rfl ?_)|(refine E_id ?_;first|refine Zae ?_))
  rw [bv_rep] at hS
  refine Zco (.s 0 (.s 1 (.h 2 (.s 3 (.h 4 (.s 5 .nil) .no)) .no))) mixed (by kernel_rfl) rfl ?_
  have hS := hS.drew
  repeat (first|(refine X_id ?_;first|refine Za2 rfl rfl rfl rfl hS (fun _ hS _ => ?_)|refine Zc2 rfl rfl rfl rfl hS (fun _ hS => ?_))|(refine C_id ?_;first|refine Za0 ?_)|(refine E_id ?_;first|refine Zae ?_|refine Zar ?_|refine E_ret4 rfl (by first|exact Zao rfl|exact Zay rfl (Za5 hS.cell)|exact Zay rfl (Za4 hS.cellsN)) (by first|exact Zao rfl|exact Zay rfl (Za5 hS.cell)|exact Zay rfl (Za4 hS.cellsN)) (by first|exact Zao rfl|exact Zay rfl (Za5 hS.cell)|exact Zay rfl (Za4 hS.cellsN)) (by first|exact Zao rfl|exact Zay rfl (Za5 hS.cell)|exact Zay rfl (Za4 hS.cellsN)) (Ret.mk ?_))|(refine Zbm ?_;first|refine Zbv ?_|refine Zai rfl rfl (fun _ => Zab rfl rfl) rfl rfl ?_|refine Zbq (fun w' => Zfe w' _ _ _) rfl rfl hS.cellsN (fun _ hc => Zbf rfl rfl hc) rfl rfl ?_|refine Za9 rfl rfl ?_)|(refine Za3 ?_;first|refine And.intro (by repeat (first|exact trivial|refine And.intro (.inl (by decide +kernel)) ?_|refine And.intro (.inr (by first|assumption|exact hS.cell|exact Zan (by assumption)|exact hS.cellI (by omega)|exact hS.cellIP (by omega)|exact hS.cellsN|exact ((hr.rd hS).cellX (by omega) hx)|exact ((hr2.rd hS).cellX (by omega) hx2)|exact hS.cellB (by omega)|exact hS.cellBA (by omega)|exact (hb.rd hS).cellB' (by omega)|exact (hb2.rd hS).cellB' (by omega)|exact (hg.rd hS).cellI (by omega)|exact (hg2.rd hS).cellI (by omega)|exact ((hr.rd hS).cellF (by first|omega|(dsimp only;omega)) hx)|exact ((hr2.rd hS).cellF (by first|omega|(dsimp only;omega)) hx2)|exact hS.cellO 0 (by omega)|exact hS.cellO 1 (by omega)|exact hS.cellIA (by omega)|exact (hg.rd hS).cellIA (by omega)|exact (hg2.rd hS).cellIA (by omega)|exact Zan (hc.rd hS).pts|exact hb.rd hS|exact (hr.rd hS).cellsF7 (by first|omega|(dsimp only;omega)) hst4 rfl|exact (hr2.rd hS).cellsF7 (by first|omega|(dsimp only;omega)) hst4 rfl|exact hS.cellO 4 (by omega)|exact hS.cellO 5 (by omega)|exact hS.cellO 6 (by omega)|exact hS.cellO 7 (by omega)|exact hS.cellO 8 (by omega)|exact hS.cellO 9 (by omega)|exact hS.cellO 10 (by omega)|exact hS.cellO 11 (by omega)|exact hS.cellO 12 (by omega)|exact hS.cellO 13 (by omega)|exact hS.cellO 2 (by omega)|exact hS.cellO 3 (by omega))) ?_)) ?_))
  rw [e]
  exact ⟨none,0,rfl,Nat.le_refl _,hS.drops.row_none⟩
 have e : entM D j number at_ = if ¬ (D.read (1 + 2 * at_)).1 = 0 ∨ ¬ (D.read (1 + 2 * at_ + 1)).1 = 0 then Ent.none else
   entOf (D.read (1 + 2 * at_)).2 (D.read (1 + 2 * at_ + 1)).2 number at_ ((D.laid.length : Int) - 1 - j) := by unfold entM; rw [if_neg (by omega)]
 have hra := fun (h : (D.read (1 + 2 * at_)).1 = 0) => read_64 hok h
 have hrb := fun (h : (D.read (1 + 2 * at_ + 1)).1 = 0) => read_64 hok h
 refine Zaq Tryz.func205 rfl Tryz.ntmps205 rfl ?_
 repeat (first|(refine G_id ?_;first|refine Zah ?_|refine Zac rfl rfl ?_|refine Zcp rfl rfl rfl rfl ?_)|(refine X_id ?_;first|refine X_yl (Zad rfl rfl) rfl rfl ?_|refine X_yl (Zab rfl rfl) rfl rfl ?_|refine X_yl (Zag rfl rfl) rfl rfl ?_|refine X_yl (Zaf rfl rfl rfl) rfl rfl ?_|refine X_yl (Za8 rfl rfl rfl (by omega)) rfl rfl ?_|refine Zbc rfl rfl rfl hS (fun _ _ hS _ => ?_))|(refine C_id ?_;first|refine Zaj ?_|refine Zaa ?_)|(refine E_id ?_;first|refine Zae ?_))
 have hc := (hLo.rd hS).pts
 repeat (first|(refine G_id ?_;first|refine Zah ?_|refine Zac rfl rfl ?_|refine Zcp rfl rfl rfl rfl ?_)|(refine X_id ?_;first|refine X_yl (Zad rfl rfl) rfl rfl ?_|refine X_yl (Zag rfl rfl) rfl rfl ?_|refine X_yl (Zaf rfl rfl rfl) rfl rfl ?_|refine X_yl (Za6 rfl rfl rfl) rfl rfl ?_|refine X_yl (Zdp rfl rfl rfl (by omega)) rfl rfl ?_|refine X_yl (Zbo rfl rfl rfl (w64 (by omega) (by omega))) rfl rfl ?_|refine X_yl (Zfk rfl rfl rfl (w64 (by omega) (by omega))) rfl rfl ?_|refine X_yl (Yl_quoE rfl rfl rfl (by omega) (by omega) (by omega)) rfl rfl ?_|refine X_yl (Zap rfl rfl (Zan (by assumption))) rfl rfl ?_)|(refine C_id ?_;first|refine Zaj ?_|refine Zaa ?_|refine Zav ?_|refine Zak rfl ?_)|(refine E_id ?_;first|refine Zae ?_))
 rename_i b6 _ _ _ b8 _ _
 rw [bv_rep] at hS
 refine Zal _ rfl rfl rfl rfl rfl (read_ p D (1 + 2 * at_) _ (hDo.rd hS) hline) ?_
 rintro _ w ⟨a,ca,rfl,hca,hS'⟩
 replace hS := hS.plus hS'
 clear hS'
 have hc := (hLo.rd hS).pts
 repeat (first|(refine G_id ?_;first|refine Zah ?_|refine Zac rfl rfl ?_)|(refine X_id ?_;first|refine X_yl (Zad rfl rfl) rfl rfl ?_|refine X_yl (Zab rfl rfl) rfl rfl ?_|refine X_yl (Zag rfl rfl) rfl rfl ?_|refine X_yl (Zaf rfl rfl rfl) rfl rfl ?_|refine X_yl (Zbi rfl rfl) rfl rfl ?_|refine X_yl (Zbo rfl rfl rfl (w64 (by omega) (by omega))) rfl rfl ?_|refine X_yl (Zfk rfl rfl rfl (w64 (by omega) (by omega))) rfl rfl ?_|refine X_yl (Zap rfl rfl (Zan (by assumption))) rfl rfl ?_)|(refine C_id ?_;first|refine Zaj ?_|refine Zaa ?_)|(refine E_id ?_;first|refine Zae ?_))
 refine Zal _ rfl rfl rfl rfl rfl (read_ p D (1 + 2 * at_ + 1) _ (hDo.rd hS) hline) ?_
 rintro _ w ⟨b,cb,rfl,hcb,hS'⟩
 replace hS := hS.plus hS'
 clear hS'
 generalize D.read (1 + 2 * at_) = ra at hra hca hS e ⊢
 generalize D.read (1 + 2 * at_ + 1) = rb at hrb hcb hS e ⊢
 obtain ⟨ea,la⟩ := ra
 obtain ⟨eb,lb⟩ := rb
 simp only at hra hrb hca hcb hS e ⊢
 by_cases hea : ea = 0
 ·by_cases heb : eb = 0
  ·subst hea heb
   have hla := hra rfl
   have hlb := hrb rfl
   rw [if_neg (by simp)] at e
   rw [e]
   clear hra hrb
   obtain ⟨ab,ao,rfl⟩ := (hS.rd (List.mem_cons_of_mem _ (List.mem_cons_self ..))).base (by intro e; have := Zbw la; rw [e] at this; simp at this; omega)
   repeat (first|(refine G_id ?_;first|refine Zah ?_|refine Zac rfl rfl ?_|refine Zcp rfl rfl rfl rfl ?_)|(refine X_id ?_;first|refine X_yl (Zad rfl rfl) rfl rfl ?_|refine X_yl (Zab rfl rfl) rfl rfl ?_|refine X_yl (Zbi rfl rfl) rfl rfl ?_|refine X_yl (Za6 rfl rfl rfl) rfl rfl ?_|refine X_yl (Zbz rfl rfl rfl (by omega)) rfl rfl ?_)|(refine C_id ?_;first|refine Zaj ?_|refine Zaa ?_|refine Zav ?_|refine Zak rfl ?_)|(refine E_id ?_;first|refine Zae ?_))
   refine Zco (.s 0 (.s 1 (.s 3 (.s 4 (.s 6 (.h 2 (.h 5 (.s 7 (.s 8 (.h 9 .nil .no))) .no) .no)))))) mixed (by kernel_rfl) rfl ?_
   have hS := hS.drew
   repeat (first|(refine Zbm ?_;first|refine Zai rfl rfl (fun _ => Zad rfl rfl) rfl rfl ?_))
   refine Zai rfl rfl (fun _ => Zcx (l := 12) (h := 16) rfl rfl rfl rfl (.inr ⟨_,_,rfl,by omega,by omega,by omega⟩) (.inr ⟨_,_,rfl,by omega,by omega,by omega⟩)) rfl rfl ?_
   rw [show sub (some ⟨ab,ao,none⟩) 12 1 ca = some ⟨ab,ao + 12,none⟩ by unfold sub; rw [if_neg (by omega)]; simp [Zcj]]
   repeat (first|(refine Zbm ?_;first|refine Zai rfl rfl (fun _ => Zad rfl rfl) rfl rfl ?_))
   refine Zai rfl rfl (fun _ => Zcx (l := 16) (h := 20) rfl rfl rfl rfl (.inr ⟨_,_,rfl,by omega,by omega,by omega⟩) (.inr ⟨_,_,rfl,by omega,by omega,by omega⟩)) rfl rfl ?_
   rw [show sub (some ⟨ab,ao,none⟩) 16 1 ca = some ⟨ab,ao + 16,none⟩ by unfold sub; rw [if_neg (by omega)]; simp [Zcj]]
   repeat (first|(refine Zbm ?_;first|refine Zai rfl rfl (fun _ => Zad rfl rfl) rfl rfl ?_|refine Za9 rfl rfl ?_))
   refine Zal _ rfl rfl rfl rfl rfl (small_sub ab ao 12 4 ca la _ (hS.rd (List.mem_cons_of_mem _ (List.mem_cons_self ..))) (by omega) (by omega) (by omega) (by omega)) ?_
   rintro _ _ ⟨rfl,rfl⟩
   repeat (first|(refine Zbm ?_;first|refine Za9 rfl rfl ?_)|(refine Za3 ?_;first|refine And.intro (by repeat (first|exact trivial|refine And.intro (.inl (by decide +kernel)) ?_|refine And.intro (.inr (by first|assumption|exact hS.cell|exact Zan (by assumption)|exact hS.cellI (by omega)|exact hS.cellIP (by omega)|exact hS.cellsN|exact ((hr.rd hS).cellX (by omega) hx)|exact ((hr2.rd hS).cellX (by omega) hx2)|exact hS.cellB (by omega)|exact hS.cellBA (by omega)|exact (hb.rd hS).cellB' (by omega)|exact (hb2.rd hS).cellB' (by omega)|exact (hg.rd hS).cellI (by omega)|exact (hg2.rd hS).cellI (by omega)|exact ((hr.rd hS).cellF (by first|omega|(dsimp only;omega)) hx)|exact ((hr2.rd hS).cellF (by first|omega|(dsimp only;omega)) hx2)|exact hS.cellO 0 (by omega)|exact hS.cellO 1 (by omega)|exact hS.cellIA (by omega)|exact (hg.rd hS).cellIA (by omega)|exact (hg2.rd hS).cellIA (by omega)|exact Zan (hc.rd hS).pts|exact hb.rd hS|exact (hr.rd hS).cellsF7 (by first|omega|(dsimp only;omega)) hst4 rfl|exact (hr2.rd hS).cellsF7 (by first|omega|(dsimp only;omega)) hst4 rfl|exact hS.cellO 4 (by omega)|exact hS.cellO 5 (by omega)|exact hS.cellO 6 (by omega)|exact hS.cellO 7 (by omega)|exact hS.cellO 8 (by omega)|exact hS.cellO 9 (by omega)|exact hS.cellO 10 (by omega)|exact hS.cellO 11 (by omega)|exact hS.cellO 12 (by omega)|exact hS.cellO 13 (by omega)|exact hS.cellO 2 (by omega)|exact hS.cellO 3 (by omega))) ?_)) ?_))
   refine Zal _ rfl rfl rfl rfl rfl (small_sub ab ao 16 4 ca la _ (hS.rd (List.mem_cons_of_mem _ (List.mem_cons_self ..))) (by omega) (by omega) (by omega) (by omega)) ?_
   rintro _ _ ⟨rfl,rfl⟩
   repeat (first|(refine X_id ?_;first|refine Za2 rfl rfl rfl rfl hS (fun _ hS _ => ?_))|(refine C_id ?_;first|refine Zaj ?_)|(refine E_id ?_;first|refine Zae ?_)|(refine Zbm ?_;first|refine Zbv ?_|refine Zai rfl rfl (fun _ => Zab rfl rfl) rfl rfl ?_|refine Zai rfl rfl (fun _ => Zcq rfl rfl rfl) rfl rfl ?_|refine Za9 rfl rfl ?_)|(refine Za3 ?_;first|refine And.intro (by repeat (first|exact trivial|refine And.intro (.inl (by decide +kernel)) ?_|refine And.intro (.inr (by first|assumption|exact hS.cell|exact Zan (by assumption)|exact hS.cellI (by omega)|exact hS.cellIP (by omega)|exact hS.cellsN|exact ((hr.rd hS).cellX (by omega) hx)|exact ((hr2.rd hS).cellX (by omega) hx2)|exact hS.cellB (by omega)|exact hS.cellBA (by omega)|exact (hb.rd hS).cellB' (by omega)|exact (hb2.rd hS).cellB' (by omega)|exact (hg.rd hS).cellI (by omega)|exact (hg2.rd hS).cellI (by omega)|exact ((hr.rd hS).cellF (by first|omega|(dsimp only;omega)) hx)|exact ((hr2.rd hS).cellF (by first|omega|(dsimp only;omega)) hx2)|exact hS.cellO 0 (by omega)|exact hS.cellO 1 (by omega)|exact hS.cellIA (by omega)|exact (hg.rd hS).cellIA (by omega)|exact (hg2.rd hS).cellIA (by omega)|exact Zan (hc.rd hS).pts|exact hb.rd hS|exact (hr.rd hS).cellsF7 (by first|omega|(dsimp only;omega)) hst4 rfl|exact (hr2.rd hS).cellsF7 (by first|omega|(dsimp only;omega)) hst4 rfl|exact hS.cellO 4 (by omega)|exact hS.cellO 5 (by omega)|exact hS.cellO 6 (by omega)|exact hS.cellO 7 (by omega)|exact hS.cellO 8 (by omega)|exact hS.cellO 9 (by omega)|exact hS.cellO 10 (by omega)|exact hS.cellO 11 (by omega)|exact hS.cellO 12 (by omega)|exact hS.cellO 13 (by omega)|exact hS.cellO 2 (by omega)|exact hS.cellO 3 (by omega))) ?_)) ?_))
   refine Zco (.s 0 (.s 1 (.s 2 (.h 3 .nil .no)))) mixed (by kernel_rfl) rfl ?_
   have hS := hS.drew
   repeat (first|(refine Zbm ?_;first|refine Zai rfl rfl (fun _ => Zad rfl rfl) rfl rfl ?_|refine Zai rfl rfl (fun _ => Zcw rfl rfl) rfl rfl ?_))
   refine Zai rfl rfl (fun _ => Zcx (l := 20) (h := la.length) rfl rfl rfl rfl (.inl ⟨rfl,rfl⟩) (.inr ⟨_,_,rfl,by omega,by omega,by omega⟩)) rfl rfl ?_
   rw [show sub (some ⟨ab,ao,none⟩) 20 1 ca = some ⟨ab,ao + 20,none⟩ by unfold sub; rw [if_neg (by omega)]; simp [Zcj]]
   repeat (first|(refine Zbm ?_;first|refine Za9 rfl rfl ?_))
   have hla2 : Rd _ (bytes (some ⟨ab,ao,none⟩) la) := hS.rd (List.mem_cons_of_mem _ (List.mem_cons_self ..))
   have hla3 := hla2.subBytes (l := 20) (h := la.length) (c := ca) (by omega) (by omega)
   rw [show sub (some ⟨ab,ao,none⟩) 20 1 ca = some ⟨ab,ao + 20,none⟩ by unfold sub; rw [if_neg (by omega)]; simp [Zcj]] at hla3
   refine X_copy rfl rfl rfl rfl rfl hS hla3 (by simp) bv_one (by simp) (fun w hS => ?_)
   clear hla2 hla3
   obtain ⟨d,hde⟩ : ∃ d,d = (la.drop 20).take 32 := ⟨_,rfl⟩
   have hd32 : d.length = 32 := by rw [hde]; simp; omega
   rw [show Zbt (bv (List.replicate 32 0)) 0 ((bv ((la.drop 20).take (la.length - 20))).take 32) = bv d by
    rw [← bv_take,List.take_take,show min 32 (la.length - 20) = 32 by omega,← hde]
    exact splice_all (by simp [hd32])] at hS
   have hl32 : LenO (bv d) 32 := ⟨by simp [hd32]⟩
   repeat (first|(refine C_id ?_;first|refine Zaj ?_)|(refine E_id ?_;first|refine Zae ?_)|(refine Zbm ?_;first|refine Zbv ?_)|(refine Za3 ?_;first|refine And.intro (by repeat (first|exact trivial|refine And.intro (.inl (by decide +kernel)) ?_|refine And.intro (.inr (by first|assumption|exact hS.cell|exact Zan (by assumption)|exact hS.cellI (by omega)|exact hS.cellIP (by omega)|exact hS.cellsN|exact ((hr.rd hS).cellX (by omega) hx)|exact ((hr2.rd hS).cellX (by omega) hx2)|exact hS.cellB (by omega)|exact hS.cellBA (by omega)|exact (hb.rd hS).cellB' (by omega)|exact (hb2.rd hS).cellB' (by omega)|exact (hg.rd hS).cellI (by omega)|exact (hg2.rd hS).cellI (by omega)|exact ((hr.rd hS).cellF (by first|omega|(dsimp only;omega)) hx)|exact ((hr2.rd hS).cellF (by first|omega|(dsimp only;omega)) hx2)|exact hS.cellO 0 (by omega)|exact hS.cellO 1 (by omega)|exact hS.cellIA (by omega)|exact (hg.rd hS).cellIA (by omega)|exact (hg2.rd hS).cellIA (by omega)|exact Zan (hc.rd hS).pts|exact hb.rd hS|exact (hr.rd hS).cellsF7 (by first|omega|(dsimp only;omega)) hst4 rfl|exact (hr2.rd hS).cellsF7 (by first|omega|(dsimp only;omega)) hst4 rfl|exact hS.cellO 4 (by omega)|exact hS.cellO 5 (by omega)|exact hS.cellO 6 (by omega)|exact hS.cellO 7 (by omega)|exact hS.cellO 8 (by omega)|exact hS.cellO 9 (by omega)|exact hS.cellO 10 (by omega)|exact hS.cellO 11 (by omega)|exact hS.cellO 12 (by omega)|exact hS.cellO 13 (by omega)|exact hS.cellO 2 (by omega)|exact hS.cellO 3 (by omega))) ?_)) ?_))
   obtain ⟨no,hno⟩ : ∃ no,no = Zd5 ((la.drop 16).take 4) := ⟨_,rfl⟩
   obtain ⟨cnt,hcnt⟩ : ∃ cnt,cnt = Zd5 ((la.drop 12).take 4) := ⟨_,rfl⟩
   unfold entOf
   rw [← hno,← hcnt,← hde]
   rw [← hno] at hS
   refine Zco (.s 0 (.s 1 (.s 2 (.s 3 (.s 4 (.s 5 (.s 6 (.s 7 (.s 8 (.s 9 (.h 10 (.h 11 (.s 12 (.s 13 (.s 14 (.s 15 (.h 16 (.s 17 (.s 18 (.h 19 (.s 20 (.h 21 (.s 22 .nil) .no)) .no))) .no))))) .no) .no))))))))))) mixed (by kernel_rfl) rfl ?_
   have hS := hS.drew
   repeat (first|(refine Zbm ?_;first|refine Zai rfl rfl (fun _ => Zad rfl rfl) rfl rfl ?_|refine Zai rfl rfl (fun _ => Zaf rfl rfl rfl) rfl rfl ?_|refine Zbq (fun w' => w'.cell? _ = some _) rfl rfl hS.cell (fun _ hc => Zap rfl rfl hc) rfl rfl ?_|refine Zbq (fun w' => Zfe w' _ _ _) rfl rfl hS.cellsN (fun _ hc => Zbf rfl rfl hc) rfl rfl ?_|refine Za9 rfl rfl ?_))
   refine Zal _ rfl rfl rfl rfl rfl (note_ number at_ cnt no d hd32 _) ?_
   rintro _ w ⟨q,k,rfl,hS'⟩
   replace hS := hS.plus hS'
   clear hS'
   repeat (first|(refine Zbm ?_;first|refine Za9 rfl rfl ?_)|(refine Za3 ?_;first|refine And.intro (by repeat (first|exact trivial|refine And.intro (.inl (by decide +kernel)) ?_|refine And.intro (.inr (by first|assumption|exact hS.cell|exact Zan (by assumption)|exact hS.cellI (by omega)|exact hS.cellIP (by omega)|exact hS.cellsN|exact ((hr.rd hS).cellX (by omega) hx)|exact ((hr2.rd hS).cellX (by omega) hx2)|exact hS.cellB (by omega)|exact hS.cellBA (by omega)|exact (hb.rd hS).cellB' (by omega)|exact (hb2.rd hS).cellB' (by omega)|exact (hg.rd hS).cellI (by omega)|exact (hg2.rd hS).cellI (by omega)|exact ((hr.rd hS).cellF (by first|omega|(dsimp only;omega)) hx)|exact ((hr2.rd hS).cellF (by first|omega|(dsimp only;omega)) hx2)|exact hS.cellO 0 (by omega)|exact hS.cellO 1 (by omega)|exact hS.cellIA (by omega)|exact (hg.rd hS).cellIA (by omega)|exact (hg2.rd hS).cellIA (by omega)|exact Zan (hc.rd hS).pts|exact hb.rd hS|exact (hr.rd hS).cellsF7 (by first|omega|(dsimp only;omega)) hst4 rfl|exact (hr2.rd hS).cellsF7 (by first|omega|(dsimp only;omega)) hst4 rfl|exact hS.cellO 4 (by omega)|exact hS.cellO 5 (by omega)|exact hS.cellO 6 (by omega)|exact hS.cellO 7 (by omega)|exact hS.cellO 8 (by omega)|exact hS.cellO 9 (by omega)|exact hS.cellO 10 (by omega)|exact hS.cellO 11 (by omega)|exact hS.cellO 12 (by omega)|exact hS.cellO 13 (by omega)|exact hS.cellO 2 (by omega)|exact hS.cellO 3 (by omega))) ?_)) ?_))
   refine Zal _ rfl rfl rfl rfl rfl (equal_ _ _ _ _ _ _ la (noteB number at_ cnt no d) _ (hS.rd (List.mem_cons_of_mem _ (List.mem_cons_of_mem _ (List.mem_cons_self ..)))) (hS.rd (List.mem_cons_self ..)) rfl (noteB_length ..)) ?_
   rintro _ _ ⟨rfl,rfl⟩
   by_cases hq : la = noteB number at_ cnt no d
   ·rw [decide_eq_true hq]
    repeat (first|(refine X_id ?_;first|(refine Zbn 165 rfl rfl rfl rfl rfl hS (Zfp lp p o s m j done rdn D _ (hLo.rd hS) (hDo.rd hS) hj) ?_;rintro _ _ rfl hS)|refine Za2 rfl rfl rfl rfl hS (fun _ hS _ => ?_)|refine Zc2 rfl rfl rfl rfl hS (fun _ hS => ?_))|(refine C_id ?_;first|refine Za0 ?_)|(refine E_id ?_;first|refine Zae ?_|refine E_ret4 rfl (by first|exact Zao rfl|exact Zay rfl (Za5 hS.cell)|exact Zay rfl (Za4 hS.cellsN)) (by first|exact Zao rfl|exact Zay rfl (Za5 hS.cell)|exact Zay rfl (Za4 hS.cellsN)) (by first|exact Zao rfl|exact Zay rfl (Za5 hS.cell)|exact Zay rfl (Za4 hS.cellsN)) (by first|exact Zao rfl|exact Zay rfl (Za5 hS.cell)|exact Zay rfl (Za4 hS.cellsN)) (Ret.mk ?_))|(refine Zbm ?_;first|refine Zbv ?_|refine Zai rfl rfl (fun _ => Zad rfl rfl) rfl rfl ?_|refine Zai rfl rfl (fun _ => Zab rfl rfl) rfl rfl ?_|refine Zai rfl rfl (fun _ => Zbp rfl rfl rfl) rfl rfl ?_|refine Za9 rfl rfl ?_|refine Zew rfl rfl rfl rfl (fun _ => Zad rfl rfl) rfl rfl ?_|refine Zew rfl rfl rfl rfl (fun _ => Zaf rfl rfl rfl) rfl rfl ?_|refine Zew rfl rfl rfl rfl (fun _ => Yl_lss rfl rfl rfl) rfl rfl ?_|refine GO_hard_yes rfl rfl rfl rfl ?_|refine Zec (fun w' => w'.cell? _ = some _) rfl rfl rfl rfl hS.cell (fun _ hc => Zap rfl rfl hc) rfl rfl ?_)|(refine Za3 ?_;first|refine And.intro (by repeat (first|exact trivial|refine And.intro (.inl (by decide +kernel)) ?_|refine And.intro (.inr (by first|assumption|exact hS.cell|exact Zan (by assumption)|exact hS.cellI (by omega)|exact hS.cellIP (by omega)|exact hS.cellsN|exact ((hr.rd hS).cellX (by omega) hx)|exact ((hr2.rd hS).cellX (by omega) hx2)|exact hS.cellB (by omega)|exact hS.cellBA (by omega)|exact (hb.rd hS).cellB' (by omega)|exact (hb2.rd hS).cellB' (by omega)|exact (hg.rd hS).cellI (by omega)|exact (hg2.rd hS).cellI (by omega)|exact ((hr.rd hS).cellF (by first|omega|(dsimp only;omega)) hx)|exact ((hr2.rd hS).cellF (by first|omega|(dsimp only;omega)) hx2)|exact hS.cellO 0 (by omega)|exact hS.cellO 1 (by omega)|exact hS.cellIA (by omega)|exact (hg.rd hS).cellIA (by omega)|exact (hg2.rd hS).cellIA (by omega)|exact Zan (hc.rd hS).pts|exact hb.rd hS|exact (hr.rd hS).cellsF7 (by first|omega|(dsimp only;omega)) hst4 rfl|exact (hr2.rd hS).cellsF7 (by first|omega|(dsimp only;omega)) hst4 rfl|exact hS.cellO 4 (by omega)|exact hS.cellO 5 (by omega)|exact hS.cellO 6 (by omega)|exact hS.cellO 7 (by omega)|exact hS.cellO 8 (by omega)|exact hS.cellO 9 (by omega)|exact hS.cellO 10 (by omega)|exact hS.cellO 11 (by omega)|exact hS.cellO 12 (by omega)|exact hS.cellO 13 (by omega)|exact hS.cellO 2 (by omega)|exact hS.cellO 3 (by omega))) ?_)) ?_))
    exact ⟨b,cb,rfl,hcb,hS.pick [1]⟩
   ·rw [decide_eq_false hq]
    repeat (first|(refine X_id ?_;first|refine Za2 rfl rfl rfl rfl hS (fun _ hS _ => ?_)|refine Zc2 rfl rfl rfl rfl hS (fun _ hS => ?_))|(refine C_id ?_;first|refine Za0 ?_)|(refine E_id ?_;first|refine Zae ?_|refine E_ret4 rfl (by first|exact Zao rfl|exact Zay rfl (Za5 hS.cell)|exact Zay rfl (Za4 hS.cellsN)) (by first|exact Zao rfl|exact Zay rfl (Za5 hS.cell)|exact Zay rfl (Za4 hS.cellsN)) (by first|exact Zao rfl|exact Zay rfl (Za5 hS.cell)|exact Zay rfl (Za4 hS.cellsN)) (by first|exact Zao rfl|exact Zay rfl (Za5 hS.cell)|exact Zay rfl (Za4 hS.cellsN)) (Ret.mk ?_))|(refine Zbm ?_;first|refine Zbv ?_|refine Zai rfl rfl (fun _ => Zad rfl rfl) rfl rfl ?_|refine Zai rfl rfl (fun _ => Zab rfl rfl) rfl rfl ?_|refine Zai rfl rfl (fun _ => Za6 rfl rfl rfl) rfl rfl ?_|refine Za9 rfl rfl ?_|refine GO_hard_no rfl rfl rfl rfl rfl rfl rfl ?_|refine GO_no rfl rfl rfl rfl rfl rfl rfl ?_)|(refine Za3 ?_;first|refine And.intro (by repeat (first|exact trivial|refine And.intro (.inl (by decide +kernel)) ?_|refine And.intro (.inr (by first|assumption|exact hS.cell|exact Zan (by assumption)|exact hS.cellI (by omega)|exact hS.cellIP (by omega)|exact hS.cellsN|exact ((hr.rd hS).cellX (by omega) hx)|exact ((hr2.rd hS).cellX (by omega) hx2)|exact hS.cellB (by omega)|exact hS.cellBA (by omega)|exact (hb.rd hS).cellB' (by omega)|exact (hb2.rd hS).cellB' (by omega)|exact (hg.rd hS).cellI (by omega)|exact (hg2.rd hS).cellI (by omega)|exact ((hr.rd hS).cellF (by first|omega|(dsimp only;omega)) hx)|exact ((hr2.rd hS).cellF (by first|omega|(dsimp only;omega)) hx2)|exact hS.cellO 0 (by omega)|exact hS.cellO 1 (by omega)|exact hS.cellIA (by omega)|exact (hg.rd hS).cellIA (by omega)|exact (hg2.rd hS).cellIA (by omega)|exact Zan (hc.rd hS).pts|exact hb.rd hS|exact (hr.rd hS).cellsF7 (by first|omega|(dsimp only;omega)) hst4 rfl|exact (hr2.rd hS).cellsF7 (by first|omega|(dsimp only;omega)) hst4 rfl|exact hS.cellO 4 (by omega)|exact hS.cellO 5 (by omega)|exact hS.cellO 6 (by omega)|exact hS.cellO 7 (by omega)|exact hS.cellO 8 (by omega)|exact hS.cellO 9 (by omega)|exact hS.cellO 10 (by omega)|exact hS.cellO 11 (by omega)|exact hS.cellO 12 (by omega)|exact hS.cellO 13 (by omega)|exact hS.cellO 2 (by omega)|exact hS.cellO 3 (by omega))) ?_)) ?_))
    exact ⟨b,cb,rfl,hcb,hS.pick [1]⟩
  ·rw [if_pos (.inr heb)] at e
   repeat (first|(refine G_id ?_;first|refine Zah ?_|refine Zac rfl rfl ?_|refine Zcp rfl rfl rfl rfl ?_)|(refine X_id ?_;first|refine X_yl (Zad rfl rfl) rfl rfl ?_|refine X_yl (Zab rfl rfl) rfl rfl ?_|refine X_yl (Zbi rfl rfl) rfl rfl ?_|refine X_yl (Za6 rfl rfl rfl) rfl rfl ?_|refine X_yl (Zck rfl rfl rfl (by omega)) rfl rfl ?_|refine X_yl (Zbz rfl rfl rfl (by omega)) rfl rfl ?_)|(refine C_id ?_;first|refine Zaj ?_|refine Zaa ?_|refine Zam rfl ?_)|(refine E_id ?_;first|refine Zae ?_))
   refine Zco (.s 0 (.s 1 (.h 2 (.s 3 (.h 4 (.s 5 .nil) .no)) .no))) mixed (by kernel_rfl) rfl ?_
   have hS := hS.drew
   repeat (first|(refine X_id ?_;first|refine Za2 rfl rfl rfl rfl hS (fun _ hS _ => ?_)|refine Zc2 rfl rfl rfl rfl hS (fun _ hS => ?_))|(refine C_id ?_;first|refine Za0 ?_)|(refine E_id ?_;first|refine Zae ?_|refine Zar ?_|refine E_ret4 rfl (by first|exact Zao rfl|exact Zay rfl (Za5 hS.cell)|exact Zay rfl (Za4 hS.cellsN)) (by first|exact Zao rfl|exact Zay rfl (Za5 hS.cell)|exact Zay rfl (Za4 hS.cellsN)) (by first|exact Zao rfl|exact Zay rfl (Za5 hS.cell)|exact Zay rfl (Za4 hS.cellsN)) (by first|exact Zao rfl|exact Zay rfl (Za5 hS.cell)|exact Zay rfl (Za4 hS.cellsN)) (Ret.mk ?_))|(refine Zbm ?_;first|refine Zbv ?_|refine Zai rfl rfl (fun _ => Zab rfl rfl) rfl rfl ?_|refine Zbq (fun w' => Zfe w' _ _ _) rfl rfl hS.cellsN (fun _ hc => Zbf rfl rfl hc) rfl rfl ?_|refine Za9 rfl rfl ?_)|(refine Za3 ?_;first|refine And.intro (by repeat (first|exact trivial|refine And.intro (.inl (by decide +kernel)) ?_|refine And.intro (.inr (by first|assumption|exact hS.cell|exact Zan (by assumption)|exact hS.cellI (by omega)|exact hS.cellIP (by omega)|exact hS.cellsN|exact ((hr.rd hS).cellX (by omega) hx)|exact ((hr2.rd hS).cellX (by omega) hx2)|exact hS.cellB (by omega)|exact hS.cellBA (by omega)|exact (hb.rd hS).cellB' (by omega)|exact (hb2.rd hS).cellB' (by omega)|exact (hg.rd hS).cellI (by omega)|exact (hg2.rd hS).cellI (by omega)|exact ((hr.rd hS).cellF (by first|omega|(dsimp only;omega)) hx)|exact ((hr2.rd hS).cellF (by first|omega|(dsimp only;omega)) hx2)|exact hS.cellO 0 (by omega)|exact hS.cellO 1 (by omega)|exact hS.cellIA (by omega)|exact (hg.rd hS).cellIA (by omega)|exact (hg2.rd hS).cellIA (by omega)|exact Zan (hc.rd hS).pts|exact hb.rd hS|exact (hr.rd hS).cellsF7 (by first|omega|(dsimp only;omega)) hst4 rfl|exact (hr2.rd hS).cellsF7 (by first|omega|(dsimp only;omega)) hst4 rfl|exact hS.cellO 4 (by omega)|exact hS.cellO 5 (by omega)|exact hS.cellO 6 (by omega)|exact hS.cellO 7 (by omega)|exact hS.cellO 8 (by omega)|exact hS.cellO 9 (by omega)|exact hS.cellO 10 (by omega)|exact hS.cellO 11 (by omega)|exact hS.cellO 12 (by omega)|exact hS.cellO 13 (by omega)|exact hS.cellO 2 (by omega)|exact hS.cellO 3 (by omega))) ?_)) ?_))
   rw [e]
   exact ⟨none,0,rfl,Nat.le_refl _,hS.drops.row_none⟩
 ·rw [if_pos (.inl hea)] at e
  repeat (first|(refine G_id ?_;first|refine Zah ?_|refine Zac rfl rfl ?_|refine G_no rfl rfl rfl rfl rfl rfl ?_)|(refine X_id ?_;first|refine X_yl (Zad rfl rfl) rfl rfl ?_|refine X_yl (Zab rfl rfl) rfl rfl ?_|refine X_yl (Zbi rfl rfl) rfl rfl ?_|refine X_yl (Zbp rfl rfl rfl) rfl rfl ?_|refine X_yl (Zck rfl rfl rfl (by omega)) rfl rfl ?_)|(refine C_id ?_;first|refine Zaj ?_|refine Zaa ?_|refine Zam rfl ?_)|(refine E_id ?_;first|refine Zae ?_))
  refine Zco (.s 0 (.s 1 (.h 2 (.s 3 (.h 4 (.s 5 .nil) .no)) .no))) mixed (by kernel_rfl) rfl ?_
  have hS := hS.drew
  repeat (first|(refine X_id ?_;first|refine Za2 rfl rfl rfl rfl hS (fun _ hS _ => ?_)|refine Zc2 rfl rfl rfl rfl hS (fun _ hS => ?_))|(refine C_id ?_;first|refine Za0 ?_)|(refine E_id ?_;first|refine Zae ?_|refine Zar ?_|refine E_ret4 rfl (by first|exact Zao rfl|exact Zay rfl (Za5 hS.cell)|exact Zay rfl (Za4 hS.cellsN)) (by first|exact Zao rfl|exact Zay rfl (Za5 hS.cell)|exact Zay rfl (Za4 hS.cellsN)) (by first|exact Zao rfl|exact Zay rfl (Za5 hS.cell)|exact Zay rfl (Za4 hS.cellsN)) (by first|exact Zao rfl|exact Zay rfl (Za5 hS.cell)|exact Zay rfl (Za4 hS.cellsN)) (Ret.mk ?_))|(refine Zbm ?_;first|refine Zbv ?_|refine Zai rfl rfl (fun _ => Zab rfl rfl) rfl rfl ?_|refine Zbq (fun w' => Zfe w' _ _ _) rfl rfl hS.cellsN (fun _ hc => Zbf rfl rfl hc) rfl rfl ?_|refine Za9 rfl rfl ?_)|(refine Za3 ?_;first|refine And.intro (by repeat (first|exact trivial|refine And.intro (.inl (by decide +kernel)) ?_|refine And.intro (.inr (by first|assumption|exact hS.cell|exact Zan (by assumption)|exact hS.cellI (by omega)|exact hS.cellIP (by omega)|exact hS.cellsN|exact ((hr.rd hS).cellX (by omega) hx)|exact ((hr2.rd hS).cellX (by omega) hx2)|exact hS.cellB (by omega)|exact hS.cellBA (by omega)|exact (hb.rd hS).cellB' (by omega)|exact (hb2.rd hS).cellB' (by omega)|exact (hg.rd hS).cellI (by omega)|exact (hg2.rd hS).cellI (by omega)|exact ((hr.rd hS).cellF (by first|omega|(dsimp only;omega)) hx)|exact ((hr2.rd hS).cellF (by first|omega|(dsimp only;omega)) hx2)|exact hS.cellO 0 (by omega)|exact hS.cellO 1 (by omega)|exact hS.cellIA (by omega)|exact (hg.rd hS).cellIA (by omega)|exact (hg2.rd hS).cellIA (by omega)|exact Zan (hc.rd hS).pts|exact hb.rd hS|exact (hr.rd hS).cellsF7 (by first|omega|(dsimp only;omega)) hst4 rfl|exact (hr2.rd hS).cellsF7 (by first|omega|(dsimp only;omega)) hst4 rfl|exact hS.cellO 4 (by omega)|exact hS.cellO 5 (by omega)|exact hS.cellO 6 (by omega)|exact hS.cellO 7 (by omega)|exact hS.cellO 8 (by omega)|exact hS.cellO 9 (by omega)|exact hS.cellO 10 (by omega)|exact hS.cellO 11 (by omega)|exact hS.cellO 12 (by omega)|exact hS.cellO 13 (by omega)|exact hS.cellO 2 (by omega)|exact hS.cellO 3 (by omega))) ?_)) ?_))
  rw [e]
  exact ⟨none,0,rfl,Nat.le_refl _,hS.drops.row_none⟩
end Cr
namespace Cr
open Go Go.Proofs
set_option maxRecDepth 100000
set_option maxHeartbeats 4000000
attribute [local irreducible] Calls

/-! ### clear -/
def zeros64 : List UInt8 := List.replicate 64 0
def clearM (D : DiskM) (number : Int) : Int × DiskM :=
 if ¬ (D.read 1).1 = 0 then ((D.read 1).1,D) else if ¬ Zd5 ((D.read 1).2.take 8) = number then (0,D) else Zeo (Zex (0,D) 1 zeros64)
theorem clear_ (lp p : Nat) (o s m : Int) (j : Nat) (done : Int) (rdn : Bool) (D : DiskM) (number : Int) (W : World) (F : Nat → Prop) (hline : D.line.length < 1073741820) (hS : St W F [Zdl lp p o s m j done rdn,disk p D] W) :
  Calls Tryz.prog 164 #[.pointer (some ⟨lp,0,none⟩),.int .i64 number] W (Ret fun v w => v = .int .i64 (clearM D number).1 ∧ St W F [Zdl lp p o s m j done rdn,disk p (clearM D number).2] w) := by
 have hok := (hS.rd (List.mem_cons_of_mem _ (List.mem_cons_self ..)) : Rd W (disk p D)).disk.1
 have h64 := fun (h : (D.read 1).1 = 0) => read_64 hok h
 have e : clearM D number = if ¬ (D.read 1).1 = 0 then ((D.read 1).1,D) else if ¬ Zd5 ((D.read 1).2.take 8) = number then (0,D) else Zeo (Zex (0,D) 1 zeros64) := rfl
 refine Zaq Tryz.func164 rfl Tryz.ntmps164 rfl ?_
 repeat (first|(refine G_id ?_;first|refine Zah ?_|refine Zac rfl rfl ?_)|(refine X_id ?_;first|refine X_yl (Zad rfl rfl) rfl rfl ?_|refine X_yl (Zab rfl rfl) rfl rfl ?_|refine X_yl (Zag rfl rfl) rfl rfl ?_|refine X_yl (Zaf rfl rfl rfl) rfl rfl ?_|refine X_yl (Zap rfl rfl hS.cell) rfl rfl ?_)|(refine C_id ?_;first|refine Zaj ?_|refine Zaa ?_)|(refine E_id ?_;first|refine Zae ?_))
 refine Zal _ rfl rfl rfl rfl rfl (read_ p D 1 _ (hS.rd (List.mem_cons_of_mem _ (List.mem_cons_self ..))) (by omega)) ?_
 rintro _ w ⟨a,ca,rfl,hca,hS'⟩
 replace hS := hS.plus hS'
 clear hS'
 generalize D.read 1 = ra at h64 hca hS e ⊢
 obtain ⟨ea,la⟩ := ra
 simp only at h64 hca hS e ⊢
 by_cases hea : ea = 0
 ·subst hea
  have hla := h64 rfl
  rw [if_neg (by simp)] at e
  obtain ⟨ab,ao,rfl⟩ := (hS.rd (List.mem_cons_self ..)).base (by intro e; have := Zbw la; rw [e] at this; simp at this; omega)
  have hsm : ∀ w',Rd w' (bytes (some ⟨ab,ao,none⟩) la) → Calls Tryz.prog 203 #[.slice (some ⟨ab,ao,none⟩) 8 ca] w' (Ret fun v w'' => v = .int .i64 (Zd5 (la.take 8)) ∧ w' = w'') := fun w' h => by
   have := small_sub ab ao 0 8 ca la w' h (by omega) (by omega) (by omega) (by omega)
   simpa using this
  repeat (first|(refine G_id ?_;first|refine Zah ?_|refine Zac rfl rfl ?_|refine Zcp rfl rfl rfl rfl ?_)|(refine X_id ?_;first|refine X_yl (Zad rfl rfl) rfl rfl ?_|refine X_yl (Zab rfl rfl) rfl rfl ?_|refine X_yl (Zbi rfl rfl) rfl rfl ?_|refine X_yl (Zbz rfl rfl rfl (by omega)) rfl rfl ?_)|(refine C_id ?_;first|refine Zaj ?_|refine Zaa ?_)|(refine E_id ?_;first|refine Zae ?_))
  refine X_yl (Zcx (l := 0) (h := 8) rfl rfl rfl rfl (.inr ⟨_,_,rfl,by omega,by omega,by omega⟩) (.inl ⟨rfl,rfl⟩)) rfl rfl ?_
  rw [sub_zero,Nat.sub_zero,Nat.sub_zero]
  generalize Zd5 (la.take 8) = n at hsm e
  by_cases hn : n = number
  ·subst hn
   rw [if_neg (by simp)] at e
   repeat (first|(refine G_id ?_;first|refine Zah ?_|refine Zac rfl rfl ?_|refine Zcp rfl rfl rfl rfl ?_)|(refine X_id ?_;first|(refine Zal 203 rfl rfl rfl rfl rfl (hsm _ (hS.rd (List.mem_cons_self ..))) ?_;rintro _ _ ⟨rfl,rfl⟩)|refine X_yl (Zad rfl rfl) rfl rfl ?_|refine X_yl (Zab rfl rfl) rfl rfl ?_|refine X_yl (Zag rfl rfl) rfl rfl ?_|refine X_yl (Zaf rfl rfl rfl) rfl rfl ?_|refine X_yl (Za6 rfl rfl rfl) rfl rfl ?_|refine X_yl (Zbz rfl rfl rfl (by omega)) rfl rfl ?_|refine X_yl (Zcq rfl rfl rfl) rfl rfl ?_|refine X_yl (Zap rfl rfl hS.cell) rfl rfl ?_|refine Zel rfl rfl rfl rfl hS (fun _ _ hS _ => ?_))|(refine C_id ?_;first|refine Zaj ?_|refine Zaa ?_|refine Zav ?_|refine Zak rfl ?_)|(refine E_id ?_;first|refine Zae ?_))
   rename_i sp _ _
   refine X_makeB (c := 64) rfl rfl rfl (by omega) (by omega) rfl rfl hS (fun zb _ hS => ?_)
   repeat (first|(refine G_id ?_;first|refine Zac rfl rfl ?_))
   obtain ⟨_,hc,hr,hw,hbk⟩ := hS.call [false,true,false,false,true]
   refine Zal _ rfl rfl rfl rfl rfl (swrite_ sp p (0,D) 1 _ 64 64 zeros64 _ _ hc ((hr _ (List.mem_cons_self ..)).mono fun h hh => ⟨h,row_pts h hh,fun _ _ e => e⟩) rfl (by simp only; omega)) ?_
   rintro _ w ⟨_,hS⟩
   replace hS := hbk hS
   clear hc hr hw hbk
   have hl := Zez (0,D) 1 zeros64
   simp only at hl
   repeat (first|(refine G_id ?_;first|refine Zah ?_|refine Zac rfl rfl ?_)|(refine X_id ?_;first|refine X_yl (Zad rfl rfl) rfl rfl ?_)|(refine C_id ?_;first|refine Zaj ?_|refine Zaa ?_)|(refine E_id ?_;first|refine Zae ?_))
   obtain ⟨_,hc,hr,hw,hbk⟩ := hS.call [true,true,false,false,false]
   refine Zal _ rfl rfl rfl rfl rfl (sflush_ sp p (Zex (0,D) 1 zeros64) _ _ hc (by omega)) ?_
   rintro _ w ⟨_,hS⟩
   replace hS := hbk hS
   clear hc hr hw hbk
   rw [e]
   generalize Zeo (Zex (0,D) 1 zeros64) = Y at hS ⊢
   repeat (first|(refine G_id ?_;first|refine Zah ?_|refine Zac rfl rfl ?_)|(refine X_id ?_;first|refine X_yl (Zad rfl rfl) rfl rfl ?_|refine X_yl (Zab rfl rfl) rfl rfl ?_|refine X_yl (Zag rfl rfl) rfl rfl ?_|refine X_yl (Zaf rfl rfl rfl) rfl rfl ?_|refine X_yl (Zap rfl rfl hS.cell) rfl rfl ?_)|(refine C_id ?_;first|refine Zaj ?_|refine Zaa ?_|refine Za0 ?_)|(refine E_id ?_;first|refine Zae ?_|refine Zax rfl (Zao rfl) (Ret.mk ?_)))
   refine ⟨rfl,?_⟩
   have hS := hS.pick [4,1]
   exact hS
  ·rw [if_pos hn] at e
   repeat (first|(refine G_id ?_;first|refine Zah ?_|refine Zac rfl rfl ?_|refine Zcp rfl rfl rfl rfl ?_)|(refine X_id ?_;first|(refine Zal 203 rfl rfl rfl rfl rfl (hsm _ (hS.rd (List.mem_cons_self ..))) ?_;rintro _ _ ⟨rfl,rfl⟩)|refine X_yl (Zad rfl rfl) rfl rfl ?_|refine X_yl (Zab rfl rfl) rfl rfl ?_|refine X_yl (Za6 rfl rfl rfl) rfl rfl ?_|refine X_yl (Zck rfl rfl rfl (by omega)) rfl rfl ?_)|(refine C_id ?_;first|refine Zaj ?_|refine Zaa ?_|refine Za0 ?_|refine Zam rfl ?_)|(refine E_id ?_;first|refine Zae ?_|refine Zar ?_|refine Zax rfl (Zao rfl) (Ret.mk ?_)))
   rw [e]
   exact ⟨rfl,hS.pick [1,1]⟩
 ·rw [if_pos hea] at e
  repeat (first|(refine G_id ?_;first|refine Zah ?_|refine Zac rfl rfl ?_|refine G_no rfl rfl rfl rfl rfl rfl ?_)|(refine X_id ?_;first|refine X_yl (Zad rfl rfl) rfl rfl ?_|refine X_yl (Zab rfl rfl) rfl rfl ?_|refine X_yl (Zbi rfl rfl) rfl rfl ?_|refine X_yl (Zbp rfl rfl rfl) rfl rfl ?_|refine X_yl (Zck rfl rfl rfl (by omega)) rfl rfl ?_)|(refine C_id ?_;first|refine Zaj ?_|refine Zaa ?_|refine Za0 ?_|refine Zam rfl ?_)|(refine E_id ?_;first|refine Zae ?_|refine Zar ?_|refine Zax rfl (Zao rfl) (Ret.mk ?_)))
  rw [e]
  exact ⟨rfl,hS.pick [1,1]⟩
end Cr
namespace Cr
open Go Go.Proofs
set_option maxRecDepth 100000
set_option maxHeartbeats 8000000
attribute [local irreducible] Calls
instance : NoGuard Tryz.prog 23 := ⟨by kernel_rfl⟩

theorem entM_d (D : DiskM) (hok : D.ok) (j : Nat) (number at_ : Int) : (entM D j number at_).d.length = 32 := by
 unfold entM
 split
 ·simp [Ent.none]
 ·split
  ·simp [Ent.none]
  ·rename_i h
   have h1 : (D.read (1 + 2 * at_)).1 = 0 := Decidable.byContradiction fun e => h (.inl e)
   have := read_64 hok h1
   simp [entOf,this]
theorem entM_ok {D : DiskM} {j : Nat} {number at_ : Int} (h : (entM D j number at_).ok = true) : 0 ≤ at_ ∧ at_ < (j : Int) / 2 := by
 unfold entM at h
 split at h
 ·simp [Ent.none] at h
 ·rename_i h'; omega
theorem entM_b (D : DiskM) (hok : D.ok) (j : Nat) (number at_ : Int) : (entM D j number at_).b.length ≤ 64 := by
 unfold entM
 split
 ·simp [Ent.none]
 ·split
  ·simp [Ent.none]
  ·rename_i h
   have h1 : (D.read (1 + 2 * at_ + 1)).1 = 0 := Decidable.byContradiction fun e => h (.inr e)
   have := read_64 hok h1
   simp [entOf,this]
theorem framed_sum_le (number : Int) (d : List (Int × List UInt8)) (h : ∀ x ∈ d,x.2.length ≤ 64) : (Zcu (sumTexts number d)).length ≤ 20 + d.length * 76 := by
 have key : ∀ d : List (Int × List UInt8),(∀ x ∈ d,x.2.length ≤ 64) → (Zcu (d.flatMap fun v => [bigB v.1 4,v.2])).length ≤ d.length * 76 := by
  intro d
  induction d with
  | nil => intro _; simp [Zcu]
  | cons x d ih =>
   intro h
   have h1 := ih fun y hy => h y (List.mem_cons_of_mem _ hy)
   have h2 := h x (List.mem_cons_self ..)
   simp only [Zcu,List.flatMap_cons,List.cons_append,List.nil_append,List.length_append,Zdg,Zaz,List.length_cons] at h1 ⊢
   omega
 have h1 := key d h
 unfold Zcu at h1
 simp only [sumTexts,Zcu,List.flatMap_cons,List.cons_append,List.nil_append,List.length_append,Zdg,Zaz]
 omega
def entW (e : Ent) : Int × List UInt8 := (e.no,e.b)
def goodE (e0 e : Ent) : Bool := e.ok && decide (e.count = e0.count) && decide (e.d = e0.d)
def Zd8 (D : DiskM) (j : Nat) (number : Int) (n : Nat) : List Ent := (List.range n).map fun i => entM D j number (i : Nat)
theorem entList_succ (D : DiskM) (j : Nat) (number : Int) (n : Nat) : Zd8 D j number (n + 1) = Zd8 D j number n ++ [entM D j number (n : Nat)] := by simp [Zd8,List.range_succ]
def foundL (D : DiskM) (j : Nat) (number : Int) : Option (List (Int × List UInt8)) :=
 if (entM D j number 0).ok = true ∧ 1 ≤ (entM D j number 0).count then
  if (Zd8 D j number (entM D j number 0).count.toNat).all (goodE (entM D j number 0)) = true then some ((Zd8 D j number (entM D j number 0).count.toNat).map entW) else none
 else none
def Zeu (rd fs : List Int) (D : DiskM) (j : Nat) (number : Int) : List (Int × List UInt8) :=
 match foundL D j number with
 | none => []
 | some ws => if Zdh ws = 0 ∧ sumB rd fs number ws = (entM D j number 0).d then ws else []
theorem all_entList {D : DiskM} {j : Nat} {number : Int} {e0 : Ent} {n i : Nat} (hi : i < n) (h : goodE e0 (entM D j number (i : Nat)) = false) : (Zd8 D j number n).all (goodE e0) = false := by
 rw [List.all_eq_false]
 exact ⟨_,List.mem_map.2 ⟨i,List.mem_range.2 hi,rfl⟩,by simp [h]⟩
theorem found_ (lp p : Nat) (o s m : Int) (j : Nat) (done : Int) (rdn : Bool) (D : DiskM) (number : Int) (rd fs : List Int) (W : World) (hG : Gl W noF rd fs) (hL : Rd W (Zdl lp p o s m j done rdn)) (hD : Rd W (disk p D)) (hj : j ≤ 4096) (hline : D.line.length < 1073741824) :
  Calls Tryz.prog 162 #[.pointer (some ⟨lp,0,none⟩),.int .i64 number] W (Ret fun v w => ∃ a c ws O,v = .slice a ws.length c ∧ ws.map Wr.data = Zeu rd fs D j number ∧ (a = none ↔ ws = []) ∧ (∀ v ∈ ws,v.x ∈ O) ∧
   St W noF [own 237 2 a c (ws.flatMap Wr.cells),rds O] w) := by
 have hS := St.start W
 have hLo := hL.ro
 have hDo := hD.ro
 have hok := hD.disk.1
 obtain ⟨e0,he0⟩ : ∃ e0,e0 = entM D j number 0 := ⟨_,rfl⟩
 have hd0 : e0.d.length = 32 := he0 ▸ entM_d D hok j number 0
 have hl0 : LenO (bv e0.d) 32 := ⟨by simp [hd0]⟩
 have hnil : ∀ w,St W noF [] w → Zeu rd fs D j number = [] → ∃ a c ws O,(Value.slice none 0 0) = .slice a ws.length c ∧ ws.map Wr.data = Zeu rd fs D j number ∧ (a = none ↔ ws = []) ∧ (∀ v ∈ ws,v.x ∈ O) ∧
   St W noF [own 237 2 a c (ws.flatMap Wr.cells),rds O] w := fun w h e => ⟨none,0,[],[],rfl,by rw [e]; rfl,by simp,by simp,h.rdsNil.own_none _ _ _⟩
 refine Zaq Tryz.func162 rfl Tryz.ntmps162 rfl ?_
 repeat (first|(refine G_id ?_;first|refine Zah ?_|refine Zac rfl rfl ?_)|(refine X_id ?_;first|refine X_yl (Zad rfl rfl) rfl rfl ?_|refine X_yl (Zab rfl rfl) rfl rfl ?_)|(refine C_id ?_;first|refine Zaj ?_|refine C_scope rfl ?_|refine Zaa ?_)|(refine E_id ?_;first|refine Zae ?_))
 refine Zal _ rfl rfl rfl rfl rfl (entry_ lp p o s m j done rdn D number 0 _ (hLo.rd hS) (hDo.rd hS) hj hline (by omega)) ?_
 rintro _ w ⟨a0,c0,rfl,hc0,hS'⟩
 replace hS := hS.plus hS'
 clear hS'
 rw [← he0] at hS hc0 ⊢
 have hfl : foundL D j number = if e0.ok = true ∧ 1 ≤ e0.count then if (Zd8 D j number e0.count.toNat).all (goodE e0) = true then some ((Zd8 D j number e0.count.toNat).map entW) else none else none := by unfold foundL; rw [← he0]
 obtain ⟨no0,b0,n0,d0,ok0⟩ := e0
 simp only at hd0 hl0 hfl hS hc0
 unfold Ent.val
 simp only
 cases ok0
 ·repeat (first|(refine G_id ?_;first|refine Zah ?_|refine Zac rfl rfl ?_|refine G_no rfl rfl rfl rfl rfl rfl ?_)|(refine X_id ?_;first|refine X_yl (Zad rfl rfl) rfl rfl ?_|refine X_yl (Zab rfl rfl) rfl rfl ?_|refine X_yl (Zbi rfl rfl) rfl rfl ?_|refine X_yl (Zbp rfl rfl rfl) rfl rfl ?_|refine X_yl (Zb5 rfl rfl) rfl rfl ?_|refine Za2 rfl rfl rfl rfl hS (fun _ hS _ => ?_)|refine Zbc rfl rfl rfl hS (fun _ _ hS _ => ?_))|(refine C_id ?_;first|refine Zaj ?_|refine Zaa ?_|refine Za0 ?_|refine Zam rfl ?_)|(refine E_id ?_;first|refine Zae ?_|refine Zar ?_|refine Zef (fun _ h => by cases h) ?_|refine Zax rfl (Zao rfl) (Ret.mk ?_)))
  refine hnil _ hS.drops ?_
  unfold Zeu
  rw [hfl,if_neg (by simp)]
 ·by_cases h1 : n0 < 1
  ·repeat (first|(refine G_id ?_;first|refine Zah ?_|refine Zac rfl rfl ?_|refine Zcp rfl rfl rfl rfl ?_)|(refine X_id ?_;first|refine X_yl (Zad rfl rfl) rfl rfl ?_|refine X_yl (Zab rfl rfl) rfl rfl ?_|refine X_yl (Zbi rfl rfl) rfl rfl ?_|refine X_yl (Za6 rfl rfl rfl) rfl rfl ?_|refine X_yl (Zbg rfl rfl) rfl rfl ?_|refine X_yl (Za7 rfl rfl rfl (by omega)) rfl rfl ?_|refine Za2 rfl rfl rfl rfl hS (fun _ hS _ => ?_)|refine Zbc rfl rfl rfl hS (fun _ _ hS _ => ?_))|(refine C_id ?_;first|refine Zaj ?_|refine Zaa ?_|refine Za0 ?_|refine Zam rfl ?_)|(refine E_id ?_;first|refine Zae ?_|refine Zar ?_|refine Zef (fun _ h => by cases h) ?_|refine Zax rfl (Zao rfl) (Ret.mk ?_)))
   refine hnil _ hS.drops ?_
   unfold Zeu
   rw [hfl,if_neg (by omega)]
  ·repeat (first|(refine G_id ?_;first|refine Zah ?_|refine Zac rfl rfl ?_|refine Zcp rfl rfl rfl rfl ?_)|(refine X_id ?_;first|refine X_yl (Zad rfl rfl) rfl rfl ?_|refine X_yl (Zab rfl rfl) rfl rfl ?_|refine X_yl (Zbi rfl rfl) rfl rfl ?_|refine X_yl (Za6 rfl rfl rfl) rfl rfl ?_|refine X_yl (Zbg rfl rfl) rfl rfl ?_|refine X_yl (Za8 rfl rfl rfl (by omega)) rfl rfl ?_|refine Za2 rfl rfl rfl rfl hS (fun _ hS _ => ?_)|refine Zbc rfl rfl rfl hS (fun _ _ hS _ => ?_))|(refine C_id ?_;first|refine Zaj ?_|refine C_label ?_|refine Zaa ?_|refine Zat ?_|refine Zav ?_|refine Zak rfl ?_)|(refine E_id ?_;first|refine Zae ?_))
   rename_i b6 w6 _ _ b8 w8 _ _ w9 _ _ w10 _
   replace hS := (hS.pick [0]).rdsNil.own_none 237 2 none
   rw [if_pos ⟨rfl,by omega⟩] at hfl
   have hbad : ∀ i : Nat,i < n0.toNat → goodE ⟨no0,b0,n0,d0,true⟩ (entM D j number (i : Nat)) = false → Zeu rd fs D j number = [] := fun i hi h => by
    unfold Zeu
    rw [hfl,if_neg (by rw [all_entList hi h]; simp)]
   refine Zb8 (α := Nat × Option Addr × Nat × List Wr × List Bs) (fun z => [(0,.pointer (some ⟨lp,0,none⟩)),(1,.int .i64 number),(5,.slice z.2.1 z.2.2.2.1.length z.2.2.1),(7,.int .i64 n0),(8,.pointer (some ⟨b8,0,none⟩)),(10,.int .i64 (z.1 : Nat))])
    (fun z w => (z.1 ≤ n0.toNat ∧ z.1 ≤ 2048 ∧ z.2.2.2.1.length = z.1 ∧ z.2.2.2.1.length ≤ z.2.2.1) ∧ (z.2.2.2.1.map Wr.data = (Zd8 D j number z.1).map entW ∧ (Zd8 D j number z.1).all (goodE ⟨no0,b0,n0,d0,true⟩) = true ∧ (z.2.1 = none ↔ z.1 = 0) ∧ (∀ v ∈ z.2.2.2.1,v.x ∈ z.2.2.2.2) ∧ (∀ v ∈ z.2.2.2.1,v.x.s.length ≤ 64)) ∧
     St W noF [own 237 2 z.2.1 z.2.2.1 (z.2.2.2.1.flatMap Wr.cells),rds z.2.2.2.2,pts b8 (.cells (bv d0).toArray 23)] w) (fun z => n0.toNat - z.1)
    (0,none,0,[],[]) ⟨rfl,rfl,rfl,rfl,rfl,rfl,trivial⟩ ⟨⟨Nat.zero_le _,Nat.zero_le _,rfl,Nat.le_refl _⟩,⟨rfl,rfl,by simp,by simp,by simp⟩,hS⟩ ?_
   clear hS
   rintro ⟨i,a5,c5,ws,O⟩ w ⟨⟨hi,hi2,hwl,hwc⟩,⟨hwd,hgood,hnone,hO,hw64⟩,hS⟩
   simp only at hi hi2 hwl hwc hwd hgood hnone hO hw64 hS ⊢
   by_cases hlt : i < n0.toNat
   ·have hlt' : (i : Int) < n0 := by omega
    repeat (first|(refine G_id ?_;first|refine Zah ?_|refine Zac rfl rfl ?_)|(refine X_id ?_;first|refine X_yl (Zad rfl rfl) rfl rfl ?_|refine X_yl (Za7 rfl rfl rfl (by omega)) rfl rfl ?_)|(refine C_id ?_;first|refine Zaj ?_|refine Zaa ?_|refine Zat ?_|refine Zav ?_|refine Zam rfl ?_)|(refine E_id ?_;first|refine Zae ?_))
    refine Zal _ rfl rfl rfl rfl rfl (entry_ lp p o s m j done rdn D number (i : Nat) _ (hLo.rd hS) (hDo.rd hS) hj hline (by omega)) ?_
    rintro _ w ⟨a1,c1,rfl,hc1,hS'⟩
    replace hS := hS.plus hS'
    clear hS'
    have hok1 := fun h => (entM_ok (D := D) (j := j) (number := number) (at_ := (i : Nat)) h)
    have hsucc := entList_succ D j number i
    have hd1 := entM_d D hok j number (i : Nat)
    have hbadi := hbad i hlt
    have hb1 := entM_b D hok j number (i : Nat)
    generalize entM D j number (i : Nat) = e1 at hS hc1 hok1 hsucc hd1 hbadi hb1 ⊢
    obtain ⟨no1,b1,n1,d1,ok1⟩ := e1
    simp only at hd1 hS hc1 hok1 hb1
    have hl1 : LenO (bv d1) 32 := ⟨by simp [hd1]⟩
    unfold Ent.val
    simp only
    cases ok1
    ·have hf := hbadi (by simp [goodE])
     repeat (first|(refine G_id ?_;first|refine Zah ?_|refine Zac rfl rfl ?_|refine G_no rfl rfl rfl rfl rfl rfl ?_)|(refine X_id ?_;first|refine X_yl (Zad rfl rfl) rfl rfl ?_|refine X_yl (Zab rfl rfl) rfl rfl ?_|refine X_yl (Zbi rfl rfl) rfl rfl ?_|refine X_yl (Zbp rfl rfl rfl) rfl rfl ?_|refine X_yl (Zb5 rfl rfl) rfl rfl ?_|refine Za2 rfl rfl rfl rfl hS (fun _ hS _ => ?_)|refine Zbc rfl rfl rfl hS (fun _ _ hS _ => ?_))|(refine C_id ?_;first|refine Zaj ?_|refine Zaa ?_|refine Zb2 ?_|refine Zam rfl ?_)|(refine E_id ?_;first|refine Zae ?_|refine Zaw ?_|refine Za1 ?_|refine E_blk_ne rfl ?_))
     refine Zco (.s 0 (.s 1 (.s 2 (.s 3 (.h 4 (.s 5 (.s 6 (.s 7 (.s 8 (.s 9 (.s 11 (.h 10 (.s 12 (.s 13 .nil)) .no))))))) .no))))) mixed (by kernel_rfl) rfl ?_
     have hS := hS.drew
     repeat (first|(refine G_id ?_;first|refine Zah ?_|refine Zac rfl rfl ?_)|(refine X_id ?_;first|refine X_yl (Zab rfl rfl) rfl rfl ?_)|(refine C_id ?_;first|refine Zaj ?_|refine Zaa ?_|refine Za0 ?_|refine Zam rfl ?_)|(refine E_id ?_;first|refine Zae ?_|refine Zar ?_|refine Zef (fun _ h => by cases h) ?_|refine Zax rfl (Zao rfl) (Ret.mk ?_))|(refine Zbm ?_;first|refine Zbv ?_|refine Zai rfl rfl (fun _ => Zad rfl rfl) rfl rfl ?_|refine Zai rfl rfl (fun _ => Zbp rfl rfl rfl) rfl rfl ?_|refine Zai rfl rfl (fun _ => Zcm rfl rfl rfl) rfl rfl ?_|refine GO_hard_no rfl rfl rfl rfl rfl rfl rfl ?_|refine GO_no rfl rfl rfl rfl rfl rfl rfl ?_))
     exact hnil _ hS.drops hf
    ·by_cases hn : n1 = n0
     ·by_cases hd : d1 = d0
      ·subst hn hd
       repeat (first|(refine G_id ?_;first|refine Zah ?_|refine Zac rfl rfl ?_|refine Zcp rfl rfl rfl rfl ?_)|(refine X_id ?_;first|refine X_yl (Zad rfl rfl) rfl rfl ?_|refine X_yl (Zab rfl rfl) rfl rfl ?_|refine X_yl (Zbi rfl rfl) rfl rfl ?_|refine X_yl (Za6 rfl rfl rfl) rfl rfl ?_|refine X_yl (Zbg rfl rfl) rfl rfl ?_|refine X_yl (Zbz rfl rfl rfl (by omega)) rfl rfl ?_|refine X_yl (Zbf rfl rfl hS.cellsN) rfl rfl ?_|refine Za2 rfl rfl rfl rfl hS (fun _ hS _ => ?_)|refine Zbc rfl rfl rfl hS (fun _ _ hS _ => ?_))|(refine C_id ?_;first|refine Zaj ?_|refine Zaa ?_)|(refine E_id ?_;first|refine Zae ?_))
       refine X_yl (Yl_neqArr rfl rfl rfl hd1 hd0) rfl rfl ?_
       rw [decide_eq_false (not_not_intro rfl)]
       repeat (first|(refine G_id ?_;first|refine Zah ?_|refine Zac rfl rfl ?_)|(refine X_id ?_;first|refine X_yl (Zad rfl rfl) rfl rfl ?_|refine X_yl (Za6 rfl rfl rfl) rfl rfl ?_|refine X_yl (Zbf rfl rfl hS.cellsN) rfl rfl ?_|refine Zbb rfl rfl rfl rfl rfl rfl rfl rfl hS (fun _ _ hS _ => ?_))|(refine C_id ?_;first|refine Zaa ?_|refine Zav ?_|refine Zak rfl ?_)|(refine E_id ?_;first|refine Zae ?_))
       have hok2 := hok1 rfl
       refine Zd4 rfl rfl rfl rfl rfl hS (flatMap_len (f := Wr.cells) (n := 2) fun _ _ => rfl) hwc (hS.rd (List.mem_cons_self ..)).own_row rfl (fun u hu => by
        simp only [List.mem_cons,List.not_mem_nil,or_false] at hu
        rcases hu with rfl | rfl <;> rfl) (by omega) (by simp only [maxLen]; omega) (fun a' c' w hS hc' hnil' => ?_)
       repeat (first|(refine G_id ?_;first|refine Zah ?_|refine Zac rfl rfl ?_)|(refine X_id ?_;first|refine X_yl (Zad rfl rfl) rfl rfl ?_|refine X_yl (Zab rfl rfl) rfl rfl ?_|refine X_yl (Zbo rfl rfl rfl (w64 (by omega) (by omega))) rfl rfl ?_)|(refine C_id ?_;first|refine Zaa ?_)|(refine E_id ?_;first|refine Zae ?_|refine Zbh ?_))
       refine Zbu (z := (i,a5,c5,ws,O)) (i + 1,a',c',ws ++ [(⟨no1,⟨a1,c1,b1⟩⟩ : Wr)],O ++ [(⟨a1,c1,b1⟩ : Bs)]) ⟨rfl,rfl,?_,rfl,rfl,rfl,trivial⟩ ⟨⟨by simp only; omega,by simp only; omega,by simp; omega,by simp; omega⟩,⟨?_,?_,?_,?_,?_⟩,?_⟩ (by simp only; omega)
       ·show some _ = some _
        simp
       ·show (ws ++ _).map Wr.data = _
        rw [hsucc,List.map_append,List.map_append,hwd]
        rfl
       ·show (Zd8 D j number (i + 1)).all _ = true
        rw [hsucc,List.all_append,hgood]
        simp [goodE]
       ·show a' = none ↔ i + 1 = 0
        rw [hnil']; simp
       ·intro v hv
        simp only [List.mem_append,List.mem_singleton] at hv ⊢
        rcases hv with hv | rfl
        ·exact .inl (hO v hv)
        ·exact .inr rfl
       ·intro v hv
        simp only [List.mem_append,List.mem_singleton] at hv
        rcases hv with hv | rfl
        ·exact hw64 v hv
        ·exact hb1
       ·skip
        have hS := hS.pick [4,4,0,3]
        replace hS := St.rdsCons (x := ⟨a1,c1,b1⟩) hS
        have hS := hS.pick [1,0,0]
        simpa [Wr.cells] using hS
      ·have hf := hbadi (by simp [goodE,hd])
       repeat (first|(refine G_id ?_;first|refine Zah ?_|refine Zac rfl rfl ?_|refine Zcp rfl rfl rfl rfl ?_)|(refine X_id ?_;first|refine X_yl (Zad rfl rfl) rfl rfl ?_|refine X_yl (Zab rfl rfl) rfl rfl ?_|refine X_yl (Zbi rfl rfl) rfl rfl ?_|refine X_yl (Za6 rfl rfl rfl) rfl rfl ?_|refine X_yl (Zbg rfl rfl) rfl rfl ?_|refine X_yl (Zbz rfl rfl rfl (by omega)) rfl rfl ?_|refine X_yl (Zbf rfl rfl hS.cellsN) rfl rfl ?_|refine Za2 rfl rfl rfl rfl hS (fun _ hS _ => ?_)|refine Zbc rfl rfl rfl hS (fun _ _ hS _ => ?_))|(refine C_id ?_;first|refine Zaj ?_|refine Zaa ?_)|(refine E_id ?_;first|refine Zae ?_))
       refine X_yl (Yl_neqArr rfl rfl rfl hd1 hd0) rfl rfl ?_
       rw [decide_eq_true hd]
       repeat (first|(refine G_id ?_;first|refine Zah ?_|refine Zac rfl rfl ?_)|(refine X_id ?_;first|refine X_yl (Zab rfl rfl) rfl rfl ?_|refine X_yl (Za6 rfl rfl rfl) rfl rfl ?_)|(refine C_id ?_;first|refine Zaj ?_|refine Zaa ?_|refine Zb2 ?_|refine Zam rfl ?_)|(refine E_id ?_;first|refine Zae ?_|refine Zaw ?_|refine Za1 ?_|refine E_blk_ne rfl ?_))
       refine Zco (.s 0 (.s 1 (.s 2 (.s 3 (.h 4 (.s 5 (.s 6 (.s 7 (.s 8 (.s 9 (.s 11 (.h 10 (.s 12 (.s 13 .nil)) .no))))))) .no))))) mixed (by kernel_rfl) rfl ?_
       have hS := hS.drew
       repeat (first|(refine G_id ?_;first|refine Zah ?_|refine Zac rfl rfl ?_)|(refine X_id ?_;first|refine X_yl (Zab rfl rfl) rfl rfl ?_)|(refine C_id ?_;first|refine Zaj ?_|refine Zaa ?_|refine Za0 ?_|refine Zam rfl ?_)|(refine E_id ?_;first|refine Zae ?_|refine Zar ?_|refine Zef (fun _ h => by cases h) ?_|refine Zax rfl (Zao rfl) (Ret.mk ?_))|(refine Zbm ?_;first|refine Zbv ?_|refine Zai rfl rfl (fun _ => Zad rfl rfl) rfl rfl ?_|refine Zai rfl rfl (fun _ => Zbp rfl rfl rfl) rfl rfl ?_|refine Zai rfl rfl (fun _ => Zcm rfl rfl rfl) rfl rfl ?_|refine GO_hard_no rfl rfl rfl rfl rfl rfl rfl ?_|refine GO_no rfl rfl rfl rfl rfl rfl rfl ?_))
       exact hnil _ hS.drops hf
     ·have hf := hbadi (by simp [goodE,hn])
      repeat (first|(refine G_id ?_;first|refine Zah ?_|refine Zac rfl rfl ?_|refine Zcp rfl rfl rfl rfl ?_|refine G_no rfl rfl rfl rfl rfl rfl ?_)|(refine X_id ?_;first|refine X_yl (Zad rfl rfl) rfl rfl ?_|refine X_yl (Zab rfl rfl) rfl rfl ?_|refine X_yl (Zbi rfl rfl) rfl rfl ?_|refine X_yl (Zbp rfl rfl rfl) rfl rfl ?_|refine X_yl (Za6 rfl rfl rfl) rfl rfl ?_|refine X_yl (Zbg rfl rfl) rfl rfl ?_|refine X_yl (Zck rfl rfl rfl (by omega)) rfl rfl ?_|refine Za2 rfl rfl rfl rfl hS (fun _ hS _ => ?_)|refine Zbc rfl rfl rfl hS (fun _ _ hS _ => ?_))|(refine C_id ?_;first|refine Zaj ?_|refine Zaa ?_|refine Zb2 ?_|refine Zam rfl ?_)|(refine E_id ?_;first|refine Zae ?_|refine Zaw ?_|refine Za1 ?_|refine E_blk_ne rfl ?_))
      refine Zco (.s 0 (.s 1 (.s 2 (.s 3 (.h 4 (.s 5 (.s 6 (.s 7 (.s 8 (.s 9 (.s 11 (.h 10 (.s 12 (.s 13 .nil)) .no))))))) .no))))) mixed (by kernel_rfl) rfl ?_
      have hS := hS.drew
      repeat (first|(refine G_id ?_;first|refine Zah ?_|refine Zac rfl rfl ?_)|(refine X_id ?_;first|refine X_yl (Zab rfl rfl) rfl rfl ?_)|(refine C_id ?_;first|refine Zaj ?_|refine Zaa ?_|refine Za0 ?_|refine Zam rfl ?_)|(refine E_id ?_;first|refine Zae ?_|refine Zar ?_|refine Zef (fun _ h => by cases h) ?_|refine Zax rfl (Zao rfl) (Ret.mk ?_))|(refine Zbm ?_;first|refine Zbv ?_|refine Zai rfl rfl (fun _ => Zad rfl rfl) rfl rfl ?_|refine Zai rfl rfl (fun _ => Zbp rfl rfl rfl) rfl rfl ?_|refine Zai rfl rfl (fun _ => Zcm rfl rfl rfl) rfl rfl ?_|refine GO_hard_no rfl rfl rfl rfl rfl rfl rfl ?_|refine GO_no rfl rfl rfl rfl rfl rfl rfl ?_))
      exact hnil _ hS.drops hf
   ·obtain rfl : i = n0.toNat := by omega
    have hn0 : ((n0.toNat : Nat) : Int) = n0 := by omega
    obtain ⟨ad,rfl⟩ : ∃ ad,a5 = some ad := by
     cases a5 with
     | none => have := hnone.1 rfl; omega
     | some ad => exact ⟨ad,rfl⟩
    obtain ⟨d,hd⟩ : ∃ d,d = ws.map Wr.data := ⟨_,rfl⟩
    rw [if_pos hgood,← hwd,← hd] at hfl
    have hfm : Zeu rd fs D j number = if Zdh d = 0 ∧ sumB rd fs number d = d0 then d else [] := by
     unfold Zeu
     rw [hfl,← he0]
    have hdw : d.length = ws.length := by rw [hd]; simp
    have hfr := framed_sum_le number d (fun x hx => by
     rw [hd] at hx
     obtain ⟨v,hv,rfl⟩ := List.mem_map.1 hx
     exact hw64 v hv)
    have hWW : ∀ w rs,St W noF (own 237 2 (some ad) c5 (ws.flatMap Wr.cells) :: rds O :: rs) w → Wrs w noF (some ad) ws := fun w rs h => ⟨(h.rd (List.mem_cons_self ..)).own_row.ro,fun v hv => (h.rd (List.mem_cons_of_mem _ (List.mem_cons_self ..))).ro.rds _ (hO v hv)⟩
    repeat (first|(refine G_id ?_;first|refine Zah ?_|refine Zac rfl rfl ?_)|(refine X_id ?_;first|refine X_yl (Zad rfl rfl) rfl rfl ?_|refine X_yl (Za8 rfl rfl rfl (by omega)) rfl rfl ?_)|(refine C_id ?_;first|refine Zaj ?_|refine Zaa ?_|refine Zb2 ?_|refine Zak rfl ?_)|(refine E_id ?_;first|refine Zae ?_|refine Zaw ?_|refine Za1 ?_))
    refine Zco (.s 0 (.s 1 (.s 2 (.s 3 (.h 4 (.s 5 (.s 6 (.s 7 (.s 8 (.s 9 (.s 11 (.h 10 (.s 12 (.s 13 .nil)) .no))))))) .no))))) mixed (by kernel_rfl) rfl ?_
    have hS := hS.drew
    repeat (first|(refine Zbm ?_;first|refine Zai rfl rfl (fun _ => Zad rfl rfl) rfl rfl ?_|refine Zai rfl rfl (fun _ => Zcm rfl rfl rfl) rfl rfl ?_|refine Zew rfl rfl rfl rfl (fun _ => Zad rfl rfl) rfl rfl ?_|refine GO_hard_yes rfl rfl rfl rfl ?_))
    refine Zbn _ rfl rfl rfl rfl rfl hS (check_ (some ad) c5 ws _ (hWW _ _ hS) (by omega) (fun v hv => by have := hw64 v hv; omega)) ?_
    rintro _ w rfl hS
    rw [← hd]
    by_cases hck : Zdh d = 0
    ·repeat (first|(refine Zbm ?_;first|refine Zai rfl rfl (fun _ => Zad rfl rfl) rfl rfl ?_|refine Zai rfl rfl (fun _ => Za6 rfl rfl rfl) rfl rfl ?_|refine Zew rfl rfl rfl rfl (fun _ => Zad rfl rfl) rfl rfl ?_|refine Zew rfl rfl rfl rfl (fun _ => Zbz rfl rfl rfl (by omega)) rfl rfl ?_|refine GO_hard_yes rfl rfl rfl rfl ?_|refine Zec (fun w' => Zfe w' _ _ _) rfl rfl rfl rfl hS.cellsN (fun _ hc => Zbf rfl rfl hc) rfl rfl ?_)|(refine Za3 ?_;first|refine And.intro (by repeat (first|exact trivial|refine And.intro (.inl (by decide +kernel)) ?_|refine And.intro (.inr (by first|assumption|exact hS.cell|exact Zan (by assumption)|exact hS.cellI (by omega)|exact hS.cellIP (by omega)|exact hS.cellsN|exact ((hr.rd hS).cellX (by omega) hx)|exact ((hr2.rd hS).cellX (by omega) hx2)|exact hS.cellB (by omega)|exact hS.cellBA (by omega)|exact (hb.rd hS).cellB' (by omega)|exact (hb2.rd hS).cellB' (by omega)|exact (hg.rd hS).cellI (by omega)|exact (hg2.rd hS).cellI (by omega)|exact ((hr.rd hS).cellF (by first|omega|(dsimp only;omega)) hx)|exact ((hr2.rd hS).cellF (by first|omega|(dsimp only;omega)) hx2)|exact hS.cellO 0 (by omega)|exact hS.cellO 1 (by omega)|exact hS.cellIA (by omega)|exact (hg.rd hS).cellIA (by omega)|exact (hg2.rd hS).cellIA (by omega)|exact Zan (hc.rd hS).pts|exact hb.rd hS|exact (hr.rd hS).cellsF7 (by first|omega|(dsimp only;omega)) hst4 rfl|exact (hr2.rd hS).cellsF7 (by first|omega|(dsimp only;omega)) hst4 rfl|exact hS.cellO 4 (by omega)|exact hS.cellO 5 (by omega)|exact hS.cellO 6 (by omega)|exact hS.cellO 7 (by omega)|exact hS.cellO 8 (by omega)|exact hS.cellO 9 (by omega)|exact hS.cellO 10 (by omega)|exact hS.cellO 11 (by omega)|exact hS.cellO 12 (by omega)|exact hS.cellO 13 (by omega)|exact hS.cellO 2 (by omega)|exact hS.cellO 3 (by omega))) ?_)) ?_))
     refine Zbn _ rfl rfl rfl rfl rfl hS (wsum_ number (some ad) c5 ws rd fs _ (hG.mono fun r hr => (hr.rd hS).ro) (hWW _ _ hS) (by omega) (by rw [← hd]; omega)) ?_
     rintro _ w rfl hS
     rw [← hd]
     repeat (first|(refine Za3 ?_;first|refine And.intro (by repeat (first|exact trivial|refine And.intro (.inl (by decide +kernel)) ?_|refine And.intro (.inr (by first|assumption|exact hS.cell|exact Zan (by assumption)|exact hS.cellI (by omega)|exact hS.cellIP (by omega)|exact hS.cellsN|exact ((hr.rd hS).cellX (by omega) hx)|exact ((hr2.rd hS).cellX (by omega) hx2)|exact hS.cellB (by omega)|exact hS.cellBA (by omega)|exact (hb.rd hS).cellB' (by omega)|exact (hb2.rd hS).cellB' (by omega)|exact (hg.rd hS).cellI (by omega)|exact (hg2.rd hS).cellI (by omega)|exact ((hr.rd hS).cellF (by first|omega|(dsimp only;omega)) hx)|exact ((hr2.rd hS).cellF (by first|omega|(dsimp only;omega)) hx2)|exact hS.cellO 0 (by omega)|exact hS.cellO 1 (by omega)|exact hS.cellIA (by omega)|exact (hg.rd hS).cellIA (by omega)|exact (hg2.rd hS).cellIA (by omega)|exact Zan (hc.rd hS).pts|exact hb.rd hS|exact (hr.rd hS).cellsF7 (by first|omega|(dsimp only;omega)) hst4 rfl|exact (hr2.rd hS).cellsF7 (by first|omega|(dsimp only;omega)) hst4 rfl|exact hS.cellO 4 (by omega)|exact hS.cellO 5 (by omega)|exact hS.cellO 6 (by omega)|exact hS.cellO 7 (by omega)|exact hS.cellO 8 (by omega)|exact hS.cellO 9 (by omega)|exact hS.cellO 10 (by omega)|exact hS.cellO 11 (by omega)|exact hS.cellO 12 (by omega)|exact hS.cellO 13 (by omega)|exact hS.cellO 2 (by omega)|exact hS.cellO 3 (by omega))) ?_)) ?_))
     refine Zew rfl rfl rfl rfl (fun _ => Yl_neqArr rfl rfl rfl (sumB_length ..) hd0) rfl rfl ?_
     by_cases hsm : sumB rd fs number d = d0
     ·rw [decide_eq_false (not_not_intro hsm)]
      repeat (first|(refine G_id ?_;first|refine Zah ?_|refine Zac rfl rfl ?_)|(refine X_id ?_;first|refine X_yl (Zad rfl rfl) rfl rfl ?_|refine X_yl (Zab rfl rfl) rfl rfl ?_)|(refine C_id ?_;first|refine Zaj ?_|refine Zaa ?_|refine Za0 ?_|refine Zav ?_|refine Zak rfl ?_)|(refine E_id ?_;first|refine Zae ?_|refine Zef (fun _ h => by cases h) ?_|refine Zax rfl (Zao rfl) (Ret.mk ?_))|(refine Zbm ?_;first|refine Zbv ?_|refine Zai rfl rfl (fun _ => Za6 rfl rfl rfl) rfl rfl ?_))
      refine ⟨some ad,c5,ws,O,rfl,?_,?_,hO,hS.pick [0,0]⟩
      ·rw [hfm,if_pos ⟨hck,hsm⟩,hd]
      ·constructor
       ·intro h; cases h
       ·intro h; rw [h] at hwl; simp at hwl; omega
     ·rw [decide_eq_true hsm]
      repeat (first|(refine G_id ?_;first|refine Zah ?_|refine Zac rfl rfl ?_)|(refine X_id ?_;first|refine X_yl (Zab rfl rfl) rfl rfl ?_)|(refine C_id ?_;first|refine Zaj ?_|refine Zaa ?_|refine Za0 ?_|refine Zam rfl ?_)|(refine E_id ?_;first|refine Zae ?_|refine Zar ?_|refine Zef (fun _ h => by cases h) ?_|refine Zax rfl (Zao rfl) (Ret.mk ?_))|(refine Zbm ?_;first|refine Zbv ?_|refine Zai rfl rfl (fun _ => Za6 rfl rfl rfl) rfl rfl ?_))
      exact hnil _ hS.drops (by rw [hfm,if_neg (fun h => hsm h.2)])
    ·repeat (first|(refine G_id ?_;first|refine Zah ?_|refine Zac rfl rfl ?_)|(refine X_id ?_;first|refine X_yl (Zab rfl rfl) rfl rfl ?_)|(refine C_id ?_;first|refine Zaj ?_|refine Zaa ?_|refine Za0 ?_|refine Zam rfl ?_)|(refine E_id ?_;first|refine Zae ?_|refine Zar ?_|refine Zef (fun _ h => by cases h) ?_|refine Zax rfl (Zao rfl) (Ret.mk ?_))|(refine Zbm ?_;first|refine Zbv ?_|refine Zai rfl rfl (fun _ => Zad rfl rfl) rfl rfl ?_|refine Zai rfl rfl (fun _ => Zbp rfl rfl rfl) rfl rfl ?_|refine Zai rfl rfl (fun _ => Za6 rfl rfl rfl) rfl rfl ?_|refine Zew rfl rfl rfl rfl (fun _ => Zck rfl rfl rfl (by omega)) rfl rfl ?_|refine GO_hard_no rfl rfl rfl rfl rfl rfl rfl ?_|refine GO_no rfl rfl rfl rfl rfl rfl rfl ?_)|(refine Za3 ?_;first|refine And.intro (by repeat (first|exact trivial|refine And.intro (.inl (by decide +kernel)) ?_|refine And.intro (.inr (by first|assumption|exact hS.cell|exact Zan (by assumption)|exact hS.cellI (by omega)|exact hS.cellIP (by omega)|exact hS.cellsN|exact ((hr.rd hS).cellX (by omega) hx)|exact ((hr2.rd hS).cellX (by omega) hx2)|exact hS.cellB (by omega)|exact hS.cellBA (by omega)|exact (hb.rd hS).cellB' (by omega)|exact (hb2.rd hS).cellB' (by omega)|exact (hg.rd hS).cellI (by omega)|exact (hg2.rd hS).cellI (by omega)|exact ((hr.rd hS).cellF (by first|omega|(dsimp only;omega)) hx)|exact ((hr2.rd hS).cellF (by first|omega|(dsimp only;omega)) hx2)|exact hS.cellO 0 (by omega)|exact hS.cellO 1 (by omega)|exact hS.cellIA (by omega)|exact (hg.rd hS).cellIA (by omega)|exact (hg2.rd hS).cellIA (by omega)|exact Zan (hc.rd hS).pts|exact hb.rd hS|exact (hr.rd hS).cellsF7 (by first|omega|(dsimp only;omega)) hst4 rfl|exact (hr2.rd hS).cellsF7 (by first|omega|(dsimp only;omega)) hst4 rfl|exact hS.cellO 4 (by omega)|exact hS.cellO 5 (by omega)|exact hS.cellO 6 (by omega)|exact hS.cellO 7 (by omega)|exact hS.cellO 8 (by omega)|exact hS.cellO 9 (by omega)|exact hS.cellO 10 (by omega)|exact hS.cellO 11 (by omega)|exact hS.cellO 12 (by omega)|exact hS.cellO 13 (by omega)|exact hS.cellO 2 (by omega)|exact hS.cellO 3 (by omega))) ?_)) ?_))
     exact hnil _ hS.drops (by rw [hfm,if_neg (fun h => hck h.1)])
end Cr
namespace Cr
open Go Go.Proofs
set_option maxRecDepth 100000
set_option maxHeartbeats 8000000
attribute [local irreducible] Calls

theorem check_good {d : List (Int × List UInt8)} (h : Zdh d = 0) : ∀ x ∈ d,0 ≤ x.1 ∧ x.2.length = 64 := by
 intro x hx
 unfold Zdh at h
 by_cases ha : d.any badW = true
 ·rw [if_pos ha] at h; cases h
 ·have : badW x = false := by
   cases hb : badW x
   ·rfl
   ·exact absurd (List.any_eq_true.2 ⟨x,hx,hb⟩) ha
  unfold badW at this
  simp only [Bool.or_eq_false_iff,decide_eq_false_iff_not] at this
  omega
theorem entM_top {D : DiskM} {j : Nat} {number at_ : Int} (h : (entM D j number at_).ok = true) : (entM D j number at_).no < (D.laid.length : Int) - 1 - j := by
 unfold entM at h ⊢
 split at h
 ·simp [Ent.none] at h
 ·rename_i h1
  rw [if_neg h1]
  split at h
  ·simp [Ent.none] at h
  ·rename_i h2
   rw [if_neg h2]
   simp only [entOf,Bool.and_eq_true,decide_eq_true_eq] at h ⊢
   exact h.2
theorem found_good (rd fs : List Int) (D : DiskM) (j : Nat) (number : Int) : (∀ x ∈ Zeu rd fs D j number,0 ≤ x.1 ∧ x.1 < (D.laid.length : Int) - 1 - j ∧ x.2.length = 64) ∧ ((Zeu rd fs D j number).length : Int) ≤ (j : Int) / 2 := by
 unfold Zeu
 cases hf : foundL D j number with
 | none => simp; omega
 | some ws =>
  simp only
  split
  ·rename_i hc
   unfold foundL at hf
   split at hf
   ·split at hf
    ·rename_i h1 h2
     simp only [Option.some.injEq] at hf
     have hall := List.all_eq_true.1 h2
     have hg : ∀ e ∈ Zd8 D j number (entM D j number 0).count.toNat,e.ok = true := fun e he => by
      have := hall e he
      simp only [goodE,Bool.and_eq_true] at this
      exact this.1.1
     constructor
     ·intro x hx
      have h3 := check_good hc.1 x hx
      refine ⟨h3.1,?_,h3.2⟩
      rw [← hf] at hx
      obtain ⟨e,he,rfl⟩ := List.mem_map.1 hx
      obtain ⟨i,hi,rfl⟩ := List.mem_map.1 he
      exact entM_top (hg _ he)
     ·rw [← hf]
      simp only [List.length_map,Zd8,List.length_range]
      rcases Nat.eq_zero_or_pos (entM D j number 0).count.toNat with h0 | h0
      ·rw [h0]; omega
      ·have := hg (entM D j number ((entM D j number 0).count.toNat - 1 : Nat)) (List.mem_map.2 ⟨_,List.mem_range.2 (by omega),rfl⟩)
       have := (entM_ok this).2
       omega
    ·cases hf
   ·cases hf
  ·simp; omega

structure RedoM where
 e : Int
 D : DiskM
 done : Int
 redone : Bool
def last : Int := 1152921504606846976
def Ze3 (rd fs : List Int) (D : DiskM) (j : Nat) (done : Int) (rdn : Bool) : RedoM :=
 if ¬ (D.read 0).1 = 0 then ⟨(D.read 0).1,D,done,rdn⟩ else
 if (Zcf rd fs (D.read 0).2).2 = false then ⟨5,D,done,rdn⟩ else
 if last ≤ (Zcf rd fs (D.read 0).2).1 then ⟨0,D,(Zcf rd fs (D.read 0).2).1,rdn⟩ else
 if Zeu rd fs D j ((Zcf rd fs (D.read 0).2).1 + 1) = [] then
  ⟨(clearM D ((Zcf rd fs (D.read 0).2).1 + 1)).1,(clearM D ((Zcf rd fs (D.read 0).2).1 + 1)).2,(Zcf rd fs (D.read 0).2).1,rdn⟩
 else
  ⟨(layM rd fs j (0,D) ((Zcf rd fs (D.read 0).2).1 + 1) (Zeu rd fs D j ((Zcf rd fs (D.read 0).2).1 + 1))).1,(layM rd fs j (0,D) ((Zcf rd fs (D.read 0).2).1 + 1) (Zeu rd fs D j ((Zcf rd fs (D.read 0).2).1 + 1))).2,
   if (layM rd fs j (0,D) ((Zcf rd fs (D.read 0).2).1 + 1) (Zeu rd fs D j ((Zcf rd fs (D.read 0).2).1 + 1))).1 = 0 then (Zcf rd fs (D.read 0).2).1 + 1 else (Zcf rd fs (D.read 0).2).1,true⟩
theorem redo_ (lp p : Nat) (o s m : Int) (j : Nat) (done : Int) (rdn : Bool) (D : DiskM) (rd fs : List Int) (W : World) (F : Nat → Prop) (hG : Gl W F rd fs) (hj : j ≤ 4096) (hline : D.line.length < 1073700000) (hS : St W F [Zdl lp p o s m j done rdn,disk p D] W) :
  Calls Tryz.prog 116 #[.pointer (some ⟨lp,0,none⟩)] W (Ret fun v w => v = .int .i64 (Ze3 rd fs D j done rdn).e ∧ St W F [Zdl lp p o s m j (Ze3 rd fs D j done rdn).done (Ze3 rd fs D j done rdn).redone,disk p (Ze3 rd fs D j done rdn).D] w) := by
 have hok := (hS.rd (List.mem_cons_of_mem _ (List.mem_cons_self ..)) : Rd W (disk p D)).disk.1
 have h64 := fun (h : (D.read 0).1 = 0) => read_64 hok h
 obtain ⟨R,hR⟩ : ∃ R,R = Ze3 rd fs D j done rdn := ⟨_,rfl⟩
 rw [← hR]
 have e := hR
 unfold Ze3 at e
 clear hR
 refine Zaq Tryz.func116 rfl Tryz.ntmps116 rfl ?_
 repeat (first|(refine G_id ?_;first|refine Zah ?_|refine Zac rfl rfl ?_)|(refine X_id ?_;first|refine X_yl (Zad rfl rfl) rfl rfl ?_|refine X_yl (Zab rfl rfl) rfl rfl ?_|refine X_yl (Zag rfl rfl) rfl rfl ?_|refine X_yl (Zaf rfl rfl rfl) rfl rfl ?_|refine X_yl (Zap rfl rfl hS.cell) rfl rfl ?_)|(refine C_id ?_;first|refine Zaj ?_|refine Zaa ?_)|(refine E_id ?_;first|refine Zae ?_))
 refine Zal _ rfl rfl rfl rfl rfl (read_ p D 0 _ (hS.rd (List.mem_cons_of_mem _ (List.mem_cons_self ..))) (by omega)) ?_
 rintro _ w ⟨a,ca,rfl,hca,hS'⟩
 replace hS := hS.plus hS'
 clear hS'
 generalize D.read 0 = ra at h64 hca hS e ⊢
 obtain ⟨ea,la⟩ := ra
 simp only at h64 hca hS e ⊢
 by_cases hea : ea = 0
 ·subst hea
  have hla := h64 rfl
  rw [if_neg (by simp)] at e
  rw [hla]
  have hnb : (Zcf rd fs la).2 = true → 0 ≤ (Zcf rd fs la).1 ∧ (Zcf rd fs la).1 ≤ 1152921504606846976 := fun h => by
   unfold Zcf at h ⊢
   split at h
   ·rename_i h1; rw [if_pos h1]; omega
   ·rename_i h1
    rw [if_neg h1]
    simp only [isFront,Bool.and_eq_true,decide_eq_true_eq] at h ⊢
    omega
  repeat (first|(refine G_id ?_;first|refine Zah ?_|refine Zac rfl rfl ?_)|(refine X_id ?_;first|refine X_yl (Zad rfl rfl) rfl rfl ?_|refine X_yl (Zab rfl rfl) rfl rfl ?_|refine X_yl (Zbi rfl rfl) rfl rfl ?_|refine X_yl (Zbz rfl rfl rfl (by omega)) rfl rfl ?_)|(refine C_id ?_;first|refine Zaj ?_|refine Zaa ?_|refine Zav ?_|refine Zak rfl ?_)|(refine E_id ?_;first|refine Zae ?_))
  refine Zbn _ rfl rfl rfl rfl rfl hS (number_ a ca la rd fs _ (hG.mono fun r hr => (hr.rd hS).ro) (hS.rd (List.mem_cons_self ..)) hla (by omega)) ?_
  rintro _ w rfl hS
  generalize Zcf rd fs la = hn at hnb e ⊢
  obtain ⟨n,ok⟩ := hn
  simp only at hnb e ⊢
  cases ok
  ·rw [if_pos rfl] at e
   subst e
   repeat (first|(refine G_id ?_;first|refine Zah ?_|refine Zac rfl rfl ?_)|(refine X_id ?_;first|refine X_yl (Zad rfl rfl) rfl rfl ?_|refine X_yl (Zab rfl rfl) rfl rfl ?_|refine X_yl (Zbi rfl rfl) rfl rfl ?_|refine X_yl (Zb5 rfl rfl) rfl rfl ?_)|(refine C_id ?_;first|refine Zaj ?_|refine Zaa ?_|refine Za0 ?_|refine Zam rfl ?_)|(refine E_id ?_;first|refine Zae ?_|refine Zar ?_|refine Zax rfl (Zao rfl) (Ret.mk ?_)))
   exact ⟨rfl,hS.pick [1,1]⟩
  ·rw [if_neg (by simp)] at e
   have hn1 := hnb rfl
   by_cases hl : last ≤ n
   ·rw [if_pos hl] at e
    subst e
    unfold last at hl
    repeat (first|(refine G_id ?_;first|refine Zah ?_|refine Zac rfl rfl ?_)|(refine X_id ?_;first|refine X_yl (Zad rfl rfl) rfl rfl ?_|refine X_yl (Zab rfl rfl) rfl rfl ?_|refine X_yl (Zag rfl rfl) rfl rfl ?_|refine X_yl (Zaf rfl rfl rfl) rfl rfl ?_|refine X_yl (Zbi rfl rfl) rfl rfl ?_|refine X_yl (Zbg rfl rfl) rfl rfl ?_|refine X_yl (Zc8 rfl rfl rfl (by omega)) rfl rfl ?_|refine Za2 rfl rfl rfl rfl hS (fun _ hS _ => ?_))|(refine C_id ?_;first|refine Zaj ?_|refine Zaa ?_|refine Za0 ?_|refine Zav ?_|refine Zam rfl ?_|refine Zak rfl ?_)|(refine E_id ?_;first|refine Zae ?_|refine Zar ?_|refine Zax rfl (Zao rfl) (Ret.mk ?_)))
    exact ⟨rfl,hS.pick [1,1]⟩
   ·rw [if_neg hl] at e
    unfold last at hl
    repeat (first|(refine G_id ?_;first|refine Zah ?_|refine Zac rfl rfl ?_)|(refine X_id ?_;first|refine X_yl (Zad rfl rfl) rfl rfl ?_|refine X_yl (Zab rfl rfl) rfl rfl ?_|refine X_yl (Zag rfl rfl) rfl rfl ?_|refine X_yl (Zaf rfl rfl rfl) rfl rfl ?_|refine X_yl (Zbi rfl rfl) rfl rfl ?_|refine X_yl (Zbg rfl rfl) rfl rfl ?_|refine X_yl (Zdp rfl rfl rfl (by omega)) rfl rfl ?_|refine X_yl (Zbo rfl rfl rfl (w64 (by omega) (by omega))) rfl rfl ?_|refine Za2 rfl rfl rfl rfl hS (fun _ hS _ => ?_))|(refine C_id ?_;first|refine Zaj ?_|refine Zaa ?_|refine Zav ?_|refine Zak rfl ?_)|(refine E_id ?_;first|refine Zae ?_))
    have hfg := found_good rd fs D j (n + 1)
    refine Zal _ rfl rfl rfl rfl rfl (found_ lp p o s m j n rdn D (n + 1) rd fs _ (hG.mono fun r hr => (hr.rd hS).ro) (hS.rd (List.mem_cons_of_mem _ (List.mem_cons_self ..))) (hS.rd (List.mem_cons_of_mem _ (List.mem_cons_of_mem _ (List.mem_cons_self ..)))) hj (by omega)) ?_
    rintro _ w ⟨fa,fc,ws,O,rfl,hwd,hnone,hO,hS'⟩
    replace hS := hS.plus hS'
    clear hS'
    rw [← hwd] at e hfg
    by_cases hws : ws = []
    ·obtain rfl := hnone.2 hws
     rw [if_pos (by rw [hws]; rfl)] at e
     subst e
     repeat (first|(refine G_id ?_;first|refine Zah ?_|refine Zac rfl rfl ?_)|(refine X_id ?_;first|refine X_yl (Zad rfl rfl) rfl rfl ?_|refine X_yl (Zab rfl rfl) rfl rfl ?_|refine X_yl (Zbo rfl rfl rfl (w64 (by omega) (by omega))) rfl rfl ?_|refine X_yl (Yl_neqNilSlice rfl rfl rfl) rfl rfl ?_)|(refine C_id ?_;first|refine Zaj ?_|refine Zaa ?_|refine Zav ?_|refine Zak rfl ?_)|(refine E_id ?_;first|refine Zae ?_))
     obtain ⟨_,hc,hr,hw,hbk⟩ := hS.call [false,false,false,true,true]
     refine Zal _ rfl rfl rfl rfl rfl (clear_ lp p o s m j n rdn D (n + 1) _ _ (by omega) hc) ?_
     rintro _ w ⟨rfl,hS⟩
     replace hS := hbk hS
     clear hc hr hw hbk
     repeat (first|(refine G_id ?_;first|refine Zah ?_|refine Zac rfl rfl ?_)|(refine X_id ?_;first|refine X_yl (Zab rfl rfl) rfl rfl ?_)|(refine C_id ?_;first|refine Za0 ?_)|(refine E_id ?_;first|refine Zae ?_|refine Zax rfl (Zao rfl) (Ret.mk ?_)))
     exact ⟨rfl,hS.pick [0,0]⟩
    ·obtain ⟨ad,rfl⟩ : ∃ ad,fa = some ad := by
      cases fa with
      | none => exact absurd (hnone.1 rfl) hws
      | some ad => exact ⟨ad,rfl⟩
     rw [if_neg (by simpa using hws)] at e
     have hwl : ws.length ≤ 2048 := by
      have := hfg.2
      rw [List.length_map] at this
      omega
     repeat (first|(refine G_id ?_;first|refine Zah ?_|refine Zac rfl rfl ?_)|(refine X_id ?_;first|refine X_yl (Zad rfl rfl) rfl rfl ?_|refine X_yl (Zab rfl rfl) rfl rfl ?_|refine X_yl (Zag rfl rfl) rfl rfl ?_|refine X_yl (Zaf rfl rfl rfl) rfl rfl ?_|refine X_yl (Zcq rfl rfl rfl) rfl rfl ?_|refine X_yl (Zbo rfl rfl rfl (w64 (by omega) (by omega))) rfl rfl ?_|refine X_yl (Yl_neqNilSlice rfl rfl rfl) rfl rfl ?_|refine X_yl (Zap rfl rfl hS.cell) rfl rfl ?_|refine Za2 rfl rfl rfl rfl hS (fun _ hS _ => ?_)|refine Zel rfl rfl rfl rfl hS (fun _ _ hS _ => ?_))|(refine C_id ?_;first|refine Zaj ?_|refine Zaa ?_|refine Zam rfl ?_)|(refine E_id ?_;first|refine Zae ?_))
     have hS := hS.pick [4,0,3,0,0]
     have hmost := hok.most
     have hvno : ∀ v ∈ ws,-4611686018427387904 ≤ v.no ∧ v.no ≤ 4611686018427387904 := fun v hv => by
      have := hfg.1 v.data (List.mem_map.2 ⟨v,hv,rfl⟩)
      simp only [Wr.data] at this
      omega
     obtain ⟨_,hc,hr,hw,hbk⟩ := hS.call [true,true,true,false,false]
     refine Zal _ rfl rfl rfl rfl rfl (wlay_ lp _ p o s m j n true (0,D) (n + 1) (some ad) fc ws rd fs _ _ (hG.mono hw) ⟨(hr _ (List.mem_cons_self ..)).own_row,fun v hv => Ro.rds (hr _ (List.mem_cons_of_mem _ (List.mem_cons_self ..))) _ (hO v hv)⟩ hj (by omega) hvno (by simp only; omega) hc) ?_
     rintro _ w ⟨rfl,hS⟩
     replace hS := hbk hS
     clear hc hr hw hbk
     subst e
     repeat (first|(refine G_id ?_;first|refine Zah ?_|refine Zac rfl rfl ?_)|(refine X_id ?_;first|refine X_yl (Zab rfl rfl) rfl rfl ?_)|(refine C_id ?_;first|refine Za0 ?_)|(refine E_id ?_;first|refine Zae ?_|refine Zar ?_|refine Zax rfl (Zao rfl) (Ret.mk ?_)))
     exact ⟨rfl,hS.pick [0,1]⟩
 ·rw [if_pos hea] at e
  subst e
  repeat (first|(refine G_id ?_;first|refine Zah ?_|refine Zac rfl rfl ?_)|(refine X_id ?_;first|refine X_yl (Zad rfl rfl) rfl rfl ?_|refine X_yl (Zab rfl rfl) rfl rfl ?_|refine X_yl (Zbi rfl rfl) rfl rfl ?_|refine X_yl (Zck rfl rfl rfl (by omega)) rfl rfl ?_)|(refine C_id ?_;first|refine Zaj ?_|refine Zaa ?_|refine Za0 ?_|refine Zam rfl ?_)|(refine E_id ?_;first|refine Zae ?_|refine Zar ?_|refine Zax rfl (Zao rfl) (Ret.mk ?_)))
  exact ⟨rfl,hS.pick [1,1]⟩
end Cr
namespace Cr
open Go Go.Proofs
set_option maxRecDepth 100000
set_option maxHeartbeats 8000000
attribute [local irreducible] Calls

instance : Und Tryz.prog 212 .unsafePointer := ⟨Tryz.underlying212⟩
theorem Yl_toUnsafe {P : Program} {o : Oper} {σ : Env} {w : World} {x : Operand} {src dst t : TypeId} {n : Nat} {a : Addr} {v : Value} (ho : o.op = .convert src dst x) (hx : ev σ x = some (.pointer (some a))) [hs : Und P src (.pointer t)] [hd : Und P dst .unsafePointer] [hz : Siz P t n] (hn : Nat.blt 0 n = true) (hc : w.cell? a = some v) : Yl P o σ w (.pointer (some a)) := ⟨fun N ds f ha => by
 have hpos : 0 < n := Zbl hn
 have hsz : (P.info? t).map (fun i => decide (i.size = 0)) = some false := by
  have := hz.siz
  cases hi : P.info? t with
  | none => rw [hi] at this; cases this
  | some i =>
   rw [hi] at this
   simp only [Option.map_some,Option.some.injEq] at this ⊢
   exact decide_eq_false (by omega)
 have := run_convert_to_unsafe hs.und hd.und hsz hc
 simp [execOp,ho,ha.eval hx,this]⟩
theorem ilock_ (b off : Nat) (l l' : List Value) (T : TypeId) (W : World) (F : Nat → Prop) [hn : Nth l off (.int .i32 0)] [hs : Spl l off [.int .i32 1] l'] (hS : St W F [pts b (.cells l.toArray T)] W) :
  Calls Tryz.prog 226 #[.pointer (some ⟨b,off,none⟩)] W (Ret fun _ w => True ∧ St W F [pts b (.cells l'.toArray T)] w) := by
 have hn1 : Nth l' off (.int .i32 1) := ⟨by
  have h := hs.spl
  rw [← h.2]
  simp at h
  rw [List.append_assoc,List.getElem?_append_right (by simp; omega),List.length_take,Nat.min_eq_left (by omega)]
  simp⟩
 refine Zaq Tryz.func226 rfl Tryz.ntmps226 rfl ?_
 repeat (first|(refine G_id ?_;first|refine Zah ?_|refine Zac rfl rfl ?_)|(refine X_id ?_;first|refine X_yl (Zad rfl rfl) rfl rfl ?_|refine X_yl (Zag rfl rfl) rfl rfl ?_|refine X_yl (Zbr rfl rfl rfl) rfl rfl ?_|refine X_emark0 rfl rfl rfl rfl rfl ?_|refine X_ecas rfl rfl rfl rfl rfl hS (fun _ hS => ?_))|(refine C_id ?_;first|refine Zaj ?_|refine Zaa ?_|refine Zam rfl ?_)|(refine E_id ?_;first|refine Zae ?_))
 refine X_yl (Yl_toUnsafe rfl rfl rfl hS.cell) rfl rfl ?_
 repeat (first|(refine G_id ?_;first|refine Zah ?_|refine Zac rfl rfl ?_)|(refine X_id ?_;first|refine X_emark rfl rfl rfl rfl rfl ?_)|(refine C_id ?_;first|refine Za0 ?_)|(refine E_id ?_;first|refine Zae ?_|refine Zar ?_|refine E_ret0 rfl (Ret.mk ?_)))
 exact ⟨trivial,hS⟩
theorem iunlock_ (b off : Nat) (l l' : List Value) (T : TypeId) (W : World) (F : Nat → Prop) [hn : Nth l off (.int .i32 1)] [hs : Spl l off [.int .i32 0] l'] (hS : St W F [pts b (.cells l.toArray T)] W) :
  Calls Tryz.prog 227 #[.pointer (some ⟨b,off,none⟩)] W (Ret fun _ w => True ∧ St W F [pts b (.cells l'.toArray T)] w) := by
 refine Zaq Tryz.func227 rfl Tryz.ntmps227 rfl ?_
 repeat (first|(refine G_id ?_;first|refine Zah ?_|refine Zac rfl rfl ?_)|(refine X_id ?_;first|refine X_yl (Zad rfl rfl) rfl rfl ?_|refine X_yl (Zag rfl rfl) rfl rfl ?_|refine X_yl (Zbr rfl rfl rfl) rfl rfl ?_|refine X_yl (Zap rfl rfl hS.cell) rfl rfl ?_)|(refine C_id ?_;first|refine Zaj ?_|refine Zaa ?_|refine Zam rfl ?_)|(refine E_id ?_;first|refine Zae ?_))
 refine X_yl (Yl_toUnsafe rfl rfl rfl hS.cell) rfl rfl ?_
 repeat (first|(refine G_id ?_;first|refine Zah ?_|refine Zac rfl rfl ?_)|(refine X_id ?_;first|refine X_yl (Zad rfl rfl) rfl rfl ?_|refine X_yl (Zag rfl rfl) rfl rfl ?_|refine X_yl (Zbr rfl rfl rfl) rfl rfl ?_|refine X_emark0 rfl rfl rfl rfl rfl ?_|refine X_emark rfl rfl rfl rfl rfl ?_)|(refine C_id ?_;first|refine Zaj ?_|refine Zaa ?_)|(refine E_id ?_;first|refine Zae ?_))
 refine X_eadd (s := 0) rfl rfl rfl rfl rfl rfl hS (fun _ hS => ?_)
 repeat (first|(refine G_id ?_;first|refine Zah ?_|refine Zac rfl rfl ?_)|(refine X_id ?_;first|refine X_yl (Zad rfl rfl) rfl rfl ?_|refine X_yl (Zab rfl rfl) rfl rfl ?_|refine X_yl (Zbz rfl rfl rfl (by omega)) rfl rfl ?_|refine X_emark0 rfl rfl rfl rfl rfl ?_)|(refine C_id ?_;first|refine Zaj ?_|refine Zaa ?_|refine Zav ?_|refine Zak rfl ?_)|(refine E_id ?_;first|refine Zae ?_|refine Zem rfl (Ret.mk ?_)))
 exact ⟨trivial,hS⟩
theorem bload_ (b off : Nat) (l : List Value) (T : TypeId) (x : Int) (W : World) [hn : Nth l off (.int .u32 x)] (hL : Rd W (pts b (.cells l.toArray T))) :
  Calls Tryz.prog 158 #[.pointer (some ⟨b,off,none⟩)] W (Ret fun v w => v = .bool (decide (¬ x = 0)) ∧ W = w) := by
 have hc := hL.pts
 have hS := St.start W
 refine Zaq Tryz.func158 rfl Tryz.ntmps158 rfl ?_
 repeat (first|(refine G_id ?_;first|refine Zah ?_|refine Zac rfl rfl ?_)|(refine X_id ?_;first|refine X_yl (Zad rfl rfl) rfl rfl ?_|refine X_yl (Zab rfl rfl) rfl rfl ?_|refine X_yl (Zag rfl rfl) rfl rfl ?_|refine X_yl (Zbr rfl rfl rfl) rfl rfl ?_|refine X_yl (Yl_neq rfl rfl rfl) rfl rfl ?_|refine X_eload rfl rfl rfl (Zan (by assumption)) rfl rfl ?_)|(refine C_id ?_;first|refine Zaj ?_|refine Zaa ?_|refine Za0 ?_)|(refine E_id ?_;first|refine Zae ?_|refine Zax rfl (Zao rfl) (Ret.mk ?_)))
 exact ⟨rfl,rfl⟩
end Cr
namespace Cr
open Go Go.Proofs
set_option maxRecDepth 100000
set_option maxHeartbeats 8000000
attribute [local irreducible] Calls

abbrev ptrAt (b lp : Nat) : Res := pts b (.cells #[.pointer (some ⟨lp,0,none⟩)] 153)
abbrev errAt (b : Nat) (e : Int) : Res := pts b (.cells #[.int .i64 e] 43)
theorem b32_ (W : World) : Calls Tryz.prog 229 #[.bool true] W (Ret fun v w => v = .int .u32 1 ∧ W = w) := by
 refine Zaq Tryz.func229 rfl Tryz.ntmps229 rfl ?_
 repeat (first|(refine G_id ?_;first|refine Zah ?_|refine Zac rfl rfl ?_)|(refine X_id ?_;first|refine X_yl (Zad rfl rfl) rfl rfl ?_|refine X_yl (Zab rfl rfl) rfl rfl ?_)|(refine C_id ?_;first|refine Zaj ?_|refine Zaa ?_|refine Za0 ?_|refine Zam rfl ?_)|(refine E_id ?_;first|refine Zae ?_|refine Zar ?_|refine Zax rfl (Zao rfl) (Ret.mk ?_)))
 exact ⟨rfl,rfl⟩
theorem open1_ (lp p b6 b7 : Nat) (o s m : Int) (j : Nat) (done : Int) (rdn : Bool) (D : DiskM) (e0 : Int) (rd fs : List Int) (W : World) (F : Nat → Prop) (hG : Gl W F rd fs) (hj : j ≤ 4096) (hline : D.line.length < 1073700000)
  (hS : St W F [Zdl lp p o s m j done rdn,disk p D,ptrAt b6 lp,errAt b7 e0] W) :
  Calls Tryz.prog 115 #[.pointer (some ⟨b6,0,none⟩),.pointer (some ⟨b7,0,none⟩)] W (Ret fun _ w => True ∧
   St W F [Zdl lp p o s m j (Ze3 rd fs D j done rdn).done (Ze3 rd fs D j done rdn).redone,disk p (Ze3 rd fs D j done rdn).D,ptrAt b6 lp,errAt b7 (Ze3 rd fs D j done rdn).e] w) := by
 refine Zaq Tryz.func115 rfl Tryz.ntmps115 rfl ?_
 repeat (first|(refine G_id ?_;first|refine Zac rfl rfl ?_)|(refine X_id ?_;first|refine X_yl (Zap rfl rfl hS.cell) rfl rfl ?_)|(refine C_id ?_;first|refine Zaa ?_))
 obtain ⟨_,hc,hr,hw,hbk⟩ := hS.call [true,true,false,false]
 refine Zal _ rfl rfl rfl rfl rfl (redo_ lp p o s m j done rdn D rd fs _ _ (hG.mono hw) hj hline hc) ?_
 rintro _ w ⟨rfl,hS⟩
 replace hS := hbk hS
 clear hc hr hw hbk
 generalize Ze3 rd fs D j done rdn = R at hS ⊢
 repeat (first|(refine G_id ?_;first|refine Zah ?_|refine Zac rfl rfl ?_)|(refine X_id ?_;first|refine Za2 rfl rfl rfl rfl hS (fun _ hS _ => ?_))|(refine E_id ?_;first|refine Zem rfl (Ret.mk ?_)))
 exact ⟨trivial,hS⟩
theorem doSlow_ (lp p b6 b7 : Nat) (m : Int) (j : Nat) (done : Int) (rdn : Bool) (D : DiskM) (e0 : Int) (rd fs : List Int) (W : World) (F : Nat → Prop) (hG : Gl W F rd fs) (hj : j ≤ 4096) (hline : D.line.length < 1073700000)
  (hS : St W F [Zdl lp p 0 0 m j done rdn,disk p D,ptrAt b6 lp,errAt b7 e0] W) :
  Calls Tryz.prog 159 #[.pointer (some ⟨lp,1,none⟩),.func (.func 115) #[] #[.pointer (some ⟨b6,0,none⟩),.pointer (some ⟨b7,0,none⟩)]] W (Ret fun _ w => True ∧
   St W F [Zdl lp p 1 0 m j (Ze3 rd fs D j done rdn).done (Ze3 rd fs D j done rdn).redone,disk p (Ze3 rd fs D j done rdn).D,ptrAt b6 lp,errAt b7 (Ze3 rd fs D j done rdn).e] w) := by
 have hlock : ∀ W F,St W F [Zdl lp p 0 0 m j done rdn] W → Calls Tryz.prog 197 #[.pointer (some ⟨lp,2,none⟩)] W (Ret fun _ w => True ∧ St W F [Zdl lp p 0 1 m j done rdn] w) := fun W F hS => by
  refine Zaq Tryz.func197 rfl Tryz.ntmps197 rfl ?_
  repeat (first|(refine G_id ?_;first|refine Zac rfl rfl ?_)|(refine X_id ?_;first|refine X_yl (Zad rfl rfl) rfl rfl ?_|refine X_yl (Zag rfl rfl) rfl rfl ?_|refine X_yl (Zbr rfl rfl rfl) rfl rfl ?_)|(refine C_id ?_;first|refine Zaa ?_))
  refine Zal _ rfl rfl rfl rfl rfl (ilock_ lp 2 _ _ _ _ _ hS) ?_
  rintro _ w ⟨_,hS⟩
  repeat (first|(refine G_id ?_;first|refine Zah ?_)|(refine E_id ?_;first|refine Zem rfl (Ret.mk ?_)))
  exact ⟨trivial,hS⟩
 refine Zaq Tryz.func159 rfl Tryz.ntmps159 rfl ?_
 repeat (first|(refine G_id ?_;first|refine Zac rfl rfl ?_)|(refine X_id ?_;first|refine X_yl (Zad rfl rfl) rfl rfl ?_|refine X_yl (Zag rfl rfl) rfl rfl ?_|refine X_yl (Zbr rfl rfl rfl) rfl rfl ?_)|(refine C_id ?_;first|refine Zaj ?_|refine Zaa ?_))
 obtain ⟨_,hc,hr,hw,hbk⟩ := hS.call [true,false,false,false]
 refine Zal _ rfl rfl rfl rfl rfl (hlock _ _ hc) ?_
 rintro _ w ⟨_,hS⟩
 replace hS := hbk hS
 clear hc hr hw hbk
 repeat (first|(refine G_id ?_;first|refine Zah ?_|refine G_defer rfl rfl rfl rfl rfl ?_|refine Zac rfl rfl ?_)|(refine X_id ?_;first|refine X_yl (Zad rfl rfl) rfl rfl ?_|refine X_yl (Zag rfl rfl) rfl rfl ?_|refine X_yl (Zbr rfl rfl rfl) rfl rfl ?_)|(refine C_id ?_;first|refine Zaj ?_|refine Zaa ?_)|(refine E_id ?_;first|refine Zae ?_|refine E_code2 rfl ?_))
 refine Zal _ rfl rfl rfl rfl rfl (bload_ lp 1 _ _ 0 _ (hS.rd (List.mem_cons_self ..))) ?_
 rintro _ _ ⟨rfl,rfl⟩
 rw [decide_eq_false (show ¬ ¬ (0 : Int) = 0 by simp)]
 repeat (first|(refine G_id ?_;first|refine Zah ?_|refine G_defer rfl rfl rfl rfl rfl ?_|refine Zac rfl rfl ?_)|(refine X_id ?_;first|refine X_yl (Zad rfl rfl) rfl rfl ?_|refine X_yl (Zag rfl rfl) rfl rfl ?_|refine X_yl (Zbr rfl rfl rfl) rfl rfl ?_|refine X_yl (Zb5 rfl rfl) rfl rfl ?_)|(refine C_id ?_;first|refine Zaj ?_|refine Zaa ?_|refine Zam rfl ?_)|(refine E_id ?_;first|refine Zae ?_|refine E_code2 rfl ?_))
 obtain ⟨_,hc,hr,hw,hbk⟩ := hS.call [true,true,true,true]
 refine X_call (first := []) (captured := [.pointer (some ⟨b6,0,none⟩),.pointer (some ⟨b7,0,none⟩)]) rfl rfl rfl rfl rfl (open1_ lp p b6 b7 0 1 m j done rdn D e0 rd fs _ _ (hG.mono hw) hj hline hc) ?_
 rintro _ w ⟨_,hS⟩
 replace hS := hbk hS
 clear hc hr hw hbk
 generalize Ze3 rd fs D j done rdn = R at hS ⊢
 repeat (first|(refine G_id ?_;first|refine Zah ?_))
 refine E_defer (args := [.pointer (some ⟨lp,1,none⟩),.bool true]) (captured := []) rfl rfl rfl rfl (.inr rfl) ?_
 repeat (first|fail)
 refine Zco (.s 0 (.s 1 (.s 2 (.s 3 (.h 4 (.h 5 .nil .no) .no))))) mixed (by kernel_rfl) rfl ?_
 have hS := hS.drew
 repeat (first|(refine X_id ?_;first|(refine Zal 229 rfl rfl rfl rfl rfl (b32_ _) ?_;rintro _ _ ⟨rfl,rfl⟩)|refine X_estore rfl rfl rfl rfl rfl hS (fun _ hS => ?_))|(refine E_id ?_;first|refine E_end0d rfl (Ret.mk ?_))|(refine Zbm ?_;first|refine Zbv ?_|refine Zai rfl rfl (fun _ => Zad rfl rfl) rfl rfl ?_|refine Zai rfl rfl (fun _ => Zag rfl rfl) rfl rfl ?_|refine Zai rfl rfl (fun _ => Zbr rfl rfl rfl) rfl rfl ?_|refine Za9 rfl rfl ?_)|(refine Za3 ?_;first|refine And.intro (by repeat (first|exact trivial|refine And.intro (.inl (by decide +kernel)) ?_|refine And.intro (.inr (by first|assumption|exact hS.cell|exact Zan (by assumption)|exact hS.cellI (by omega)|exact hS.cellIP (by omega)|exact hS.cellsN|exact ((hr.rd hS).cellX (by omega) hx)|exact ((hr2.rd hS).cellX (by omega) hx2)|exact hS.cellB (by omega)|exact hS.cellBA (by omega)|exact (hb.rd hS).cellB' (by omega)|exact (hb2.rd hS).cellB' (by omega)|exact (hg.rd hS).cellI (by omega)|exact (hg2.rd hS).cellI (by omega)|exact ((hr.rd hS).cellF (by first|omega|(dsimp only;omega)) hx)|exact ((hr2.rd hS).cellF (by first|omega|(dsimp only;omega)) hx2)|exact hS.cellO 0 (by omega)|exact hS.cellO 1 (by omega)|exact hS.cellIA (by omega)|exact (hg.rd hS).cellIA (by omega)|exact (hg2.rd hS).cellIA (by omega)|exact Zan (hc.rd hS).pts|exact hb.rd hS|exact (hr.rd hS).cellsF7 (by first|omega|(dsimp only;omega)) hst4 rfl|exact (hr2.rd hS).cellsF7 (by first|omega|(dsimp only;omega)) hst4 rfl|exact hS.cellO 4 (by omega)|exact hS.cellO 5 (by omega)|exact hS.cellO 6 (by omega)|exact hS.cellO 7 (by omega)|exact hS.cellO 8 (by omega)|exact hS.cellO 9 (by omega)|exact hS.cellO 10 (by omega)|exact hS.cellO 11 (by omega)|exact hS.cellO 12 (by omega)|exact hS.cellO 13 (by omega)|exact hS.cellO 2 (by omega)|exact hS.cellO 3 (by omega))) ?_)) ?_))
 refine E_defer (args := [.pointer (some ⟨lp,2,none⟩)]) (captured := []) rfl rfl rfl rfl (.inr rfl) ?_
 repeat (first|(refine G_id ?_;first|refine Zac rfl rfl ?_)|(refine X_id ?_;first|refine X_yl (Zad rfl rfl) rfl rfl ?_|refine X_yl (Zag rfl rfl) rfl rfl ?_|refine X_yl (Zbr rfl rfl rfl) rfl rfl ?_)|(refine C_id ?_;first|refine Zaa ?_))
 obtain ⟨_,hc,hr,hw,hbk⟩ := hS.call [true,false,false,false]
 refine Zal _ rfl rfl rfl rfl rfl (iunlock_ lp 2 _ _ _ _ _ hc) ?_
 rintro _ w ⟨_,hS⟩
 replace hS := hbk hS
 clear hc hr hw hbk
 repeat (first|(refine G_id ?_;first|refine Zah ?_)|(refine E_id ?_;first|refine Zem rfl (Ret.mk ?_)|refine E_end0d rfl (Ret.mk ?_)))
 exact ⟨trivial,hS⟩
theorem do_ (lp p b6 b7 : Nat) (m : Int) (j : Nat) (done : Int) (rdn : Bool) (D : DiskM) (e0 : Int) (rd fs : List Int) (W : World) (F : Nat → Prop) (hG : Gl W F rd fs) (hj : j ≤ 4096) (hline : D.line.length < 1073700000)
  (hS : St W F [Zdl lp p 0 0 m j done rdn,disk p D,ptrAt b6 lp,errAt b7 e0] W) :
  Calls Tryz.prog 114 #[.pointer (some ⟨lp,1,none⟩),.func (.func 115) #[] #[.pointer (some ⟨b6,0,none⟩),.pointer (some ⟨b7,0,none⟩)]] W (Ret fun _ w => True ∧
   St W F [Zdl lp p 1 0 m j (Ze3 rd fs D j done rdn).done (Ze3 rd fs D j done rdn).redone,disk p (Ze3 rd fs D j done rdn).D,ptrAt b6 lp,errAt b7 (Ze3 rd fs D j done rdn).e] w) := by
 refine Zaq Tryz.func114 rfl Tryz.ntmps114 rfl ?_
 repeat (first|(refine G_id ?_;first|refine Zac rfl rfl ?_)|(refine X_id ?_;first|refine X_yl (Zad rfl rfl) rfl rfl ?_|refine X_yl (Zag rfl rfl) rfl rfl ?_|refine X_yl (Zbr rfl rfl rfl) rfl rfl ?_)|(refine C_id ?_;first|refine Zaj ?_|refine Zaa ?_))
 refine Zal _ rfl rfl rfl rfl rfl (bload_ lp 1 _ _ 0 _ (hS.rd (List.mem_cons_self ..))) ?_
 rintro _ _ ⟨rfl,rfl⟩
 rw [decide_eq_false (show ¬ ¬ (0 : Int) = 0 by simp)]
 repeat (first|(refine G_id ?_;first|refine Zah ?_|refine Zac rfl rfl ?_)|(refine X_id ?_;first|refine X_yl (Zad rfl rfl) rfl rfl ?_|refine X_yl (Zb5 rfl rfl) rfl rfl ?_)|(refine C_id ?_;first|refine Zaa ?_|refine Zam rfl ?_)|(refine E_id ?_;first|refine Zae ?_))
 obtain ⟨_,hc,hr,hw,hbk⟩ := hS.call [true,true,true,true]
 refine Zal _ rfl rfl rfl rfl rfl (doSlow_ lp p b6 b7 m j done rdn D e0 rd fs _ _ (hG.mono hw) hj hline hc) ?_
 rintro _ w ⟨_,hS⟩
 replace hS := hbk hS
 clear hc hr hw hbk
 repeat (first|(refine G_id ?_;first|refine Zah ?_)|(refine E_id ?_;first|refine Zem rfl (Ret.mk ?_)))
 exact ⟨trivial,hS⟩

/-! ### Open -/
def openM (rd fs : List Int) (D : DiskM) (j : Int) : RedoM :=
 if D.off = true then ⟨9,D,0,false⟩ else if j < 2 ∨ 1024 < j ∨ ¬ j % 2 = 0 ∨ (D.laid.length : Int) < j + 2 then ⟨1,D,0,false⟩ else Ze3 rd fs D j.toNat 0 false
end Cr
