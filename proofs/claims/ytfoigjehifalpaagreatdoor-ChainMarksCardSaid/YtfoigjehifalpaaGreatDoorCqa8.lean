/-
  Layer 4 (wal): Commit.
  Places that are met twice.
  A disk that is on and not armed: what writes and flushes leave on it. No program is in sight.
  What a transaction leaves behind on a disk that is on and not armed (as Pl1,without the document's check). No program is in sight.
  Layer 7 (inode) in plain words: nodes,their sectors,and how changes are applied. No program is in sight.
  Layer 6 (mode): Check,Number,Of.
  Layer 7 (inode): numbers,sectors.
  The library's slices.Grow and slices.Concat,of bytes.
  Layer 7 (inode),the plain law of applying changes: the sectors hold the table that the document tells. No program is in sight.
  Layer 7 (inode),the plain law of opening: what a node's sector tells. No program is in sight.
  A log on a disk that is on and not armed,as one resource: its data sectors.
-/
import Derived.Test.YtfoigjehifalpaaGreatDoorCqa7
import Derived.Test.YtfoigjehifalpaaGreatDoorCqa6
import Derived.Test.YtfoigjehifalpaaGreatDoorCqa3
import Derived.Test.YtfoigjehifalpaaGreatDoorCqa4
import Derived.Test.YtfoigjehifalpaaGreatDoorCqa5
namespace Cr
open Go Go.Proofs
set_option maxRecDepth 100000
set_option maxHeartbeats 64000000
attribute [local irreducible] Calls

def Zh9 (n : Int) (d : List UInt8) (cnt : Nat) (x : Int × DiskM) (i : Nat) (v : Int × List UInt8) : Int × DiskM :=
 Zd0 (Zd0 x (1 + 2 * (i : Nat)) (Zia n (i : Nat) (cnt : Nat) v.1 d)) (1 + 2 * (i : Nat) + 1) v.2
def Zcl (n : Int) (d : List UInt8) (l : List (Int × List UInt8)) (x : Int × DiskM) : Nat → Int × DiskM
 | 0 => x
 | i + 1 => Zh9 n d l.length (Zcl n d l x i) i (l.getD i (0,[]))
theorem Zod (n : Int) (d : List UInt8) (cnt : Nat) (x : Int × DiskM) (i : Nat) (v : Int × List UInt8) : (Zh9 n d cnt x i v).2.line.length ≤ x.2.line.length + 2 ∧ (Zh9 n d cnt x i v).2.laid.length = x.2.laid.length := by
 unfold Zh9
 have h1 := Zd6 x (1 + 2 * (i : Nat)) (Zia n (i : Nat) (cnt : Nat) v.1 d)
 have h2 := Zd6 (Zd0 x (1 + 2 * (i : Nat)) (Zia n (i : Nat) (cnt : Nat) v.1 d)) (1 + 2 * (i : Nat) + 1) v.2
 exact ⟨by omega,by rw [h2.2,h1.2]⟩
theorem Zjp (n : Int) (d : List UInt8) (l : List (Int × List UInt8)) (x : Int × DiskM) : ∀ i,(Zcl n d l x i).2.line.length ≤ x.2.line.length + 2 * i ∧ (Zcl n d l x i).2.laid.length = x.2.laid.length
 | 0 => by simp [Zcl]
 | i + 1 => by
  have h1 := Zjp n d l x i
  have h2 := Zod n d l.length (Zcl n d l x i) i (l.getD i (0,[]))
  simp only [Zcl]
  exact ⟨by omega,by rw [h2.2,h1.2]⟩
def putM (rd fs : List Int) (D : DiskM) (j : Nat) (done : Int) (l : List (Int × List UInt8)) : Int × DiskM :=
 layM rd fs j (Zdu (Zcl (done + 1) (sumB rd fs (done + 1) l) l (0,D) l.length)) (done + 1) l
def Zbr (rd fs : List Int) (D : DiskM) (j : Nat) (done : Int) (l : List (Int × List UInt8)) : Int × DiskM × Int :=
 if D.off = true then (9,D,done) else if ¬ Zcj l = 0 then (Zcj l,D,done) else if hasM ((D.laid.length : Int) - 1 - j) l = false then (1,D,done) else
 if (j : Int) / 2 < l.length ∨ last ≤ done then (6,D,done) else if l = [] then (0,D,done) else
 ((putM rd fs D j done l).1,(putM rd fs D j done l).2,if (putM rd fs D j done l).1 = 0 then done + 1 else done)
theorem Z49 (lp p : Nat) (o s m : Int) (j : Nat) (done : Int) (rdn : Bool) (D : DiskM) (a : Option Addr) (c : Nat) (l : List Wr) (rd fs : List Int) (W : World) (F : Nat → Prop) (hG : Gl W F rd fs) (hW : Wrs W F a l) (hj : j ≤ 4096) (hdone : 0 ≤ done)
  (hl : l.length ≤ 1048576) (hx64 : ∀ v ∈ l,v.x.s.length ≤ 140737488355328) (hline : D.line.length < 1073000000) (hS : St W F [Zco lp p o s m j done rdn,disk p D] W) :
  Calls Tryz.prog 84 #[.pointer (some ⟨lp,0,none⟩),.slice a l.length c] W (Ret fun v w => v = .int .i64 (Zbr rd fs D j done (l.map Wr.data)).1 ∧
   St W F [Zco lp p o s m j (Zbr rd fs D j done (l.map Wr.data)).2.2 rdn,disk p (Zbr rd fs D j done (l.map Wr.data)).2.1] w) := by
 obtain ⟨d,hd⟩ : ∃ d,d = l.map Wr.data := ⟨_,rfl⟩
 have hdl : d.length = l.length := by rw [hd]; simp
 rw [← hd]
 have hD := hS.rd (List.mem_cons_of_mem _ (List.mem_cons_self ..))
 have hmost := hD.disk.1.most
 have hW0 : ∀ w rs,St W F rs w → Wrs w noF a l := fun w rs h => ⟨(hW.row.rd h).ro,fun v hv => ((hW.all v hv).rd h).ro⟩
 have hon : ∀ w rs,St W F (Zco lp p o s m j done rdn :: disk p D :: rs) w → Calls Tryz.prog 76 #[.pointer (some ⟨p,0,none⟩)] w (Ret fun v w' => v = .bool (!D.off) ∧ w = w') := fun w rs h => on_ p D w (h.rd (List.mem_cons_of_mem _ (List.mem_cons_self ..)))
 cases hoff : D.off
 ·rw [hoff] at hon
  by_cases hck : Zcj d = 0
  ·cases hh : hasM ((D.laid.length : Int) - 1 - j) d
   ·rw [show Zbr rd fs D j done d = (1,D,done) by unfold Zbr; rw [if_neg (by simp [hoff]),if_neg (by simpa using hck),if_pos hh]]
    refine Zab Tryz.func84 rfl Tryz.ntmps84 rfl ?_
    repeat (first|refine Yeg ?_|(refine X_id ?_;first|(refine Zaa 76 rfl rfl rfl rfl rfl (hon _ _ hS) ?_;rintro _ _ ⟨rfl,rfl⟩)|refine Yaf ?_|refine Yag ?_|refine Yav ?_|refine Yan ?_|refine Ybc ?_|refine Ybu ?_|refine Yap ?_)|refine Ye9 ?_|refine Yeo ?_)
    refine Zad _ rfl rfl rfl rfl rfl hS (Zlo a c l _ (hW0 _ _ hS) hl hx64) ?_
    rintro _ w rfl hS
    rw [← hd]
    repeat (first|refine Yeg ?_|refine Yaf ?_|refine Yag ?_|refine Ybb ?_|refine Ye9 ?_|refine Yab ?_)
    refine Zad _ rfl rfl rfl rfl rfl hS (Zws lp p o s m j done rdn D _ a c l (hS.rd (List.mem_cons_self ..)) (hS.rd (List.mem_cons_of_mem _ (List.mem_cons_self ..))) hj (hW0 _ _ hS) hl) ?_
    rintro _ w rfl hS
    rw [← hd,hh]
    repeat (first|refine Yeg ?_|refine Yag ?_|refine Ybq ?_|refine Yey ?_|refine Ye2 ?_)
    exact ⟨rfl,hS⟩
   ·by_cases hfull : (j : Int) / 2 < l.length ∨ last ≤ done
    ·rw [show Zbr rd fs D j done d = (6,D,done) by unfold Zbr; rw [if_neg (by simp [hoff]),if_neg (by simpa using hck),if_neg (by simp [hh]),if_pos (by rw [hdl]; exact hfull)]]
     unfold last at hfull
     by_cases hf1 : (j : Int) / 2 < l.length
     ·refine Zab Tryz.func84 rfl Tryz.ntmps84 rfl ?_
      repeat (first|refine Yeg ?_|(refine X_id ?_;first|(refine Zaa 76 rfl rfl rfl rfl rfl (hon _ _ hS) ?_;rintro _ _ ⟨rfl,rfl⟩)|refine Yaf ?_|refine Yag ?_|refine Yav ?_|refine Yan ?_|refine Ybc ?_|refine Ybu ?_|refine Yap ?_)|refine Ye9 ?_|refine Yeo ?_)
      refine Zad _ rfl rfl rfl rfl rfl hS (Zlo a c l _ (hW0 _ _ hS) hl hx64) ?_
      rintro _ w rfl hS
      rw [← hd]
      repeat (first|refine Yeg ?_|refine Yaf ?_|refine Yag ?_|refine Ybb ?_|refine Ye9 ?_|refine Yab ?_)
      refine Zad _ rfl rfl rfl rfl rfl hS (Zws lp p o s m j done rdn D _ a c l (hS.rd (List.mem_cons_self ..)) (hS.rd (List.mem_cons_of_mem _ (List.mem_cons_self ..))) hj (hW0 _ _ hS) hl) ?_
      rintro _ w rfl hS
      rw [← hd,hh]
      repeat (first|refine Ye0 ?_|(refine X_id ?_;first|(refine Zaa 135 rfl rfl rfl rfl rfl (Zs0 lp p o s m j done rdn _ (hS.rd (List.mem_cons_self ..)) hj) ?_;rintro _ _ ⟨rfl,rfl⟩)|refine Yaf ?_|refine Yag ?_|refine Ybe ?_|refine Ybc ?_|refine Yau ?_|refine Ybz ?_)|refine Yae ?_|refine Yad ?_|refine Yah ?_|refine Yak ?_|refine Yai ?_|refine Ye2 ?_)
      exact ⟨rfl,hS⟩
     ·have hf2 : 1152921504606846976 ≤ done := by omega
      refine Zab Tryz.func84 rfl Tryz.ntmps84 rfl ?_
      repeat (first|refine Yeg ?_|(refine X_id ?_;first|(refine Zaa 76 rfl rfl rfl rfl rfl (hon _ _ hS) ?_;rintro _ _ ⟨rfl,rfl⟩)|refine Yaf ?_|refine Yag ?_|refine Yav ?_|refine Yan ?_|refine Ybc ?_|refine Ybu ?_|refine Yap ?_)|refine Ye9 ?_|refine Yeo ?_)
      refine Zad _ rfl rfl rfl rfl rfl hS (Zlo a c l _ (hW0 _ _ hS) hl hx64) ?_
      rintro _ w rfl hS
      rw [← hd]
      repeat (first|refine Yeg ?_|refine Yaf ?_|refine Yag ?_|refine Ybb ?_|refine Ye9 ?_|refine Yab ?_)
      refine Zad _ rfl rfl rfl rfl rfl hS (Zws lp p o s m j done rdn D _ a c l (hS.rd (List.mem_cons_self ..)) (hS.rd (List.mem_cons_of_mem _ (List.mem_cons_self ..))) hj (hW0 _ _ hS) hl) ?_
      rintro _ w rfl hS
      rw [← hd,hh]
      repeat (first|refine Yex ?_|(refine X_id ?_;first|(refine Zaa 135 rfl rfl rfl rfl rfl (Zs0 lp p o s m j done rdn _ (hS.rd (List.mem_cons_self ..)) hj) ?_;rintro _ _ ⟨rfl,rfl⟩)|refine Yaf ?_|refine Yag ?_|refine Yav ?_|refine Yan ?_|refine Ya9 ?_|refine Ybc ?_|refine Yau ?_|refine Ybs ?_|refine Yb2 ?_|refine Yap ?_)|refine Yae ?_|refine Yad ?_|refine Yah ?_|refine Yak ?_|refine Yai ?_|refine Ye2 ?_)
      exact ⟨rfl,hS⟩
    ·unfold last at hfull
     by_cases hl0 : l = []
     ·rw [show Zbr rd fs D j done d = (0,D,done) by unfold Zbr last; rw [if_neg (by simp [hoff]),if_neg (by simpa using hck),if_neg (by simp [hh]),if_neg (by rw [hdl]; exact hfull),if_pos (by rw [hd,hl0]; rfl)]]
      have hl1 : l.length = 0 := by rw [hl0]; rfl
      refine Zab Tryz.func84 rfl Tryz.ntmps84 rfl ?_
      repeat (first|refine Yeg ?_|(refine X_id ?_;first|(refine Zaa 76 rfl rfl rfl rfl rfl (hon _ _ hS) ?_;rintro _ _ ⟨rfl,rfl⟩)|refine Yaf ?_|refine Yag ?_|refine Yav ?_|refine Yan ?_|refine Ybc ?_|refine Ybu ?_|refine Yap ?_)|refine Ye9 ?_|refine Yeo ?_)
      refine Zad _ rfl rfl rfl rfl rfl hS (Zlo a c l _ (hW0 _ _ hS) hl hx64) ?_
      rintro _ w rfl hS
      rw [← hd]
      repeat (first|refine Yeg ?_|refine Yaf ?_|refine Yag ?_|refine Ybb ?_|refine Ye9 ?_|refine Yab ?_)
      refine Zad _ rfl rfl rfl rfl rfl hS (Zws lp p o s m j done rdn D _ a c l (hS.rd (List.mem_cons_self ..)) (hS.rd (List.mem_cons_of_mem _ (List.mem_cons_self ..))) hj (hW0 _ _ hS) hl) ?_
      rintro _ w rfl hS
      rw [← hd,hh]
      repeat (first|refine Yex ?_|(refine X_id ?_;first|(refine Zaa 135 rfl rfl rfl rfl rfl (Zs0 lp p o s m j done rdn _ (hS.rd (List.mem_cons_self ..)) hj) ?_;rintro _ _ ⟨rfl,rfl⟩)|refine Yaf ?_|refine Yag ?_|refine Yav ?_|refine Yan ?_|refine Ya9 ?_|refine Ybc ?_|refine Yau ?_|refine Ybh ?_|refine Ybs ?_|refine Yb4 ?_|refine Yap ?_)|refine Yae ?_|refine Yad ?_|refine Yah ?_|refine Yak ?_|refine Yai ?_|refine Ye2 ?_)
      exact ⟨rfl,hS⟩
     ·have hl1 : ¬ l.length = 0 := fun h => hl0 (List.length_eq_zero_iff.1 h)
      rw [show Zbr rd fs D j done d = ((putM rd fs D j done d).1,(putM rd fs D j done d).2,if (putM rd fs D j done d).1 = 0 then done + 1 else done) by
       unfold Zbr last; rw [if_neg (by simp [hoff]),if_neg (by simpa using hck),if_neg (by simp [hh]),if_neg (by rw [hdl]; exact hfull),if_neg (by intro h; rw [h] at hdl; exact hl1 hdl.symm)]]
      refine Zab Tryz.func84 rfl Tryz.ntmps84 rfl ?_
      repeat (first|refine Yeg ?_|(refine X_id ?_;first|(refine Zaa 76 rfl rfl rfl rfl rfl (hon _ _ hS) ?_;rintro _ _ ⟨rfl,rfl⟩)|refine Yaf ?_|refine Yag ?_|refine Yav ?_|refine Yan ?_|refine Ybc ?_|refine Ybu ?_|refine Yap ?_)|refine Ye9 ?_|refine Yeo ?_)
      refine Zad _ rfl rfl rfl rfl rfl hS (Zlo a c l _ (hW0 _ _ hS) hl hx64) ?_
      rintro _ w rfl hS
      rw [← hd]
      repeat (first|refine Yeg ?_|refine Yaf ?_|refine Yag ?_|refine Ybb ?_|refine Ye9 ?_|refine Yab ?_)
      refine Zad _ rfl rfl rfl rfl rfl hS (Zws lp p o s m j done rdn D _ a c l (hS.rd (List.mem_cons_self ..)) (hS.rd (List.mem_cons_of_mem _ (List.mem_cons_self ..))) hj (hW0 _ _ hS) hl) ?_
      rintro _ w rfl hS
      rw [← hd,hh]
      repeat (first|refine Yex ?_|(refine X_id ?_;first|(refine Zaa 135 rfl rfl rfl rfl rfl (Zs0 lp p o s m j done rdn _ (hS.rd (List.mem_cons_self ..)) hj) ?_;rintro _ _ ⟨rfl,rfl⟩)|refine Yaf ?_|refine Yag ?_|refine Yav ?_|refine Yan ?_|refine Ya9 ?_|refine Ybc ?_|refine Yau ?_|refine Ybi ?_|refine Ybs ?_|refine Yb4 ?_|refine Ybn ?_|refine Yay ?_|refine Yap ?_|refine Ya7 (fun _ _ hS _ => ?_))|refine Yes ?_|refine Yeo ?_)
      rename_i sp _ _
      have hgood : ∀ v ∈ l,0 ≤ v.no ∧ v.no < (D.laid.length : Int) - 1 - j ∧ v.x.s.length = 64 := fun v hv => by
       have h1 := Zfj hck v.data (by rw [hd]; exact List.mem_map.2 ⟨v,hv,rfl⟩)
       have h2 := List.all_eq_true.1 hh v.data (by rw [hd]; exact List.mem_map.2 ⟨v,hv,rfl⟩)
       exact ⟨h1.1,of_decide_eq_true h2,h1.2⟩
      have hfr := Zij (done + 1) d (fun x hx => by
       have := (Zfj hck x hx).2
       omega)
      have hpm : putM rd fs D j done d = layM rd fs j (Zdu (Zcl (done + 1) (sumB rd fs (done + 1) d) d (0,D) d.length)) (done + 1) d := rfl
      refine Zad _ rfl rfl rfl rfl rfl hS (Z50 (done + 1) a c l rd fs _ (hG.mono fun r hr => (hr.rd hS).ro) (hW0 _ _ hS) hl (by rw [← hd]; omega)) ?_
      rintro _ w rfl hS
      rw [← hd]
      obtain ⟨sd,hsd⟩ : ∃ sd,sd = sumB rd fs (done + 1) d := ⟨_,rfl⟩
      have hsl : sd.length = 32 := by rw [hsd]; exact Zky ..
      rw [← hsd] at hpm ⊢
      have hl32 : LenO (bv sd) 32 := ⟨by simp [hsl]⟩
      repeat (first|refine Yeg ?_|refine Yaf ?_|refine Yau ?_|refine Yao (fun _ hS _ => ?_)|refine Yar (fun _ _ hS _ => ?_)|refine Yej ?_|refine Yab ?_)
      rename_i b8 _ _ _ _ _
      have hS := hS.pick [1,2,1,0]
      refine Zaj (α := Nat) (fun i => [(0,.pointer (some ⟨lp,0,none⟩)),(1,.slice a l.length c),(6,.pointer (some ⟨sp,0,none⟩)),(7,.int .i64 (done + 1)),(8,.pointer (some ⟨b8,0,none⟩)),(62,.slice a l.length c),(63,.int .i64 (l.length : Nat)),(64,.int .i64 (i : Nat))])
       (fun i w => i ≤ l.length ∧ St W F [Zjk sp p (Zcl (done + 1) sd d (0,D) i).1,disk p (Zcl (done + 1) sd d (0,D) i).2,Zco lp p o s m j done rdn,pts b8 (.cells (bv sd).toArray 56)] w) (fun i => l.length - i) 0 ⟨rfl,rfl,rfl,rfl,rfl,rfl,rfl,rfl,trivial⟩ ⟨Nat.zero_le _,hS⟩ ?_
      clear hS
      rintro i w ⟨hi,hS⟩
      have hnl := Zjp (done + 1) sd d (0,D) i
      simp only at hnl
      obtain ⟨X,hX⟩ : ∃ X,X = Zcl (done + 1) sd d (0,D) i := ⟨_,rfl⟩
      rw [← hX] at hS hnl
      by_cases hlt : i < l.length
      ·have hx0 : l[i]? = some l[i] := List.getElem?_eq_getElem hlt
       generalize l[i] = v at hx0
       have hvm := List.mem_of_getElem? hx0
       have hgv := (hgood v hvm).2.2
       have hdi : d.getD i (0,[]) = (v.no,v.x.s) := by rw [List.getD_eq_getElem?_getD,hd]; simp [hx0,Wr.data]
       have hr := hW.row
       have hxs : ((l.flatMap Wr.cells).drop (i * 2)).take 2 = [.int .i64 v.no,.slice v.x.a v.x.s.length v.x.c] := Zpc hx0
       obtain ⟨ab,ao,rfl⟩ := (hW.row.rd hS).base (by intro e; rw [e] at hxs; simp at hxs)
       repeat (first|refine Yeg ?_|(refine X_id ?_;first|refine Yaf ?_|refine Yag ?_|refine Yan ?_|refine Yau ?_|refine Ya1 ?_|refine Yba ?_|refine Yay ?_|refine Yb8 ?_|refine Yap ?_|refine Ybf ?_|refine Ybr ?_|refine Yao (fun _ hS _ => ?_)|refine Yar (fun _ _ hS _ => ?_))|refine Yek ?_|refine Yab ?_)
       refine Zaa _ rfl rfl rfl rfl rfl (Z75 (done + 1) (i : Nat) (l.length : Nat) v.no sd hsl _) ?_
       rintro _ w ⟨q,k,rfl,hS'⟩
       replace hS := hS.plus hS'
       clear hS'
       repeat (first|refine Yaa ?_)
       obtain ⟨_,hc,hr,hw,hbk⟩ := hS.call [false,false,true,true,false,false]
       refine Zaa _ rfl rfl rfl rfl rfl (Zkw sp p X _ _ 64 k (Zia (done + 1) (i : Nat) (l.length : Nat) v.no sd) _ _ hc (hr _ (List.mem_cons_self ..)) (Zgc ..) (by omega)) ?_
       rintro _ w ⟨_,hS⟩
       replace hS := hbk hS
       clear hc hr hw hbk
       have hX2 := Zd6 X (1 + 2 * (i : Nat)) (Zia (done + 1) (i : Nat) (l.length : Nat) v.no sd)
       repeat (first|refine Yeg ?_|(refine X_id ?_;first|refine Yaf ?_|refine Yan ?_|refine Yay ?_|refine Yb8 ?_|refine Yap ?_)|refine Yad ?_|refine Yab ?_)
       obtain ⟨_,hc,hr,hw,hbk⟩ := hS.call [true,true,false,false,false,false]
       refine Zaa _ rfl rfl rfl rfl rfl (Zkw sp p (Zd0 X (1 + 2 * (i : Nat)) (Zia (done + 1) (i : Nat) (l.length : Nat) v.no sd)) _ _ _ _ v.x.s _ _ hc (hw _ (hW.all v hvm)) rfl (by omega)) ?_
       rintro _ w ⟨_,hS⟩
       replace hS := hbk hS
       clear hc hr hw hbk
       repeat (first|refine Yeg ?_|refine Yel ?_|refine Yad ?_|refine Yeo ?_)
       refine Zaf (i + 1) ⟨rfl,rfl,rfl,rfl,rfl,rfl,rfl,rfl,trivial⟩ ⟨by omega,?_⟩ (by omega)
       simp only [Zcl]
       rw [hdi,← hX,hdl]
       have hS := hS.pick [0,0,2,2]
       exact hS
      ·obtain rfl : i = l.length := by omega
       rw [hdl,← hX] at hpm
       have hX2 := Zmm X
       repeat (first|refine Yeg ?_|refine Yaf ?_|refine Yaz ?_|refine Yet ?_|refine Yem ?_)
       obtain ⟨_,hc,hr,hw,hbk⟩ := hS.call [true,true,false,false]
       refine Zaa _ rfl rfl rfl rfl rfl (Zn3 sp p X _ _ hc (by omega)) ?_
       rintro _ w ⟨_,hS⟩
       replace hS := hbk hS
       clear hc hr hw hbk
       repeat (first|refine Yeg ?_|refine Yaf ?_|refine Yeh ?_|refine Yab ?_)
       have hS := hS.pick [2,0,0]
       obtain ⟨_,hc,hr,hw,hbk⟩ := hS.call [true,true,true]
       refine Zaa _ rfl rfl rfl rfl rfl (Z56 lp sp p o s m j done rdn (Zdu X) (done + 1) a c l rd fs _ _ (hG.mono hw) (hW.mono hw) hj hl (fun v hv => by have := hgood v hv; omega) (by omega) hc) ?_
       rintro _ w ⟨rfl,hS⟩
       replace hS := hbk hS
       clear hc hr hw hbk
       rw [hpm,hd]
       repeat (first|refine Yeg ?_|refine Yag ?_|refine Yah ?_|refine Yei ?_)
       exact ⟨rfl,hS.pick [0,1]⟩
  ·rw [show Zbr rd fs D j done d = (Zcj d,D,done) by unfold Zbr; rw [if_neg (by simp [hoff]),if_pos hck]]
   refine Zab Tryz.func84 rfl Tryz.ntmps84 rfl ?_
   repeat (first|refine Yeg ?_|(refine X_id ?_;first|(refine Zaa 76 rfl rfl rfl rfl rfl (hon _ _ hS) ?_;rintro _ _ ⟨rfl,rfl⟩)|refine Yaf ?_|refine Yag ?_|refine Yav ?_|refine Yan ?_|refine Ybc ?_|refine Ybu ?_|refine Yap ?_)|refine Ye9 ?_|refine Yeo ?_)
   refine Zad _ rfl rfl rfl rfl rfl hS (Zlo a c l _ (hW0 _ _ hS) hl hx64) ?_
   rintro _ w rfl hS
   rw [← hd]
   repeat (first|refine Yeg ?_|refine Yaf ?_|refine Yag ?_|refine Ybl ?_|refine Yey ?_|refine Yez ?_)
   exact ⟨rfl,hS⟩
 ·rw [hoff] at hon
  rw [show Zbr rd fs D j done d = (9,D,done) by unfold Zbr; rw [if_pos hoff]]
  refine Zab Tryz.func84 rfl Tryz.ntmps84 rfl ?_
  repeat (first|refine Yeg ?_|(refine X_id ?_;first|(refine Zaa 76 rfl rfl rfl rfl rfl (hon _ _ hS) ?_;rintro _ _ ⟨rfl,rfl⟩)|refine Yaf ?_|refine Yag ?_|refine Yav ?_|refine Yan ?_|refine Ybq ?_|refine Ybu ?_|refine Yap ?_)|refine Ye1 ?_|refine Ye2 ?_)
  exact ⟨rfl,hS⟩
end Cr
namespace Cr
open Go
set_option maxHeartbeats 64000000
theorem Znx {d : List (Int × List UInt8)} {i k : Nat} (hi : i < d.length) (hk : k < i) (h : (d.getD k (0,[])).1 = (d.getD i (0,[])).1) : ∀ n,i < n → Zbl d n = true
 | 0,h' => absurd h' (by omega)
 | n + 1,h' => by
  simp only [Zbl]
  rcases Nat.lt_or_ge i n with hlt | hge
  ·rw [Znx hi hk h n hlt]; rfl
  ·obtain rfl : n = i := by omega
   have hm : (d.getD n (0,[])).1 ∈ (d.take n).map (·.1) := by
    rw [← h,List.getD_eq_getElem?_getD,List.getElem?_eq_getElem (show k < d.length by omega)]
    exact List.mem_map.2 ⟨d[k],List.mem_iff_getElem.2 ⟨k,by simp; omega,by simp⟩,rfl⟩
   rw [decide_eq_true hm]; simp
end Cr
namespace Cr
open Go Go.Proofs
set_option maxHeartbeats 64000000
structure Quiet (D : DiskM) (n : Nat) : Prop where
 off : D.off = false
 armed : D.armed = false
 len : D.laid.length = n
structure Qs (x : Int × DiskM) (n : Nat) (laid : List (List UInt8)) (line : List (Int × List UInt8)) : Prop where
 e : x.1 = 0
 q : Quiet x.2 n
 laid : x.2.laid = laid
 line : x.2.line = line
theorem Qs.write {x : Int × DiskM} {n : Nat} {laid : List (List UInt8)} {line : List (Int × List UInt8)} (h : Qs x n laid line) {no : Int} {b : List UInt8} (h0 : 0 ≤ no) (h1 : no < n) (hb : b.length = 64) : Qs (Zd0 x no b) n laid (line ++ [(no,b)]) := by
 obtain ⟨e,⟨qo,qa,ql⟩,hl,hn⟩ := h
 have hu : useB x.2.off x.2.armed x.2.left = true := by rw [qo,qa]; rfl
 have hw := DiskM.write_yes (D := x.2) (no := no) (b := b) qo (by simp [Zdt,h0,ql,h1]) hb hu
 unfold Zd0
 rw [if_pos e,hw]
 refine ⟨rfl,⟨?_,qa,ql⟩,hl,by simp [hn]⟩
 show Zpi x.2.off x.2.armed x.2.left = false
 rw [qo,qa]; rfl
theorem Qs.flush {x : Int × DiskM} {n : Nat} {laid : List (List UInt8)} {line : List (Int × List UInt8)} (h : Qs x n laid line) : Qs (Zdu x) n (Zca laid line) [] := by
 obtain ⟨e,⟨qo,qa,ql⟩,hl,hn⟩ := h
 have hu : useB x.2.off x.2.armed x.2.left = true := by rw [qo,qa]; rfl
 have hw := DiskM.flush_yes (D := x.2) qo hu
 unfold Zdu
 rw [if_pos e,hw]
 refine ⟨rfl,⟨?_,qa,?_⟩,?_,rfl⟩
 ·show Zpi x.2.off x.2.armed x.2.left = false
  rw [qo,qa]; rfl
 ·show (Zca x.2.laid x.2.line).length = n
  rw [Zax]; exact ql
 ·show Zca x.2.laid x.2.line = _
  rw [hl,hn]
theorem Qs.puts (k : Int) {n : Nat} {laid : List (List UInt8)} : ∀ (l : List (Int × List UInt8)) {x : Int × DiskM} {line : List (Int × List UInt8)},Qs x n laid line → (∀ v ∈ l,0 ≤ k + v.1 ∧ k + v.1 < n ∧ v.2.length = 64) → Qs (Zg1 k x l) n laid (line ++ l.map fun v => (k + v.1,v.2))
 | [],_,_,h,_ => by simpa [Zg1] using h
 | v :: l,x,line,h,hl => by
  have hv := hl v (List.mem_cons_self ..)
  have := Qs.puts k l (h.write hv.1 hv.2.1 hv.2.2) fun u hu => hl u (List.mem_cons_of_mem _ hu)
  simpa [Zg1] using this
theorem Qs.notes (m : Int) (d : List UInt8) (l : List (Int × List UInt8)) {n : Nat} {laid : List (List UInt8)} {x : Int × DiskM} {line : List (Int × List UInt8)} (h : Qs x n laid line) (hl : ∀ v ∈ l,v.2.length = 64) (hn : 2 * l.length < n) :
  ∀ i,i ≤ l.length → ∃ L,(∀ v ∈ L,0 ≤ v.1 ∧ v.1 < 1 + 2 * (l.length : Int)) ∧ Qs (Zcl m d l x i) n laid (line ++ L)
 | 0,_ => ⟨[],by simp,by simpa [Zcl] using h⟩
 | i + 1,hi => by
  obtain ⟨L,hL,hq⟩ := Qs.notes m d l h hl hn i (by omega)
  have hv : (l.getD i (0,[])).2.length = 64 := by
   rw [List.getD_eq_getElem?_getD,List.getElem?_eq_getElem (by omega)]
   exact hl _ (List.getElem_mem _)
  have h1 := hq.write (no := 1 + 2 * (i : Nat)) (b := Zia m (i : Nat) (l.length : Nat) (l.getD i (0,[])).1 d) (by omega) (by omega) (Zgc ..)
  have h2 := h1.write (no := 1 + 2 * (i : Nat) + 1) (b := (l.getD i (0,[])).2) (by omega) (by omega) hv
  refine ⟨L ++ [(1 + 2 * ((i : Nat) : Int),Zia m (i : Nat) (l.length : Nat) (l.getD i (0,[])).1 d),(1 + 2 * ((i : Nat) : Int) + 1,(l.getD i (0,[])).2)],?_,by simpa [Zcl,Zh9,List.append_assoc] using h2⟩
  intro v hv
  rcases List.mem_append.1 hv with hv | hv
  ·exact hL v hv
  ·simp only [List.mem_cons,List.not_mem_nil,or_false] at hv
   rcases hv with rfl | rfl <;> (simp only; omega)
def Zcv (l : List (Int × List UInt8)) (m : Int) : Option (List UInt8) := (l.reverse.find? fun v => v.1 == m).map (·.2)
theorem Zei (v : Int × List UInt8) (l : List (Int × List UInt8)) (m : Int) : Zcv (v :: l) m = (Zcv l m).or (if v.1 = m then some v.2 else none) := by
 unfold Zcv
 rw [List.reverse_cons,List.find?_append]
 cases h : l.reverse.find? fun v => v.1 == m with
 | some x => simp
 | none => by_cases e : v.1 = m <;> simp [e]
theorem Zhi {l : List (Int × List UInt8)} {m : Int} (h : ∀ v ∈ l,v.1 ≠ m) : Zcv l m = none := by
 unfold Zcv
 rw [List.find?_eq_none.2 (fun v hv => by simpa using h v (List.mem_reverse.1 hv))]; rfl
theorem Zm4 (k m : Int) : ∀ l : List (Int × List UInt8),Zcv (l.map fun v => (k + v.1,v.2)) (k + m) = Zcv l m
 | [] => rfl
 | v :: l => by
  rw [List.map_cons,Zei,Zei,Zm4 k m l]
  congr 1
  by_cases e : v.1 = m
  ·rw [if_pos e,if_pos (by rw [e])]
  ·rw [if_neg e,if_neg (fun h => e (Int.add_left_cancel h))]
theorem Zr6 {l : List (Int × List UInt8)} {m : Int} {s : List UInt8} (h : Zcv l m = some s) : (m,s) ∈ l := by
 unfold Zcv at h
 obtain ⟨v,hv,rfl⟩ := Option.map_eq_some_iff.1 h
 have h1 := List.mem_of_find?_eq_some hv
 have h2 := List.find?_some hv
 simp only [beq_iff_eq] at h2
 subst h2
 exact List.mem_reverse.1 h1
theorem Zds : ∀ (xs : List (Int × List UInt8)) (l : List (List UInt8)) (k : Nat),k < l.length → (∀ v ∈ xs,0 ≤ v.1) → (Zca l xs).getD k [] = (Zcv xs k).getD (l.getD k [])
 | [],_,_,_,_ => rfl
 | v :: xs,l,k,hk,hx => by
  have hv := hx v (List.mem_cons_self ..)
  have ih := Zds xs (l.set v.1.toNat v.2) k (by simpa using hk) fun u hu => hx u (List.mem_cons_of_mem _ hu)
  have e : Zca l (v :: xs) = Zca (l.set v.1.toNat v.2) xs := rfl
  rw [e,ih,Zei]
  cases Zcv xs k with
  | some s => rfl
  | none =>
   simp only [Option.getD_none,Option.none_or]
   rw [List.getD_eq_getElem?_getD,List.getElem?_set]
   by_cases e2 : v.1.toNat = k
   ·rw [if_pos e2,if_pos (by omega),if_pos (by omega)]; rfl
   ·rw [if_neg e2,if_neg (by omega)]; simp [List.getD_eq_getElem?_getD]
theorem Zv3 {D : DiskM} (h : D.line = []) (no : Int) : D.find no = D.laid.getD no.toNat [] := by unfold DiskM.find; rw [h]; rfl
theorem Zr7 {l : List (Int × List UInt8)} (h : Zbl l l.length = false) {v : Int × List UInt8} (hv : v ∈ l) : Zcv l v.1 = some v.2 := by
 obtain ⟨i,hi,rfl⟩ := List.mem_iff_getElem.1 hv
 cases h1 : Zcv l l[i].1 with
 | none =>
  unfold Zcv at h1
  rw [Option.map_eq_none_iff,List.find?_eq_none] at h1
  have := h1 l[i] (List.mem_reverse.2 (List.getElem_mem _))
  simp at this
 | some s =>
  obtain ⟨k,hk,hk'⟩ := List.mem_iff_getElem.1 (Zr6 h1)
  have hg : ∀ {a : Nat} (ha : a < l.length),l.getD a (0,[]) = l[a] := fun ha => by simp [List.getD_eq_getElem?_getD,ha]
  rcases Nat.lt_trichotomy k i with hlt | rfl | hlt
  ·have := Znx (d := l) hi hlt (by rw [hg hk,hg hi,hk']) l.length hi
   rw [this] at h; cases h
  ·rw [hk']
  ·have := Znx (d := l) hk hlt (by rw [hg hk,hg hi,hk']) l.length hk
   rw [this] at h; cases h
structure Done (R : Int × DiskM × Int) (D : DiskM) (j n : Nat) (done : Int) (l : List (Int × List UInt8)) : Prop where
 e : R.1 = 0
 q : Quiet R.2.1 n
 line : R.2.1.line = []
 lo : done ≤ R.2.2
 hi : R.2.2 ≤ done + 1
 at_ : ∀ k,1 + j + k < n → R.2.1.laid.getD (1 + j + k) [] = (Zcv l (k : Nat)).getD (D.laid.getD (1 + j + k) [])
theorem Zsi (rd fs : List Int) {D : DiskM} {j n : Nat} {done : Int} {l : List (Int × List UInt8)} (hq : Quiet D n) (hline : D.line = []) (hc : Zcj l = 0) (hh : hasM ((n : Int) - 1 - j) l = true) (hm : (l.length : Int) ≤ (j : Int) / 2) (hd : done < last) :
  Done (Zbr rd fs D j done l) D j n done l := by
 have hgood : ∀ v ∈ l,0 ≤ v.1 ∧ v.1 < (n : Int) - 1 - j ∧ v.2.length = 64 := fun v hv => by
  have h1 := Zfj hc v hv
  have h2 := List.all_eq_true.1 hh v hv
  exact ⟨h1.1,of_decide_eq_true h2,h1.2⟩
 unfold Zbr
 rw [if_neg (by simp [hq.off]),if_neg (by simpa using hc),hq.len,if_neg (by simp [hh]),if_neg (by omega)]
 by_cases h0 : l = []
 ·rw [if_pos h0]
  subst h0
  exact ⟨rfl,hq,hline,Int.le_refl _,by simp only; omega,fun k hk => rfl⟩
 ·rw [if_neg h0]
  have hlen : 0 < l.length := List.length_pos_iff.2 h0
  obtain ⟨v0,hv0⟩ := List.exists_mem_of_ne_nil l h0
  have hv0 := hgood v0 hv0
  have hq0 : Qs (0,D) n D.laid [] := ⟨rfl,hq,rfl,hline⟩
  obtain ⟨L,hL,h1⟩ := hq0.notes (done + 1) (sumB rd fs (done + 1) l) l (fun v hv => (hgood v hv).2.2) (by omega) l.length (Nat.le_refl _)
  have h2 := Qs.puts (1 + j) l h1.flush (fun v hv => by have := hgood v hv; omega)
  have h3 := (h2.flush.write (no := 0) (b := Zff rd fs (done + 1)) (by omega) (by omega) (Zbx _)).flush
  have e : putM rd fs D j done l = Zdu (Zd0 (Zdu (Zg1 (1 + j) (Zdu (Zcl (done + 1) (sumB rd fs (done + 1) l) l (0,D) l.length)) l)) 0 (Zff rd fs (done + 1))) := rfl
  rw [← e] at h3
  refine ⟨h3.e,h3.q,h3.line,?_,?_,fun k hk => ?_⟩
  ·simp only [h3.e,if_true]; omega
  ·simp only [h3.e,if_true]; omega
  ·simp only
   rw [h3.laid]
   have l1 : D.laid.length = n := hq.len
   rw [Zds _ _ _ (by rw [Zax,Zax,l1]; exact hk) (fun v hv => by simp only [List.nil_append,List.mem_singleton] at hv; rw [hv]; exact Int.le_refl _),
    Zhi (l := [] ++ [(0,Zff rd fs (done + 1))]) (fun v hv => by simp only [List.nil_append,List.mem_singleton] at hv; rw [hv]; simp only; omega),Option.getD_none,
    Zds _ _ _ (by rw [Zax,l1]; exact hk) (fun v hv => by
     simp only [List.nil_append,List.mem_map] at hv
     obtain ⟨u,hu,rfl⟩ := hv
     have := hgood u hu
     simp only; omega),
    show ((1 + j + k : Nat) : Int) = (1 + (j : Int)) + (k : Nat) by omega,List.nil_append,Zm4]
   congr 1
   rw [Zds _ _ _ (by rw [l1]; exact hk) (fun v hv => (hL v (by simpa using hv)).1),Zhi (fun v hv => by have := hL v (by simpa using hv); omega)]
   rfl
end Cr
namespace Cr
open Go Go.Proofs
set_option maxRecDepth 10000
set_option maxHeartbeats 64000000

/-! ### maps as lists -/
section
variable {β γ : Type}
def getA (k : Int) : List (Int × β) → Option β
 | [] => none
 | x :: l => if k = x.1 then some x.2 else getA k l
def setA (k : Int) (v : β) : List (Int × β) → List (Int × β)
 | [] => [(k,v)]
 | x :: l => if k = x.1 then (k,v) :: l else x :: setA k v l
def delA (k : Int) : List (Int × β) → List (Int × β)
 | [] => []
 | x :: l => if k = x.1 then l else x :: delA k l
def Zaw (l : List (Int × β)) : List Int := l.map (·.1)
theorem getA_none {k : Int} : ∀ {l : List (Int × β)},getA k l = none ↔ k ∉ Zaw l
 | [] => by simp [getA,Zaw]
 | x :: l => by
  unfold getA
  by_cases h : k = x.1
  ·simp [h,Zaw]
  ·have := getA_none (k := k) (l := l)
   simp only [Zaw] at this
   simp [h,Zaw,this]
theorem Zkc {k : Int} {v : β} : ∀ {l : List (Int × β)},getA k l = some v → (k,v) ∈ l
 | x :: l,h => by
  unfold getA at h
  split at h
  ·rename_i e
   cases h
   rw [e]; exact List.mem_cons_self ..
  ·exact List.mem_cons_of_mem _ (Zkc h)
theorem Zel {k : Int} {v : β} : ∀ {l : List (Int × β)},(Zaw l).Nodup → (k,v) ∈ l → getA k l = some v
 | x :: l,hn,h => by
  have hn' : x.1 ∉ Zaw l ∧ (Zaw l).Nodup := List.nodup_cons.1 hn
  unfold getA
  rcases List.mem_cons.1 h with e | h
  ·rw [← e]; simp
  ·have : k ≠ x.1 := fun e => hn'.1 (by rw [← e]; exact List.mem_map.2 ⟨_,h,rfl⟩)
   rw [if_neg this]; exact Zel hn'.2 h
theorem Zek {k k' : Int} {v : β} : ∀ {l : List (Int × β)},getA k (setA k' v l) = if k = k' then some v else getA k l
 | [] => by simp [setA,getA]
 | x :: l => by
  unfold setA
  by_cases h : k' = x.1
  ·rw [if_pos h]
   by_cases h2 : k = k'
   ·simp [getA,h2]
   ·simp [getA,h2,← h]
  ·rw [if_neg h]
   by_cases h2 : k = k'
   ·have := Zek (k := k) (k' := k') (v := v) (l := l)
    subst h2
    simp only [getA,if_neg h]
    simpa using this
   ·simp [getA,h2,Zek (k := k) (k' := k') (v := v) (l := l)]
theorem Zgg {k k' : Int} : ∀ {l : List (Int × β)},(Zaw l).Nodup → getA k (delA k' l) = if k = k' then none else getA k l
 | [],_ => by simp [delA,getA]
 | x :: l,hn => by
  have hn' : x.1 ∉ Zaw l ∧ (Zaw l).Nodup := List.nodup_cons.1 hn
  unfold delA
  by_cases h : k' = x.1
  ·rw [if_pos h]
   by_cases h2 : k = k'
   ·rw [if_pos h2,getA_none,h2,h]; exact hn'.1
   ·simp [getA,h2,← h]
  ·rw [if_neg h]
   by_cases h2 : k = k'
   ·subst h2
    simp [getA,h,Zgg (k := k) (k' := k) hn'.2]
   ·simp [getA,h2,Zgg (k := k) (k' := k') hn'.2]
theorem Zi4 {k : Int} : ∀ {l : List (Int × β)},(Zaw (delA k l)).Sublist (Zaw l)
 | [] => by simp [delA,Zaw]
 | x :: l => by
  unfold delA
  split
  ·exact List.sublist_cons_self ..
  ·exact (Zi4 (k := k) (l := l)).cons_cons _
theorem delA_sub {k : Int} : ∀ {l : List (Int × β)},(delA k l).Sublist l
 | [] => by simp [delA]
 | x :: l => by
  unfold delA
  split
  ·exact List.sublist_cons_self ..
  ·exact (delA_sub (k := k) (l := l)).cons_cons _
theorem Zs9 {k : Int} {v : β} : ∀ {l : List (Int × β)},k ∉ Zaw l → setA k v l = l ++ [(k,v)]
 | [],_ => rfl
 | x :: l,h => by
  have h' : ¬ k = x.1 ∧ k ∉ Zaw l := by simpa [Zaw] using h
  simp [setA,h'.1,Zs9 h'.2]
theorem Zt8 {k : Int} (f : β → γ) : ∀ {l : List (Int × β)},getA k (l.map fun x => (x.1,f x.2)) = (getA k l).map f
 | [] => rfl
 | x :: l => by
  simp only [List.map_cons,getA]
  split
  ·rfl
  ·exact Zt8 f
theorem Zta {k : Int} {v : β} (f : β → γ) : ∀ {l : List (Int × β)},setA k (f v) (l.map fun x => (x.1,f x.2)) = (setA k v l).map fun x => (x.1,f x.2)
 | [] => rfl
 | x :: l => by
  simp only [List.map_cons,setA]
  split
  ·rfl
  ·simp [Zta f]
theorem Zug {k : Int} (f : β → γ) : ∀ {l : List (Int × β)},delA k (l.map fun x => (x.1,f x.2)) = (delA k l).map fun x => (x.1,f x.2)
 | [] => rfl
 | x :: l => by
  simp only [List.map_cons,delA]
  split
  ·rfl
  ·simp [Zug f]
end

/-! ### nodes -/
structure StatM where
 kind : Int
 mode : Int
 owner : Int
 group : Int
 deriving DecidableEq
def StatM.check (s : StatM) : Int := if ¬ (0 ≤ s.kind ∧ s.kind < 5) then 17 else if ¬ (0 ≤ s.mode ∧ s.mode < 4096) then 11 else if ¬ (0 ≤ s.owner ∧ s.owner < 65536) ∨ ¬ (0 ≤ s.group ∧ s.group < 65536) then 1 else 0
theorem StatM.check_ok {s : StatM} (h : s.check = 0) : (0 ≤ s.kind ∧ s.kind < 5) ∧ (0 ≤ s.mode ∧ s.mode < 4096) ∧ (0 ≤ s.owner ∧ s.owner < 65536) ∧ (0 ≤ s.group ∧ s.group < 65536) := by
 unfold StatM.check at h
 split at h
 ·cases h
 ·split at h
  ·cases h
  ·split at h
   ·cases h
   ·omega
def StatM.num (s : StatM) : Int := if s.check = 0 then ((s.kind * 4096 + s.mode) * 65536 + s.owner) * 65536 + s.group else 0
def nblk (n : Nat) : Nat := (n + 63) / 64
structure Nd where
 st : StatM
 data : List UInt8
 deriving DecidableEq
structure Sto where
 nd : Nd
 blocks : List Int
def Zg8 (d : List UInt8) (i : Nat) : List UInt8 := Zdb ((d.drop (64 * i)).take 64)
def Zrp (s : Sto) : List UInt8 := [1] ++ bigB s.nd.st.num 8 ++ bigB (s.nd.data.length : Nat) 4 ++ s.blocks.flatMap fun b => bigB b 4
def stoB (s : Sto) : List UInt8 := Zdb (Zrp s)
def Zeo : List UInt8 := [67,82,69,69,76]
def Zcq (rd fs : List Int) (n : Nat) : List UInt8 := Zdb (Zeo ++ bigB (n : Nat) 4 ++ digest rd fs [Zeo,bigB (n : Nat) 4])
abbrev Ents := List (Int × Sto)
def Za0 (A : Ents) : List Int := A.flatMap fun x => x.2.blocks
structure Sto.ok (s : Sto) (nb : Nat) : Prop where
 st : s.nd.st.check = 0
 len : s.nd.data.length ≤ 512
 cnt : s.blocks.length = nblk s.nd.data.length
 low : ∀ b ∈ s.blocks,0 ≤ b ∧ b < nb
structure Enc (rd fs : List Int) (dat : List (List UInt8)) (n nb : Nat) (A : Ents) : Prop where
 len : dat.length = 1 + n + nb
 front : dat.getD 0 [] = Zcq rd fs n
 keys : ∀ k ∈ Zaw A,0 ≤ k ∧ k < n
 nodup : (Zaw A).Nodup
 node : ∀ i,i < n → dat.getD (1 + i) [] = match getA (i : Nat) A with | some s => stoB s | none => zero64
 ok : ∀ x ∈ A,x.2.ok nb
 at_ : ∀ x ∈ A,∀ k b,x.2.blocks[k]? = some b → dat.getD (1 + n + b.toNat) [] = Zg8 x.2.nd.data k
 apart : (Za0 A).Nodup
abbrev Tb := List (Option Nd)
def tabOf (A : Ents) (n : Nat) : Tb := (List.range n).map fun i => (getA (i : Nat) A).map (·.nd)
theorem Zb6 (A : Ents) (n : Nat) : (tabOf A n).length = n := by simp [tabOf]
theorem Zf6 (A : Ents) {n i : Nat} (h : i < n) : (tabOf A n)[i]? = some ((getA (i : Nat) A).map (·.nd)) := by simp [tabOf,h]
def Zxf (T : Tb) (nb : Nat) : Int := T.foldl (fun r x => match x with | some x => r - (nblk x.data.length : Nat) | none => r) (nb : Int)

/-! ### changes -/
structure Chg where
 no : Int
 nd : Nd
 drop : Bool
def badC : List Chg → Int
 | [] => 0
 | c :: l => if c.drop then badC l else if ¬ c.nd.st.check = 0 then c.nd.st.check else if 512 < c.nd.data.length then 2 else badC l
def Zmi (l : List Chg) : Bool := Zbl (l.map fun c => (c.no,[])) l.length
def Zfk (l : List Chg) (n : Nat) : Int := if l.any (fun c => decide (c.no < 0) || decide ((n : Int) ≤ c.no)) then 1 else if Zmi l then 8 else badC l
def Zhe (x : Tb × Nat × Bool) (nb : Nat) (c : Chg) : Tb × Nat × Bool :=
 if x.2.2 then x else if c.drop then (x.1,x.2.1 + 1,false) else
 if Zxf x.1 nb < (nblk c.nd.data.length : Nat) then (x.1,x.2.1,true) else (x.1.set c.no.toNat (some c.nd),x.2.1 + 1 + nblk c.nd.data.length,false)
def Zj0 (T : Tb) (l : List Chg) : Tb := l.foldl (fun T c => T.set c.no.toNat none) T
def runT (T : Tb) (nb : Nat) (l : List Chg) : Tb × Nat × Bool := l.foldl (fun x c => Zhe x nb c) (Zj0 T l,0,false)
def putT (T : Tb) (nb most : Nat) (l : List Chg) : Int × Tb :=
 if (runT T nb l).2.2 then (6,T) else if most < (runT T nb l).2.1 then (6,T) else (0,(runT T nb l).1)
def Zjw (T : Tb) (nb most : Nat) (l : List Chg) : Int × Tb := if ¬ Zfk l T.length = 0 then (Zfk l T.length,T) else putT T nb most l
def Zey (A : Ents) (l : List Chg) : Ents := l.foldl (fun A c => delA c.no A) A
def Zhj (A : Ents) (nb : Nat) : List Int := ((List.range nb).map fun k => ((k : Nat) : Int)).filter fun b => decide (b ∉ Za0 A)
structure ApS where
 A : Ents
 free : List Int
 w : List (Int × List UInt8)
def Zcp (n : Nat) (bs : List Int) (d : List UInt8) : List (Int × List UInt8) := (List.range bs.length).map fun i => (1 + (n : Int) + bs.getD i 0,Zg8 d i)
def ApS.step (n : Nat) (z : ApS) (c : Chg) : Option ApS :=
 if c.drop then some { z with w := z.w ++ [(1 + c.no,zero64)] } else
 if z.free.length < nblk c.nd.data.length then none else
 some ⟨setA c.no ⟨c.nd,z.free.take (nblk c.nd.data.length)⟩ z.A,z.free.drop (nblk c.nd.data.length),z.w ++ (Zcp n (z.free.take (nblk c.nd.data.length)) c.nd.data ++ [(1 + c.no,stoB ⟨c.nd,z.free.take (nblk c.nd.data.length)⟩)])⟩
def ApS.run (n : Nat) (z : ApS) : List Chg → Option ApS
 | [] => some z
 | c :: l => (z.step n c).bind fun z => z.run n l
def ApS.start (A : Ents) (nb : Nat) (l : List Chg) : ApS := ⟨Zey A l,Zhj (Zey A l) nb,[]⟩
end Cr
namespace Cr
open Go Go.Proofs
set_option maxRecDepth 100000
set_option maxHeartbeats 64000000
attribute [local irreducible] Calls

theorem Z26 (n k : Int) (W : World) : Calls Tryz.prog 205 #[.int .i64 n,.int .i64 k] W (Ret fun v w => v = .bool (decide (0 ≤ n ∧ n < k)) ∧ W = w) := by
 by_cases h : 0 ≤ n
 ·by_cases h2 : n < k
  ·refine Zab Tryz.func205 rfl Tryz.ntmps205 rfl ?_
   repeat (first|refine Yex ?_|(refine X_id ?_;first|refine Yaf ?_|refine Yag ?_|refine Ybe ?_|refine Ya1 ?_|refine Yb2 ?_)|refine Yeu ?_|refine Yei ?_)
   exact ⟨by simp [h,h2],rfl⟩
  ·refine Zab Tryz.func205 rfl Tryz.ntmps205 rfl ?_
   repeat (first|refine Yex ?_|(refine X_id ?_;first|refine Yaf ?_|refine Yag ?_|refine Ybe ?_|refine Yaz ?_|refine Yb2 ?_)|refine Yeu ?_|refine Yei ?_)
   exact ⟨by simp [h,h2],rfl⟩
 ·refine Zab Tryz.func205 rfl Tryz.ntmps205 rfl ?_
  repeat (first|refine Ye0 ?_|refine Yaf ?_|refine Yag ?_|refine Ya9 ?_|refine Yb4 ?_|refine Yeu ?_|refine Yei ?_)
  exact ⟨by simp [h],rfl⟩
theorem Ze8 {n k : Int} (h : 0 ≤ n ∧ n < k) (W : World) : Calls Tryz.prog 205 #[.int .i64 n,.int .i64 k] W (Ret fun v w => v = .bool true ∧ W = w) := by
 have := Z26 n k W
 rwa [decide_eq_true h] at this
theorem Zov {n k : Int} (h : ¬ (0 ≤ n ∧ n < k)) (W : World) : Calls Tryz.prog 205 #[.int .i64 n,.int .i64 k] W (Ret fun v w => v = .bool false ∧ W = w) := by
 have := Z26 n k W
 rwa [decide_eq_false h] at this
abbrev StatM.cells (s : StatM) : List Value := [.int .i64 s.kind,.int .i64 s.mode,.int .i64 s.owner,.int .i64 s.group]
abbrev StatM.val (s : StatM) : Value := .agg (StatM.cells s).toArray
theorem Zr5 (s : StatM) (W : World) : Calls Tryz.prog 155 #[s.val] W (Ret fun v w => v = .int .i64 s.check ∧ St W noF [] w) := by
 have hS := St.start W
 by_cases h1 : 0 ≤ s.kind ∧ s.kind < 5
 ·by_cases h2 : 0 ≤ s.mode ∧ s.mode < 4096
  ·by_cases h3 : 0 ≤ s.owner ∧ s.owner < 65536
   ·by_cases h4 : 0 ≤ s.group ∧ s.group < 65536
    ·refine Zab Tryz.func155 rfl Tryz.ntmps155 rfl ?_
     repeat (first|refine Yex ?_|(refine X_id ?_;first|(refine Zaa 205 rfl rfl rfl rfl rfl (Ze8 h1 _) ?_;rintro _ _ ⟨rfl,rfl⟩)|(refine Zaa 205 rfl rfl rfl rfl rfl (Ze8 h2 _) ?_;rintro _ _ ⟨rfl,rfl⟩)|(refine Zaa 205 rfl rfl rfl rfl rfl (Ze8 h3 _) ?_;rintro _ _ ⟨rfl,rfl⟩)|(refine Zaa 205 rfl rfl rfl rfl rfl (Ze8 h4 _) ?_;rintro _ _ ⟨rfl,rfl⟩)|refine Yaf ?_|refine Yag ?_|refine Yan ?_|refine Ya9 ?_|refine Ybc ?_|refine Yap ?_|refine Ya7 (fun _ _ hS _ => ?_))|refine Ye7 ?_|refine Yab ?_|refine Yat ?_|refine Yam ?_)
     exact ⟨by simp [StatM.check,h1,h2,h3,h4],hS.drops⟩
    ·refine Zab Tryz.func155 rfl Tryz.ntmps155 rfl ?_
     repeat (first|refine Yex ?_|(refine X_id ?_;first|(refine Zaa 205 rfl rfl rfl rfl rfl (Ze8 h1 _) ?_;rintro _ _ ⟨rfl,rfl⟩)|(refine Zaa 205 rfl rfl rfl rfl rfl (Ze8 h2 _) ?_;rintro _ _ ⟨rfl,rfl⟩)|(refine Zaa 205 rfl rfl rfl rfl rfl (Ze8 h3 _) ?_;rintro _ _ ⟨rfl,rfl⟩)|(refine Zaa 205 rfl rfl rfl rfl rfl (Zov h4 _) ?_;rintro _ _ ⟨rfl,rfl⟩)|refine Yaf ?_|refine Yag ?_|refine Yan ?_|refine Ya9 ?_|refine Ybc ?_|refine Ybq ?_|refine Yap ?_|refine Ya7 (fun _ _ hS _ => ?_))|refine Ye1 ?_|refine Ye2 ?_)
     exact ⟨by simp [StatM.check,h1,h2,h3,h4],hS.drops⟩
   ·refine Zab Tryz.func155 rfl Tryz.ntmps155 rfl ?_
    repeat (first|refine Ye0 ?_|(refine X_id ?_;first|(refine Zaa 205 rfl rfl rfl rfl rfl (Ze8 h1 _) ?_;rintro _ _ ⟨rfl,rfl⟩)|(refine Zaa 205 rfl rfl rfl rfl rfl (Ze8 h2 _) ?_;rintro _ _ ⟨rfl,rfl⟩)|(refine Zaa 205 rfl rfl rfl rfl rfl (Zov h3 _) ?_;rintro _ _ ⟨rfl,rfl⟩)|refine Yaf ?_|refine Yag ?_|refine Yan ?_|refine Ybe ?_|refine Ybc ?_|refine Ybq ?_|refine Yap ?_|refine Ya7 (fun _ _ hS _ => ?_))|refine Ye1 ?_|refine Ye2 ?_)
    exact ⟨by simp [StatM.check,h1,h2,h3],hS.drops⟩
  ·refine Zab Tryz.func155 rfl Tryz.ntmps155 rfl ?_
   repeat (first|refine Yeg ?_|(refine X_id ?_;first|(refine Zaa 205 rfl rfl rfl rfl rfl (Ze8 h1 _) ?_;rintro _ _ ⟨rfl,rfl⟩)|(refine Zaa 205 rfl rfl rfl rfl rfl (Zov h2 _) ?_;rintro _ _ ⟨rfl,rfl⟩)|refine Yag ?_|refine Yan ?_|refine Ybc ?_|refine Ybq ?_|refine Yap ?_|refine Ya7 (fun _ _ hS _ => ?_))|refine Ye1 ?_|refine Ye2 ?_)
   exact ⟨by simp [StatM.check,h1,h2],hS.drops⟩
 ·refine Zab Tryz.func155 rfl Tryz.ntmps155 rfl ?_
  repeat (first|refine Yeg ?_|(refine X_id ?_;first|(refine Zaa 205 rfl rfl rfl rfl rfl (Zov h1 _) ?_;rintro _ _ ⟨rfl,rfl⟩)|refine Yag ?_|refine Yan ?_|refine Ybq ?_|refine Yap ?_|refine Ya7 (fun _ _ hS _ => ?_))|refine Ye4 ?_|refine Ye2 ?_)
  exact ⟨by simp [StatM.check,h1],hS.drops⟩
theorem Zto (s : StatM) (W : World) : Calls Tryz.prog 202 #[s.val] W (Ret fun v w => v = .int .i64 s.num ∧ St W noF [] w) := by
 have hc := Zr5 s
 have hS := St.start W
 by_cases h : s.check = 0
 ·have h4 := StatM.check_ok h
  rw [h] at hc
  refine Zab Tryz.func202 rfl Tryz.ntmps202 rfl ?_
  repeat (first|refine Yeg ?_|(refine X_id ?_;first|(refine Zad 155 rfl rfl rfl rfl rfl hS (hc _) ?_;rintro _ _ rfl hS)|refine Yag ?_|refine Yan ?_|refine Ybb ?_|refine Yay ?_|refine Yb8 ?_|refine Yap ?_|refine Ybf ?_|refine Ya7 (fun _ _ hS _ => ?_))|refine Ye6 ?_|refine Yei ?_)
  exact ⟨by simp [StatM.num,h],hS.drops⟩
 ·refine Zab Tryz.func202 rfl Tryz.ntmps202 rfl ?_
  repeat (first|refine Yeg ?_|(refine X_id ?_;first|(refine Zad 155 rfl rfl rfl rfl rfl hS (hc _) ?_;rintro _ _ rfl hS)|refine Yag ?_|refine Ybl ?_|refine Ybf ?_|refine Ya7 (fun _ _ hS _ => ?_))|refine Yey ?_|refine Yez ?_)
  exact ⟨by simp [StatM.num,h],hS.drops⟩
theorem Zma {n : Int} {c k : Nat} (h : k < c) : (bigB n c).take (k + 1) = (bigB n c).take k ++ [Z15 n c k] := by
 rw [List.take_add_one]
 congr 1
 have hl : k < (bigB n c).length := by rw [Zah]; exact h
 have := Zqy n c k h c (Nat.le_refl _)
 rw [if_pos h] at this
 have e : (bigB n c)[k] = (bigB n c).getD k 0 := by rw [List.getD_eq_getElem?_getD,List.getElem?_eq_getElem hl]; rfl
 rw [List.getElem?_eq_getElem hl,e]
 unfold bigB
 rw [this]; rfl
theorem Zoh (n : Int) (c : Nat) (hc : c ≤ 64) (W : World) :
  Calls Tryz.prog 140 #[.int .i64 n,.int .i64 (c : Nat)] W (Ret fun v w => ∃ a k,v = .slice a c k ∧ c ≤ k ∧ St W noF [own 5 1 a k (bv (bigB n c))] w) := by
 have hS := St.start W
 refine Zab Tryz.func140 rfl Tryz.ntmps140 rfl ?_
 repeat (first|refine Yeg ?_|refine Yaf ?_|refine Yag ?_|refine Ybw ?_|refine Yej ?_|refine Yab ?_)
 refine Zaj (α := Nat × Option Addr × Nat) (fun z => [(0,.int .i64 n),(1,.int .i64 (c : Nat)),(5,.slice z.2.1 z.1 z.2.2),(6,.int .i64 ((c : Int) - 1 - (z.1 : Nat)))])
  (fun z w => z.1 ≤ c ∧ z.1 ≤ z.2.2 ∧ St W noF [own 5 1 z.2.1 z.2.2 (bv ((bigB n c).take z.1))] w) (fun z => c - z.1) (0,none,0) ⟨rfl,rfl,rfl,by simp [look],trivial⟩ ⟨Nat.zero_le _,Nat.le_refl _,hS.own_none _ _ _⟩ ?_
 clear hS
 rintro ⟨i,a,k⟩ w ⟨hi,hk,hS⟩
 simp only at hi hk hS ⊢
 have htl : ((bigB n c).take i).length = i := by rw [List.length_take,Zah]; omega
 by_cases hlt : i < c
 ·have e8 : (8 * ((c : Int) - 1 - (i : Nat))).toNat = 8 * (c - 1 - i) := by omega
  repeat (first|refine Yeg ?_|(refine X_id ?_;first|refine Yaf ?_|refine Yb2 ?_|refine Yb8 ?_|refine Ycp ?_|refine Ydc ?_|refine Ycj ?_|refine Ybd (fun _ _ hS _ => ?_))|refine Yek ?_|refine Yab ?_)
  rw [e8]
  repeat (first|fail)
  refine Zap (n := i) (m := 1) rfl rfl rfl rfl rfl hS (by simp [htl]) hk ((hS.rd (List.mem_cons_self ..)).own_row) (by simp) (by simp [Value.oneCell']) (by omega) (by simp only [maxLen]; omega) (fun a' c' w hS hc' _ => ?_)
  repeat (first|refine Yeg ?_|refine Yaf ?_|refine Yag ?_|refine Ybw ?_|refine Yad ?_|refine Yeo ?_)
  have e1 : (c : Int) - 1 - ((i + 1 : Nat) : Int) = (c : Int) - 1 - (i : Nat) - 1 := by omega
  refine Zaf (z := (i,a,k)) (i + 1,a',c') ⟨rfl,rfl,rfl,by simp only; rw [e1]; rfl,trivial⟩ ⟨by simp only; omega,hc',?_⟩ (by simp only; omega)
  rw [e8] at hS
  show St W noF [own 5 1 a' c' (bv ((bigB n c).take (i + 1)))] w
  rw [Zma hlt,Zcc]
  have h := hS.pick [0]
  exact h
 ·obtain rfl : i = c := by omega
  rw [List.take_of_length_le (by rw [Zah]; omega)] at hS
  repeat (first|refine Yeg ?_|refine Yaf ?_|refine Yag ?_|refine Yb4 ?_|refine Yep ?_|refine Yfc ?_)
  exact ⟨a,k,rfl,hk,hS⟩
theorem Zrs (s : List UInt8) : Zai (bv (List.replicate 64 0)) 0 ((bv s).take 64) = bv (Zdb s) := by
 unfold Zai Zdb
 rw [List.take_append,Zcc,Zlt]
 simp only [List.take_zero,List.nil_append,Nat.zero_add]
 congr 1
 rw [List.length_take,Zag,← Zf2,List.take_replicate,List.drop_replicate,Zf2]
 congr 2
 omega
theorem Zon (a : Option Addr) (c : Nat) (s : List UInt8) (W : World) (hs : Rd W (bytes a s)) :
  Calls Tryz.prog 83 #[.slice a s.length c] W (Ret fun v w => ∃ p,v = .slice (some ⟨p,0,none⟩) 64 64 ∧ St W noF [bytes (some ⟨p,0,none⟩) (Zdb s)] w) := by
 have hS := St.start W
 have hso := hs.ro
 refine Zab Tryz.func83 rfl Tryz.ntmps83 rfl ?_
 repeat (first|refine Yeg ?_|refine Yag ?_|refine Yeh ?_|refine Yab ?_)
 refine Zo3 (c := 64) rfl rfl rfl (by omega) (by omega) rfl rfl hS (fun p w hS => ?_)
 repeat (first|refine Yeg ?_|refine Yev ?_|refine Yeh ?_|refine Yab ?_)
 refine Zrh rfl rfl rfl rfl rfl hS (hso.rd hS) (by simp) Zc6 (by simp) (fun w hS => ?_)
 rw [Zrs] at hS
 repeat (first|refine Yeg ?_|refine Yev ?_|refine Yeu ?_|refine Yei ?_)
 exact ⟨p,rfl,hS.head Zk4⟩
theorem Zt6 (n : Nat) (W : World) (hn : n ≤ 1099511627776) : Calls Tryz.prog 146 #[.int .i64 (n : Nat)] W (Ret fun v w => v = .int .i64 (nblk n : Nat) ∧ W = w) := by
 by_cases h0 : n = 0
 ·subst h0
  refine Zab Tryz.func146 rfl Tryz.ntmps146 rfl ?_
  repeat (first|refine Yeg ?_|refine Yaf ?_|refine Yag ?_|refine Ya1 ?_|refine Yey ?_|refine Yez ?_)
  exact ⟨rfl,rfl⟩
 ·have e : ((nblk n : Nat) : Int) = ((n : Int) - 1) / 64 + 1 := by unfold nblk; omega
  rw [e]
  refine Zab Tryz.func146 rfl Tryz.ntmps146 rfl ?_
  repeat (first|refine Yeg ?_|(refine X_id ?_;first|refine Yaf ?_|refine Yag ?_|refine Yaz ?_|refine Yay ?_|refine Ybw ?_|refine Ydf ?_)|refine Ye6 ?_|refine Yei ?_)
  exact ⟨rfl,rfl⟩
theorem Qbf (n : Nat) (W : World) (hn : n ≤ 1099511627776) :
  Calls Tryz.prog 197 #[.slice none 0 0,.int .i64 (n : Nat)] W (Ret fun v w => ∃ a c,v = .slice a 0 c ∧ St W noF [own 5 1 a c []] w) := by
 have hS := (St.start W).own_none 5 1 none
 by_cases h0 : n = 0
 ·subst h0
  refine Zab Tryz.func197 rfl Tryz.ntmps197 rfl ?_
  repeat (first|refine Yeg ?_|(refine X_id ?_;first|refine Yaf ?_|refine Yag ?_|refine Yau ?_|refine Ydt ?_|refine Yaz ?_|refine Ybs ?_|refine Ybw ?_)|refine Ye6 ?_|refine Yei ?_)
  exact ⟨none,0,rfl,hS⟩
 ·refine Zab Tryz.func197 rfl Tryz.ntmps197 rfl ?_
  repeat (first|refine Yeg ?_|(refine X_id ?_;first|refine Yaf ?_|refine Yag ?_|refine Yau ?_|refine Ydt ?_|refine Yaz ?_|refine Ybz ?_|refine Ybw ?_)|refine Yfd ?_|refine Yab ?_)
  refine X_yl (Zas (l := 0) (h := 0) rfl rfl rfl rfl (.inr ⟨_,_,rfl,by omega,by omega,by omega⟩) (.inl ⟨rfl,rfl⟩)) rfl rfl ?_
  rw [sub_zero]
  repeat (first|refine Yaa ?_|refine Yaf ?_)
  have e0 : ((n : Int) - (((0 : Nat) : Int) - ((0 : Nat) : Int))) = (n : Nat) := by omega
  refine Zzr (m := n) (n := 0) rfl rfl (by first | rfl | (rw [e0]; rfl) | (simp only [e0]; rfl)) rfl rfl rfl rfl hS rfl (by omega) (by omega) (by simp only [maxLen]; omega) (fun a c w hS hc _ => ?_)
  repeat (first|refine Yaa ?_|refine Yaf ?_|refine Yau ?_)
  refine X_yl (Zas (l := 0) (h := 0) rfl rfl rfl rfl (.inr ⟨_,_,rfl,by omega,by omega,by omega⟩) (.inl ⟨rfl,rfl⟩)) rfl rfl ?_
  rw [sub_zero]
  repeat (first|refine Yeg ?_|refine Yev ?_|refine Yeu ?_|refine Yei ?_)
  exact ⟨a,c,rfl,hS.head (own.shrink 0)⟩
theorem Zlm (a : Option Addr) (c : Nat) (l : List Bs) (W : World) (hB : Bss W noF a l) (hl : l.length ≤ 1099511627776) (hn : (Zal l).length ≤ 1099511627776) :
  Calls Tryz.prog 141 #[.slice a l.length c] W (Ret fun v w => ∃ a' c',v = .slice a' (Zal l).length c' ∧ (Zal l).length ≤ c' ∧ St W noF [own 5 1 a' c' (bv (Zal l))] w) := by
 have hS := St.start W
 have hBr := hB.row
 refine Zab Tryz.func141 rfl Tryz.ntmps141 rfl ?_
 repeat (first|refine Yeg ?_|refine Yfh ?_|refine Yej ?_|refine Yab ?_)
 refine Zbk (α := Unit) (fun _ => [(0,.slice a l.length c),(3,.int .i64 ((Zal l).length : Nat))]) (fun _ w => St W noF [] w) ?_ ?_
 ·refine Zaj (α := Nat) (fun i => [(0,.slice a l.length c),(3,.int .i64 ((Zal (l.take i)).length : Nat)),(9,.slice a l.length c),(10,.int .i64 (l.length : Nat)),(11,.int .i64 (i : Nat))])
   (fun i w => i ≤ l.length ∧ St W noF [] w) (fun i => l.length - i) 0 ⟨rfl,rfl,rfl,rfl,rfl,trivial⟩ ⟨Nat.zero_le _,hS⟩ ?_
  clear hS
  rintro i w ⟨hi,hS⟩
  have hle := Zbp l i
  by_cases hlt : i < l.length
  ·have hx0 : l[i]? = some l[i] := List.getElem?_eq_getElem hlt
   generalize l[i] = x at hx0
   have hj := Zda hx0
   have hle2 := Zbp l (i + 1)
   have hjl : (Zal (l.take (i + 1))).length = (Zal (l.take i)).length + x.s.length := by rw [hj]; simp
   have hr := hBr
   have hx : (l.map Bs.val)[i]? = some (.slice x.a x.s.length x.c) := by simp [hx0,Bs.val]
   obtain ⟨xb,xo,rfl⟩ := (hr.rd hS).base (by intro e; rw [e] at hx; simp at hx)
   repeat (first|refine Yeg ?_|(refine X_id ?_;first|refine Yaf ?_|refine Yag ?_|refine Yau ?_|refine Ya1 ?_|refine Yaz ?_|refine Yba ?_|refine Yay ?_|refine Yb1 ?_)|refine Yen ?_|refine Yeo ?_)
   refine Zaf (i + 1) ⟨rfl,?_,rfl,rfl,rfl,trivial⟩ ⟨by omega,hS⟩ (by omega)
   rw [hjl]; rfl
  ·obtain rfl : i = l.length := by omega
   rw [List.take_length]
   repeat (first|refine Yeg ?_|refine Yaz ?_|refine Yet ?_|refine Yem ?_)
   exact Zbj () ⟨rfl,rfl,trivial⟩ hS
 ·clear hS
  rintro _ w hS
  repeat (first|refine Yaa ?_|refine Yaf ?_|refine Yeh ?_)
  refine Zaa _ rfl rfl rfl rfl rfl (Qbf (Zal l).length _ hn) ?_
  rintro _ w ⟨a1,c1,rfl,hS'⟩
  replace hS := hS.plus hS'
  clear hS'
  repeat (first|refine Yeg ?_|refine Yfh ?_|refine Yej ?_|refine Yab ?_)
  refine Zaj (α := Nat × Option Addr × Nat) (fun z => [(6,.slice z.2.1 (Zal (l.take z.1)).length z.2.2),(25,.slice a l.length c),(26,.int .i64 (l.length : Nat)),(27,.int .i64 (z.1 : Nat))])
   (fun z w => z.1 ≤ l.length ∧ (Zal (l.take z.1)).length ≤ z.2.2 ∧ St W noF [own 5 1 z.2.1 z.2.2 (bv (Zal (l.take z.1)))] w) (fun z => l.length - z.1) (0,a1,c1) ⟨rfl,rfl,rfl,rfl,trivial⟩ ⟨Nat.zero_le _,by simp [Zal],hS⟩ ?_
  clear hS
  rintro ⟨i,a2,c2⟩ w ⟨hi,hc,hS⟩
  simp only at hi hc hS ⊢
  have hle := Zbp l i
  by_cases hlt : i < l.length
  ·have hx0 : l[i]? = some l[i] := List.getElem?_eq_getElem hlt
   have hxm := List.getElem_mem hlt
   generalize l[i] = x at hx0 hxm
   have hj := Zda hx0
   have hle2 := Zbp l (i + 1)
   have hjl : (Zal (l.take (i + 1))).length = (Zal (l.take i)).length + x.s.length := by rw [hj]; simp
   have hr := hBr
   have hx : (l.map Bs.val)[i]? = some (.slice x.a x.s.length x.c) := by simp [hx0,Bs.val]
   obtain ⟨xb,xo,rfl⟩ := (hr.rd hS).base (by intro e; rw [e] at hx; simp at hx)
   have hbx := hB.all x hxm
   repeat (first|refine Yeg ?_|refine Yff ?_|refine Yek ?_|refine Yab ?_)
   refine Zap rfl rfl rfl rfl rfl hS (by simp) hc (hbx.rd hS) (by simp) Zc6 (by omega) (by simp only [maxLen]; omega) (fun a' c' w hS hc' _ => ?_)
   repeat (first|refine Yeg ?_|refine Yew ?_|refine Yad ?_|refine Yeo ?_)
   refine Zaf (z := (i,a2,c2)) (i + 1,a',c') ⟨?_,rfl,rfl,rfl,trivial⟩ ⟨by simp only; omega,by simp only; omega,?_⟩ (by simp only; omega)
   ·simp only
    rw [hjl]; rfl
   ·simp only
    rw [hj,Zcc]
    exact hS
  ·obtain rfl : i = l.length := by omega
   rw [List.take_length] at hS hc ⊢
   repeat (first|refine Yeg ?_|refine Yfb ?_|refine Yep ?_|refine Yfc ?_)
   exact ⟨a2,c2,rfl,hc,hS⟩
end Cr
namespace Cr
open Go Go.Proofs
set_option maxRecDepth 10000
set_option maxHeartbeats 64000000

theorem Zeb (l : List (Int × List UInt8)) : ∀ i,i ≤ l.length → (Zbl l i = false ↔ ((l.take i).map (·.1)).Nodup)
 | 0,_ => by simp [Zbl]
 | i + 1,h => by
  have ih := Zeb l i (by omega)
  have e : (l.take (i + 1)).map (·.1) = (l.take i).map (·.1) ++ [(l.getD i (0,[])).1] := by
   rw [List.take_succ_eq_append_getElem (show i < l.length by omega),List.map_append,List.getD_eq_getElem?_getD,List.getElem?_eq_getElem (show i < l.length by omega)]
   rfl
  rw [e,Zbl,Bool.or_eq_false_iff,ih,List.nodup_append]
  simp only [decide_eq_false_iff_not]
  constructor
  ·rintro ⟨h1,h2⟩
   refine ⟨h1,by simp,fun a ha b hb => ?_⟩
   rw [List.mem_singleton] at hb
   rw [hb]
   exact fun e => h2 (e ▸ ha)
  ·rintro ⟨h1,_,h2⟩
   exact ⟨h1,fun hm => h2 _ hm _ (List.mem_singleton.2 rfl) rfl⟩
theorem Zpk {l : List (Int × List UInt8)} (h : (l.map (·.1)).Nodup) : Zbl l l.length = false := (Zeb l _ (Nat.le_refl _)).2 (by simpa using h)
theorem Zpl {l : List Chg} (h : Zmi l = false) : (l.map (·.no)).Nodup := by
 unfold Zmi at h
 have e : l.length = (l.map fun c => (c.no,([] : List UInt8))).length := by simp
 rw [e] at h
 have := (Zeb _ _ (Nat.le_refl _)).1 h
 rw [List.take_length] at this
 simpa [Function.comp_def] using this
theorem Zjs {l : List (Int × List UInt8)} (h : (l.map (·.1)).Nodup) {m : Int} {s : List UInt8} (hv : (m,s) ∈ l) : Zcv l m = some s := Zr7 (Zpk h) hv

/-! ### counting -/
theorem Zw5 (g : Nat → Nat) (a k : Nat) (hg : g k = 0) : ∀ n,((List.range n).map fun i => if i = k then a else g i).sum = (if k < n then a else 0) + ((List.range n).map g).sum
 | 0 => by simp
 | n + 1 => by
  rw [List.range_succ,List.map_append,List.sum_append,Zw5 g a k hg n,List.map_append,List.sum_append]
  simp only [List.map_cons,List.map_nil,List.sum_cons,List.sum_nil]
  by_cases h : n = k
  ·subst h; simp [hg]; omega
  ·by_cases h2 : k < n
   ·rw [if_pos h2,if_neg h,if_pos (by omega)]; omega
   ·rw [if_neg h2,if_neg h,if_neg (by omega)]; omega
def wtO (x : Option Nd) : Nat := match x with | some x => nblk x.data.length | none => 0
theorem Zw6 (n : Nat) : ∀ A : Ents,(∀ k ∈ Zaw A,0 ≤ k ∧ k < n) → (Zaw A).Nodup → ((List.range n).map fun i => wtO ((getA (i : Nat) A).map (·.nd))).sum = (A.map fun x => nblk x.2.nd.data.length).sum
 | [],_,_ => by
  have : ∀ n,((List.range n).map fun i : Nat => wtO ((getA (i : Nat) ([] : Ents)).map (·.nd))).sum = 0 := fun n => by
   induction n with
   | zero => rfl
   | succ n ih => rw [List.range_succ,List.map_append,List.sum_append,ih]; simp [getA,wtO]
  simpa using this n
 | x :: A,hk,hn => by
  have hn' : x.1 ∉ Zaw A ∧ (Zaw A).Nodup := List.nodup_cons.1 hn
  have ih := Zw6 n A (fun k h => hk k (List.mem_cons_of_mem _ h)) hn'.2
  have hx := hk x.1 (List.mem_cons_self ..)
  have h0 : wtO ((getA ((x.1.toNat : Nat) : Int) A).map (·.nd)) = 0 := by
   rw [show ((x.1.toNat : Nat) : Int) = x.1 by omega,getA_none.2 hn'.1]; rfl
  have e : (fun i : Nat => wtO ((getA (i : Nat) (x :: A)).map (·.nd))) = fun i => if i = x.1.toNat then nblk x.2.nd.data.length else (fun i : Nat => wtO ((getA (i : Nat) A).map (·.nd))) i := by
   funext i
   simp only [getA]
   by_cases h : i = x.1.toNat
   ·rw [if_pos h,if_pos (by omega)]; rfl
   ·rw [if_neg h,if_neg (by omega)]
  rw [e,Zw5 _ _ _ h0,ih,if_pos (by omega)]
  simp
theorem Zxe (T : Tb) (nb : Nat) : Zxf T nb = (nb : Int) - ((T.map wtO).sum : Nat) := by
 unfold Zxf
 have key : ∀ (T : Tb) (r : Int),T.foldl (fun r x => match x with | some x => r - (nblk x.data.length : Nat) | none => r) r = r - ((T.map wtO).sum : Nat) := by
  intro T
  induction T with
  | nil => intro r; simp
  | cons x T ih =>
   intro r
   rw [List.foldl_cons,ih,List.map_cons,List.sum_cons]
   cases x <;> simp [wtO] <;> omega
 exact key T nb
theorem Znk (nb : Nat) : ∀ A : Ents,(∀ x ∈ A,x.2.ok nb) → (Za0 A).length = (A.map fun x => nblk x.2.nd.data.length).sum
 | [],_ => rfl
 | x :: A,h => by
  have ih := Znk nb A fun y hy => h y (List.mem_cons_of_mem _ hy)
  have hx := (h x (List.mem_cons_self ..)).cnt
  simp only [Za0,List.flatMap_cons,List.length_append,List.map_cons,List.sum_cons] at ih ⊢
  rw [ih,hx]
theorem Z34 {A : Ents} {n nb : Nat} (hk : ∀ k ∈ Zaw A,0 ≤ k ∧ k < n) (hn : (Zaw A).Nodup) (hok : ∀ x ∈ A,x.2.ok nb) : Zxf (tabOf A n) nb = (nb : Int) - ((Za0 A).length : Nat) := by
 rw [Zxe,Znk nb A hok,← Zw6 n A hk hn,tabOf,List.map_map]
 rfl
theorem Z22 : ∀ (nb : Nat) (B : List Int),B.Nodup → (∀ b ∈ B,0 ≤ b ∧ b < nb) → (((List.range nb).map fun k => ((k : Nat) : Int)).filter fun b => decide (b ∈ B)).length = B.length
 | 0,B,_,hb => by
  cases B with
  | nil => rfl
  | cons b B => have := hb b (List.mem_cons_self ..); omega
 | nb + 1,B,hn,hb => by
  have ih := Z22 nb (B.erase (nb : Nat)) (hn.erase _) fun b h => by
   have h1 := hb b (List.mem_of_mem_erase h)
   have h2 : b ≠ (nb : Nat) := ((hn.mem_erase_iff).1 h).1
   omega
  have e : ((List.range nb).map fun k => ((k : Nat) : Int)).filter (fun b => decide (b ∈ B)) = ((List.range nb).map fun k => ((k : Nat) : Int)).filter (fun b => decide (b ∈ B.erase (nb : Nat))) := by
   refine List.filter_congr fun x hx => ?_
   obtain ⟨k,hk,rfl⟩ := List.mem_map.1 hx
   have hk := List.mem_range.1 hk
   have : ((k : Nat) : Int) ≠ (nb : Nat) := by omega
   simp [hn.mem_erase_iff,this]
  rw [List.range_succ,List.map_append,List.filter_append,List.length_append,e,ih]
  by_cases h : ((nb : Nat) : Int) ∈ B
  ·have := List.length_erase_of_mem h
   have h2 : 0 < B.length := List.length_pos_of_mem h
   simp [h]; omega
  ·rw [List.erase_of_not_mem h]
   simp [h]
theorem freeL_mem {A : Ents} {nb : Nat} {b : Int} : b ∈ Zhj A nb ↔ (0 ≤ b ∧ b < nb) ∧ b ∉ Za0 A := by
 unfold Zhj
 rw [List.mem_filter,List.mem_map]
 simp only [List.mem_range,decide_eq_true_eq]
 constructor
 ·rintro ⟨⟨k,hk,rfl⟩,h⟩
  exact ⟨by omega,h⟩
 ·rintro ⟨⟨h1,h2⟩,h⟩
  exact ⟨⟨b.toNat,by omega,by omega⟩,h⟩
theorem Zsd (A : Ents) (nb : Nat) : (Zhj A nb).Nodup := by
 unfold Zhj
 refine List.Nodup.sublist List.filter_sublist ?_
 rw [List.Nodup,List.pairwise_map]
 exact (List.nodup_range (n := nb)).imp fun h e => h (by omega)
theorem Z1w {A : Ents} {nb : Nat} (hn : (Za0 A).Nodup) (hb : ∀ b ∈ Za0 A,0 ≤ b ∧ b < nb) : (Za0 A).length + (Zhj A nb).length = nb := by
 have h1 := Z22 nb (Za0 A) hn hb
 have h2 := List.length_eq_countP_add_countP (l := (List.range nb).map fun k => ((k : Nat) : Int)) (fun b => decide (b ∈ Za0 A))
 rw [List.countP_eq_length_filter,List.countP_eq_length_filter,h1] at h2
 simp only [List.length_map,List.length_range] at h2
 have e : Zhj A nb = ((List.range nb).map fun k => ((k : Nat) : Int)).filter (fun a => decide ¬(decide (a ∈ Za0 A) = true)) := by
  unfold Zhj
  refine List.filter_congr fun x _ => ?_
  simp
 rw [e]; omega

/-! ### one change -/
structure Inv (rd fs : List Int) (dat : List (List UInt8)) (n nb : Nat) (q : List Chg) (z : ApS) (x : Tb × Nat × Bool) : Prop where
 keys : ∀ k ∈ Zaw z.A,0 ≤ k ∧ k < n
 nodup : (Zaw z.A).Nodup
 pend : ∀ c ∈ q,c.no ∉ Zaw z.A
 ok : ∀ s ∈ z.A,s.2.ok nb
 flow : ∀ b ∈ z.free,0 ≤ b ∧ b < nb
 all : (Za0 z.A ++ z.free).Nodup
 count : (Za0 z.A).length + z.free.length = nb
 front : (Zca dat z.w).getD 0 [] = Zcq rd fs n
 node : ∀ i,i < n → (i : Int) ∉ q.map (·.no) → (Zca dat z.w).getD (1 + i) [] = match getA (i : Nat) z.A with | some s => stoB s | none => zero64
 at_ : ∀ s ∈ z.A,∀ k b,s.2.blocks[k]? = some b → (Zca dat z.w).getD (1 + n + b.toNat) [] = Zg8 s.2.nd.data k
 wlen : ∀ v ∈ z.w,v.2.length = 64
 wlow : ∀ v ∈ z.w,1 ≤ v.1 ∧ v.1 < 1 + (n : Int) + nb
 wpend : ∀ v ∈ z.w,v.1 < 1 + (n : Int) → ∀ c ∈ q,v.1 ≠ 1 + c.no
 wfree : ∀ v ∈ z.w,∀ b ∈ z.free,v.1 ≠ 1 + (n : Int) + b
 wnodup : (z.w.map (·.1)).Nodup
 tab : x.1 = tabOf z.A n
 cnt : x.2.1 = z.w.length
 fine : x.2.2 = false
theorem Zjr (l : List (List UInt8)) (a b : List (Int × List UInt8)) : Zca l (a ++ b) = Zca (Zca l a) b := by simp [Zca]
theorem Zot (d : List UInt8) (i : Nat) : (Zg8 d i).length = 64 := Zbx _
theorem Zef (s : Sto) : (stoB s).length = 64 := Zbx _
theorem Zw4 {A : Ents} {n : Nat} {k : Int} {s : Sto} (h0 : 0 ≤ k) (h1 : k < n) : tabOf (setA k s A) n = (tabOf A n).set k.toNat (some s.nd) := by
 apply List.ext_getElem?
 intro i
 rw [List.getElem?_set]
 by_cases hi : i < n
 ·rw [Zf6 _ hi,Zek]
  by_cases hk : k.toNat = i
  ·rw [if_pos hk,if_pos (by omega),if_pos (by rw [Zb6]; omega)]; rfl
  ·rw [if_neg hk,if_neg (by omega),Zf6 _ hi]
 ·have h2 : ∀ A : Ents,(tabOf A n)[i]? = none := fun A => List.getElem?_eq_none (by rw [Zb6]; omega)
  rw [h2,h2,if_neg (by omega)]
theorem Zdg {n : Nat} {bs : List Int} {d : List UInt8} {v : Int × List UInt8} (h : v ∈ Zcp n bs d) : ∃ k b,bs[k]? = some b ∧ v = (1 + (n : Int) + b,Zg8 d k) := by
 obtain ⟨k,hk,rfl⟩ := List.mem_map.1 h
 have hk := List.mem_range.1 hk
 exact ⟨k,bs[k],List.getElem?_eq_getElem hk,by simp [List.getD_eq_getElem?_getD,hk]⟩
theorem Zy6 {n : Nat} {bs : List Int} {d : List UInt8} {k : Nat} {b : Int} (h : bs[k]? = some b) : (1 + (n : Int) + b,Zg8 d k) ∈ Zcp n bs d := by
 have hk := (List.getElem?_eq_some_iff.1 h).1
 exact List.mem_map.2 ⟨k,List.mem_range.2 hk,by simp [List.getD_eq_getElem?_getD,h]⟩
theorem Zwh (n : Nat) (bs : List Int) (d : List UInt8) : (Zcp n bs d).map (·.1) = bs.map fun b => 1 + (n : Int) + b := by
 apply List.ext_getElem
 ·simp [Zcp]
 ·intro i h1 h2
  simp [Zcp] at h1 h2 ⊢
  simp [h1]
theorem Inv.step {rd fs : List Int} {dat : List (List UInt8)} {n nb : Nat} {c : Chg} {q : List Chg} {z : ApS} {x : Tb × Nat × Bool} (hlen : dat.length = 1 + n + nb) (h : Inv rd fs dat n nb (c :: q) z x) (hc0 : 0 ≤ c.no) (hc1 : c.no < n) (hq : ∀ c' ∈ q,c'.no ≠ c.no)
  (hst : c.drop = false → c.nd.st.check = 0 ∧ c.nd.data.length ≤ 512) :
  (z.step n c = none ∧ (Zhe x nb c).2.2 = true) ∨ ∃ z',z.step n c = some z' ∧ Inv rd fs dat n nb q z' (Zhe x nb c) := by
 have hcA : c.no ∉ Zaw z.A := h.pend c (List.mem_cons_self ..)
 have hll : ∀ a,(Zca dat a).length = 1 + n + nb := fun a => by rw [Zax]; exact hlen
 by_cases hd : c.drop = true
 ·right
  have e : Zhe x nb c = (x.1,x.2.1 + 1,false) := by unfold Zhe; rw [if_neg (by simp [h.fine]),if_pos hd]
  refine ⟨_,by unfold ApS.step; rw [if_pos hd],?_⟩
  rw [e]
  have hget : ∀ k,k < 1 + n + nb → (Zca dat (z.w ++ [(1 + c.no,zero64)])).getD k [] = if (k : Int) = 1 + c.no then zero64 else (Zca dat z.w).getD k [] := fun k hk => by
   rw [Zjr,Zds _ _ _ (by rw [hll]; exact hk) (fun v hv => by rw [List.mem_singleton] at hv; rw [hv]; simp only; omega),Zei]
   by_cases hk2 : (k : Int) = 1 + c.no
   ·rw [if_pos hk2,if_pos hk2.symm]; rfl
   ·rw [if_neg hk2,if_neg (fun e => hk2 e.symm)]; rfl
  refine ⟨h.keys,h.nodup,fun c' hc' => h.pend c' (List.mem_cons_of_mem _ hc'),h.ok,h.flow,h.all,h.count,?_,?_,?_,?_,?_,?_,?_,?_,h.tab,by simp [h.cnt],rfl⟩
  ·rw [hget 0 (by omega),if_neg (by omega)]; exact h.front
  ·intro i hi hiq
   rw [hget _ (by omega)]
   by_cases hic : ((1 + i : Nat) : Int) = 1 + c.no
   ·rw [if_pos hic]
    have : ((i : Nat) : Int) = c.no := by omega
    simp only [this,getA_none.2 hcA]
   ·rw [if_neg hic]
    exact h.node i hi fun hm => by
     rcases List.mem_cons.1 hm with e | e
     ·have e : ((i : Nat) : Int) = c.no := e
      omega
     ·exact hiq e
  ·intro s hs k b hb
   have hb2 := (h.ok s hs).low b (List.mem_of_getElem? hb)
   rw [hget _ (by omega),if_neg (by omega)]
   exact h.at_ s hs k b hb
  ·intro v hv
   rcases List.mem_append.1 hv with hv | hv
   ·exact h.wlen v hv
   ·rw [List.mem_singleton] at hv; rw [hv]; simp [zero64]
  ·intro v hv
   rcases List.mem_append.1 hv with hv | hv
   ·exact h.wlow v hv
   ·rw [List.mem_singleton] at hv; rw [hv]; simp only; omega
  ·intro v hv hlt c' hc'
   rcases List.mem_append.1 hv with hv | hv
   ·exact h.wpend v hv hlt c' (List.mem_cons_of_mem _ hc')
   ·rw [List.mem_singleton] at hv; rw [hv]; simp only
    have := hq c' hc'
    omega
  ·intro v hv b hb
   rcases List.mem_append.1 hv with hv | hv
   ·exact h.wfree v hv b hb
   ·have := h.flow b hb
    rw [List.mem_singleton] at hv; rw [hv]; simp only; omega
  ·rw [List.map_append,List.nodup_append]
   refine ⟨h.wnodup,by simp,fun a ha b hb => ?_⟩
   simp only [List.map_cons,List.map_nil,List.mem_singleton] at hb
   obtain ⟨v,hv,rfl⟩ := List.mem_map.1 ha
   rw [hb]
   by_cases hlt : v.1 < 1 + (n : Int)
   ·exact h.wpend v hv hlt c (List.mem_cons_self ..)
   ·omega
 ·have hd' : c.drop = false := by simpa using hd
  obtain ⟨hst1,hst2⟩ := hst hd'
  have hroom : Zxf x.1 nb = (z.free.length : Nat) := by
   rw [h.tab,Z34 h.keys h.nodup h.ok]
   have := h.count
   omega
  by_cases hr : z.free.length < nblk c.nd.data.length
  ·left
   refine ⟨by unfold ApS.step; rw [if_neg hd,if_pos hr],?_⟩
   unfold Zhe
   rw [if_neg (by simp [h.fine]),if_neg hd,if_pos (by rw [hroom]; omega)]
  ·right
   have e : Zhe x nb c = (x.1.set c.no.toNat (some c.nd),x.2.1 + 1 + nblk c.nd.data.length,false) := by
    unfold Zhe
    rw [if_neg (by simp [h.fine]),if_neg hd,if_neg (by rw [hroom]; omega)]
   obtain ⟨bs,hbs⟩ : ∃ bs,bs = z.free.take (nblk c.nd.data.length) := ⟨_,rfl⟩
   obtain ⟨fr,hfr⟩ : ∃ fr,fr = z.free.drop (nblk c.nd.data.length) := ⟨_,rfl⟩
   have hbl : bs.length = nblk c.nd.data.length := by rw [hbs,List.length_take]; omega
   have hsp : z.free = bs ++ fr := by rw [hbs,hfr,List.take_append_drop]
   refine ⟨_,by unfold ApS.step; rw [if_neg hd,if_neg hr,← hbs,← hfr],?_⟩
   rw [e]
   have hset : setA c.no (⟨c.nd,bs⟩ : Sto) z.A = z.A ++ [(c.no,⟨c.nd,bs⟩)] := Zs9 hcA
   have hbo : Za0 (setA c.no (⟨c.nd,bs⟩ : Sto) z.A) = Za0 z.A ++ bs := by rw [hset]; simp [Za0]
   have hall := h.all
   rw [hsp] at hall
   have hnA := List.nodup_append.1 hall
   have hnF := List.nodup_append.1 hnA.2.1
   have hlowb : ∀ b ∈ bs,0 ≤ b ∧ b < nb := fun b hb => h.flow b (by rw [hsp]; exact List.mem_append_left _ hb)
   have hxs0 : ∀ v ∈ Zcp n bs c.nd.data ++ [(1 + c.no,stoB ⟨c.nd,bs⟩)],0 ≤ v.1 := fun v hv => by
    rcases List.mem_append.1 hv with hv | hv
    ·obtain ⟨k,b,hb,rfl⟩ := Zdg hv
     have := hlowb b (List.mem_of_getElem? hb)
     simp only; omega
    ·rw [List.mem_singleton] at hv; rw [hv]; simp only; omega
   have hxn : ((Zcp n bs c.nd.data ++ [(1 + c.no,stoB ⟨c.nd,bs⟩)]).map (·.1)).Nodup := by
    rw [List.map_append,Zwh,List.nodup_append]
    refine ⟨?_,by simp,fun a ha b hb => ?_⟩
    ·rw [List.Nodup,List.pairwise_map]
     exact hnF.1.imp fun h e => h (by omega)
    ·simp only [List.map_cons,List.map_nil,List.mem_singleton] at hb
     obtain ⟨y,hy,rfl⟩ := List.mem_map.1 ha
     have := hlowb y hy
     omega
   have hget : ∀ k,k < 1 + n + nb → (Zca dat (z.w ++ (Zcp n bs c.nd.data ++ [(1 + c.no,stoB ⟨c.nd,bs⟩)]))).getD k [] = (Zcv (Zcp n bs c.nd.data ++ [(1 + c.no,stoB ⟨c.nd,bs⟩)]) k).getD ((Zca dat z.w).getD k []) := fun k hk => by
    rw [Zjr,Zds _ _ _ (by rw [hll]; exact hk) hxs0]
   have hnone : ∀ k : Nat,(k : Int) ≠ 1 + c.no → (∀ b ∈ bs,(k : Int) ≠ 1 + (n : Int) + b) → Zcv (Zcp n bs c.nd.data ++ [(1 + c.no,stoB ⟨c.nd,bs⟩)]) k = none := fun k h1 h2 => by
    refine Zhi fun v hv e => ?_
    rcases List.mem_append.1 hv with hv | hv
    ·obtain ⟨i,b,hb,rfl⟩ := Zdg hv
     exact h2 b (List.mem_of_getElem? hb) e.symm
    ·rw [List.mem_singleton] at hv; rw [hv] at e; exact h1 e.symm
   refine ⟨?_,?_,?_,?_,?_,?_,?_,?_,?_,?_,?_,?_,?_,?_,?_,?_,?_,rfl⟩
   ·intro k hk
    rw [hset] at hk
    simp only [Zaw,List.map_append,List.map_cons,List.map_nil,List.mem_append,List.mem_singleton] at hk
    rcases hk with hk | rfl
    ·exact h.keys k hk
    ·exact ⟨hc0,hc1⟩
   ·rw [hset]
    simp only [Zaw,List.map_append,List.map_cons,List.map_nil]
    rw [List.nodup_append]
    refine ⟨h.nodup,by simp,fun a ha b hb => ?_⟩
    rw [List.mem_singleton] at hb
    rw [hb]
    exact fun e => hcA (e ▸ ha)
   ·intro c' hc' hm
    rw [hset] at hm
    simp only [Zaw,List.map_append,List.map_cons,List.map_nil,List.mem_append,List.mem_singleton] at hm
    rcases hm with hm | hm
    ·exact h.pend c' (List.mem_cons_of_mem _ hc') hm
    ·exact hq c' hc' hm
   ·intro s hs
    rw [hset] at hs
    rcases List.mem_append.1 hs with hs | hs
    ·exact h.ok s hs
    ·rw [List.mem_singleton] at hs; rw [hs]
     exact ⟨hst1,hst2,hbl,hlowb⟩
   ·intro b hb
    exact h.flow b (by rw [hsp]; exact List.mem_append_right _ hb)
   ·rw [hbo,List.append_assoc]; exact hall
   ·show (Za0 (setA c.no (⟨c.nd,bs⟩ : Sto) z.A)).length + fr.length = nb
    rw [hbo,List.length_append]
    have := h.count
    rw [hsp,List.length_append] at this
    omega
   ·rw [hget 0 (by omega),hnone 0 (by omega) (fun b hb => by have := hlowb b hb; omega)]; exact h.front
   ·intro i hi hiq
    simp only [Zek]
    rw [hget _ (by omega)]
    by_cases hic : ((i : Nat) : Int) = c.no
    ·rw [if_pos hic,show ((1 + i : Nat) : Int) = 1 + c.no by omega,Zjs hxn (List.mem_append_right _ (List.mem_singleton.2 rfl))]; rfl
    ·rw [if_neg hic,hnone _ (by omega) (fun b hb => by have := hlowb b hb; omega)]
     exact h.node i hi fun hm => by
      rcases List.mem_cons.1 hm with e | e
      ·exact hic e
      ·exact hiq e
   ·intro s hs k b hb
    rw [hset] at hs
    rcases List.mem_append.1 hs with hs | hs
    ·have hb1 := List.mem_of_getElem? hb
     have hb2 := (h.ok s hs).low b hb1
     rw [hget _ (by omega),hnone _ (by omega) (fun b' hb' e => ?_)]
     ·exact h.at_ s hs k b hb
     ·refine hnA.2.2 b (List.mem_flatMap.2 ⟨s,hs,hb1⟩) b' (List.mem_append_left _ hb') ?_
      have := hlowb b' hb'
      omega
    ·rw [List.mem_singleton] at hs
     subst hs
     have hb2 := hlowb b (List.mem_of_getElem? hb)
     rw [hget _ (by omega),show ((1 + n + b.toNat : Nat) : Int) = 1 + (n : Int) + b by omega,Zjs hxn (List.mem_append_left _ (Zy6 hb))]; rfl
   ·intro v hv
    rcases List.mem_append.1 hv with hv | hv
    ·exact h.wlen v hv
    ·rcases List.mem_append.1 hv with hv | hv
     ·obtain ⟨k,b,hb,rfl⟩ := Zdg hv
      exact Zot ..
     ·rw [List.mem_singleton] at hv; rw [hv]; exact Zef _
   ·intro v hv
    rcases List.mem_append.1 hv with hv | hv
    ·exact h.wlow v hv
    ·rcases List.mem_append.1 hv with hv | hv
     ·obtain ⟨k,b,hb,rfl⟩ := Zdg hv
      have := hlowb b (List.mem_of_getElem? hb)
      simp only; omega
     ·rw [List.mem_singleton] at hv; rw [hv]; simp only; omega
   ·intro v hv hlt c' hc'
    rcases List.mem_append.1 hv with hv | hv
    ·exact h.wpend v hv hlt c' (List.mem_cons_of_mem _ hc')
    ·rcases List.mem_append.1 hv with hv | hv
     ·obtain ⟨k,b,hb,rfl⟩ := Zdg hv
      have := hlowb b (List.mem_of_getElem? hb)
      simp only at hlt; omega
     ·rw [List.mem_singleton] at hv; rw [hv]; simp only
      have := hq c' hc'
      omega
   ·intro v hv b hb
    rcases List.mem_append.1 hv with hv | hv
    ·exact h.wfree v hv b (by rw [hsp]; exact List.mem_append_right _ hb)
    ·rcases List.mem_append.1 hv with hv | hv
     ·obtain ⟨k,b',hb',rfl⟩ := Zdg hv
      have := hnF.2.2 b' (List.mem_of_getElem? hb') b hb
      simp only; omega
     ·have := h.flow b (by rw [hsp]; exact List.mem_append_right _ hb)
      rw [List.mem_singleton] at hv; rw [hv]; simp only; omega
   ·rw [List.map_append,List.nodup_append]
    refine ⟨h.wnodup,hxn,fun a ha b hb => ?_⟩
    obtain ⟨v,hv,rfl⟩ := List.mem_map.1 ha
    obtain ⟨u,hu,rfl⟩ := List.mem_map.1 hb
    rcases List.mem_append.1 hu with hu | hu
    ·obtain ⟨k,b',hb',rfl⟩ := Zdg hu
     exact h.wfree v hv b' (by rw [hsp]; exact List.mem_append_left _ (List.mem_of_getElem? hb'))
    ·rw [List.mem_singleton] at hu; rw [hu]; simp only
     by_cases hlt : v.1 < 1 + (n : Int)
     ·exact h.wpend v hv hlt c (List.mem_cons_self ..)
     ·omega
   ·rw [h.tab,Zw4 hc0 hc1]
   ·simp only [h.cnt,List.length_append,List.length_cons,List.length_nil,Zcp,List.length_map,List.length_range,hbl]; omega
theorem Zpp {nb : Nat} : ∀ (q : List Chg) (x : Tb × Nat × Bool),x.2.2 = true → (q.foldl (fun x c => Zhe x nb c) x).2.2 = true
 | [],_,h => h
 | c :: q,x,h => Zpp q _ (by show (Zhe x nb c).2.2 = true; unfold Zhe; rw [if_pos h]; exact h)
theorem Inv.run {rd fs : List Int} {dat : List (List UInt8)} {n nb : Nat} (hlen : dat.length = 1 + n + nb) : ∀ {q : List Chg} {z : ApS} {x : Tb × Nat × Bool},Inv rd fs dat n nb q z x → (∀ c ∈ q,0 ≤ c.no ∧ c.no < n) → (q.map (·.no)).Nodup → (∀ c ∈ q,c.drop = false → c.nd.st.check = 0 ∧ c.nd.data.length ≤ 512) →
  (z.run n q = none ∧ (q.foldl (fun x c => Zhe x nb c) x).2.2 = true) ∨ ∃ z',z.run n q = some z' ∧ Inv rd fs dat n nb [] z' (q.foldl (fun x c => Zhe x nb c) x)
 | [],z,x,h,_,_,_ => .inr ⟨z,rfl,h⟩
 | c :: q,z,x,h,h1,h2,h3 => by
  have h2' : c.no ∉ q.map (·.no) ∧ (q.map (·.no)).Nodup := List.nodup_cons.1 h2
  have hc := h1 c (List.mem_cons_self ..)
  rcases h.step hlen hc.1 hc.2 (fun c' hc' e => h2'.1 (List.mem_map.2 ⟨c',hc',e⟩)) (h3 c (List.mem_cons_self ..)) with ⟨e1,e2⟩ | ⟨z',e1,h'⟩
  ·left
   refine ⟨by simp [ApS.run,e1],?_⟩
   rw [List.foldl_cons]; exact Zpp q _ e2
  ·rcases h'.run hlen (fun c' hc' => h1 c' (List.mem_cons_of_mem _ hc')) h2'.2 (fun c' hc' => h3 c' (List.mem_cons_of_mem _ hc')) with ⟨g1,g2⟩ | ⟨z2,g1,g2⟩
   ·exact .inl ⟨by simp [ApS.run,e1,g1],g2⟩
   ·exact .inr ⟨z2,by simp [ApS.run,e1,g1],g2⟩
/-! ### all changes -/
theorem Zgz {k : Int} : ∀ (l : List Chg) (A : Ents),(Zaw A).Nodup → getA k (Zey A l) = if k ∈ l.map (·.no) then none else getA k A
 | [],A,_ => by simp [Zey]
 | c :: l,A,h => by
  have ih := Zgz (k := k) l (delA c.no A) (h.sublist Zi4)
  have e : Zey A (c :: l) = Zey (delA c.no A) l := rfl
  rw [e,ih,Zgg h]
  by_cases h1 : k = c.no
  ·simp [h1]
  ·simp [h1]
theorem Znh : ∀ (l : List Chg) (A : Ents),(Zey A l).Sublist A
 | [],_ => List.Sublist.refl _
 | c :: l,A => (Znh l (delA c.no A)).trans delA_sub
theorem Zqp : ∀ (l : List Chg) (T : Tb),(∀ c ∈ l,0 ≤ c.no) → ∀ i,i < T.length → (Zj0 T l)[i]? = if (i : Int) ∈ l.map (·.no) then some none else T[i]?
 | [],T,_,i,_ => by simp [Zj0]
 | c :: l,T,h,i,hi => by
  have e : Zj0 T (c :: l) = Zj0 (T.set c.no.toNat none) l := rfl
  have hc := h c (List.mem_cons_self ..)
  rw [e,Zqp l _ (fun c' hc' => h c' (List.mem_cons_of_mem _ hc')) i (by simpa using hi),List.getElem?_set]
  have hmc : ((i : Int) ∈ (c :: l).map (·.no)) ↔ ((i : Int) = c.no ∨ (i : Int) ∈ l.map (·.no)) := by simp
  by_cases hm : (i : Int) ∈ l.map (·.no)
  ·rw [if_pos hm,if_pos (hmc.2 (.inr hm))]
  ·rw [if_neg hm]
   by_cases h1 : c.no.toNat = i
   ·have h2 : (i : Int) = c.no := by omega
    rw [if_pos h1,if_pos (by rw [h1]; exact hi),if_pos (hmc.2 (.inl h2))]
   ·rw [if_neg h1,if_neg (fun h => (hmc.1 h).elim (fun e => h1 (by omega)) hm)]
theorem Zjv : ∀ (l : List Chg) (T : Tb),(Zj0 T l).length = T.length
 | [],_ => rfl
 | c :: l,T => by
  have e : Zj0 T (c :: l) = Zj0 (T.set c.no.toNat none) l := rfl
  rw [e,Zjv l]; simp
theorem Z10 {A : Ents} {n : Nat} {l : List Chg} (h : ∀ c ∈ l,0 ≤ c.no) (hn : (Zaw A).Nodup) : Zj0 (tabOf A n) l = tabOf (Zey A l) n := by
 apply List.ext_getElem?
 intro i
 by_cases hi : i < n
 ·rw [Zqp l _ h i (by rw [Zb6]; exact hi),Zf6 _ hi,Zf6 _ hi,Zgz l A hn]
  split <;> rfl
 ·rw [List.getElem?_eq_none (by rw [Zjv,Zb6]; omega),List.getElem?_eq_none (by rw [Zb6]; omega)]
theorem Zsm : ∀ {l : List Chg},badC l = 0 → ∀ c ∈ l,c.drop = false → c.nd.st.check = 0 ∧ c.nd.data.length ≤ 512
 | c :: l,h,c',hc',hd => by
  unfold badC at h
  rcases List.mem_cons.1 hc' with rfl | hc'
  ·rw [if_neg (by simp [hd])] at h
   split at h
   ·rename_i h1; exact absurd h h1
   ·rename_i h1
    split at h
    ·cases h
    ·exact ⟨by simpa using h1,by omega⟩
  ·split at h
   ·exact Zsm h c' hc' hd
   ·split at h
    ·rename_i h1; exact absurd h h1
    ·split at h
     ·cases h
     ·exact Zsm h c' hc' hd
structure Right (l : List Chg) (n : Nat) : Prop where
 low : ∀ c ∈ l,0 ≤ c.no ∧ c.no < n
 nodup : (l.map (·.no)).Nodup
 ok : ∀ c ∈ l,c.drop = false → c.nd.st.check = 0 ∧ c.nd.data.length ≤ 512
theorem Z0w {l : List Chg} {n : Nat} (h : Zfk l n = 0) : Right l n := by
 unfold Zfk at h
 split at h
 ·cases h
 ·rename_i h1
  split at h
  ·cases h
  ·rename_i h2
   refine ⟨fun c hc => ?_,Zpl (by simpa using h2),Zsm h⟩
   have h3 : ¬ ((decide (c.no < 0) || decide ((n : Int) ≤ c.no)) = true) := fun e => h1 (List.any_eq_true.2 ⟨c,hc,e⟩)
   simp at h3
   omega
theorem Zwf {A : Ents} {nb : Nat} (h : ∀ x ∈ A,x.2.ok nb) : ∀ b ∈ Za0 A,0 ≤ b ∧ b < nb := fun b hb => by
 obtain ⟨x,hx,hbx⟩ := List.mem_flatMap.1 hb
 exact (h x hx).low b hbx
theorem Zwe {A B : Ents} (h : A.Sublist B) : (Za0 A).Sublist (Za0 B) := by
 induction h with
 | slnil => exact List.Sublist.refl _
 | cons a _ ih => exact ih.trans (List.sublist_append_right _ _)
 | cons_cons a _ ih => exact ih.append_left _
theorem Inv.start {rd fs : List Int} {dat : List (List UInt8)} {n nb : Nat} {A : Ents} {l : List Chg} (hE : Enc rd fs dat n nb A) (hl : Right l n) : Inv rd fs dat n nb l (ApS.start A nb l) (Zj0 (tabOf A n) l,0,false) := by
 have hsub := Znh l A
 have hok : ∀ s ∈ Zey A l,s.2.ok nb := fun s hs => hE.ok s (hsub.mem hs)
 have hbn : (Za0 (Zey A l)).Nodup := hE.apart.sublist (Zwe hsub)
 refine ⟨fun k hk => hE.keys k ((hsub.map _).mem hk),hE.nodup.sublist (hsub.map _),fun c hc hm => ?_,hok,fun b hb => (freeL_mem.1 hb).1,?_,Z1w hbn (Zwf hok),hE.front,?_,?_,(fun v hv => by cases hv),(fun v hv => by cases hv),(fun v hv => by cases hv),(fun v hv => by cases hv),List.nodup_nil,Z10 (fun c hc => (hl.low c hc).1) hE.nodup,rfl,rfl⟩
 ·have := Zgz (k := c.no) l A hE.nodup
  rw [if_pos (List.mem_map.2 ⟨c,hc,rfl⟩)] at this
  exact getA_none.1 this hm
 ·rw [List.nodup_append]
  exact ⟨hbn,Zsd _ _,fun a ha b hb e => (freeL_mem.1 hb).2 (e ▸ ha)⟩
 ·intro i hi hil
  have := hE.node i hi
  show dat.getD (1 + i) [] = match getA (i : Nat) (Zey A l) with | some s => stoB s | none => zero64
  rw [Zgz l A hE.nodup,if_neg hil]
  exact this
 ·intro s hs k b hb
  exact hE.at_ s (hsub.mem hs) k b hb
theorem Zy9 {rd fs : List Int} {dat : List (List UInt8)} {n nb : Nat} {A : Ents} {l : List Chg} (hE : Enc rd fs dat n nb A) (hl : Right l n) :
  ((ApS.start A nb l).run n l = none ∧ (runT (tabOf A n) nb l).2.2 = true) ∨
  ∃ z,(ApS.start A nb l).run n l = some z ∧ (runT (tabOf A n) nb l) = (tabOf z.A n,z.w.length,false) ∧ Enc rd fs (Zca dat z.w) n nb z.A ∧ Zcj z.w = 0 ∧ hasM ((1 + n + nb : Nat) : Int) z.w = true := by
 rcases (Inv.start hE hl).run hE.len hl.low hl.nodup hl.ok with ⟨h1,h2⟩ | ⟨z,h1,h⟩
 ·exact .inl ⟨h1,h2⟩
 ·refine .inr ⟨z,h1,?_,⟨by rw [Zax]; exact hE.len,h.front,h.keys,h.nodup,fun i hi => h.node i hi (by simp),h.ok,h.at_,(List.nodup_append.1 h.all).1⟩,?_,?_⟩
  ·have e1 := h.tab
   have e2 := h.cnt
   have e3 := h.fine
   have e : runT (tabOf A n) nb l = l.foldl (fun x c => Zhe x nb c) (Zj0 (tabOf A n) l,0,false) := rfl
   rw [e]
   generalize l.foldl (fun x c => Zhe x nb c) (Zj0 (tabOf A n) l,0,false) = x at e1 e2 e3 ⊢
   obtain ⟨x1,x2,x3⟩ := x
   simp only at e1 e2 e3
   rw [e1,e2,e3]
  ·unfold Zcj
   rw [if_neg ?_,if_neg (by rw [Zpk h.wnodup]; simp)]
   intro hb
   obtain ⟨v,hv,hb⟩ := List.any_eq_true.1 hb
   have h1 := h.wlen v hv
   have h2 := h.wlow v hv
   unfold badW at hb
   simp [h1] at hb
   omega
  ·unfold hasM
   rw [List.all_eq_true]
   intro v hv
   have h2 := h.wlow v hv
   simp; omega
theorem Zxw {n : Nat} (h : n ≤ 512) : nblk n ≤ 8 := by unfold nblk; omega
end Cr
namespace Cr
open Go Go.Proofs
set_option maxRecDepth 100000
set_option maxHeartbeats 64000000
attribute [local irreducible] Calls

structure QlogOk (D : DiskM) (j m : Nat) (done : Int) (dat : List (List UInt8)) : Prop where
 q : Quiet D (1 + j + dat.length)
 line : D.line = []
 d0 : 0 ≤ done
 dm : done ≤ (m : Nat)
 jl : j ≤ 1024
 at_ : ∀ k,k < dat.length → D.laid.getD (1 + j + k) [] = dat.getD k []
def qlog (lp p j m : Nat) (dat : List (List UInt8)) : Res := fun h => ∃ D done,QlogOk D j m done dat ∧ Sep [Zco lp p 1 0 0 j done false,disk p D] h
theorem Rd.qlog {w : World} {lp p j m : Nat} {dat : List (List UInt8)} (h : Rd w (Cr.qlog lp p j m dat)) : ∃ D done,QlogOk D j m done dat ∧ Rd w (Zco lp p 1 0 0 j done false) ∧ Rd w (Cr.disk p D) := by
 obtain ⟨f,⟨D,done,hq,hs⟩,ha⟩ := h
 have hr := Rd.sep ⟨f,hs,ha⟩
 exact ⟨D,done,hq,hr _ (List.mem_cons_self ..),hr _ (List.mem_cons_of_mem _ (List.mem_cons_self ..))⟩
theorem St.openQlog {W : World} {F : Nat → Prop} {lp p j m : Nat} {dat : List (List UInt8)} {rs : List Res} {w : World} (hS : St W F (qlog lp p j m dat :: rs) w) : ∃ D done,QlogOk D j m done dat ∧ St W F (Zco lp p 1 0 0 j done false :: disk p D :: rs) w := by
 obtain ⟨h,⟨h1,h2,⟨D,done,hq,hs⟩,hr,hd,hu⟩,s⟩ := hS
 exact ⟨D,done,hq,h,Sep.append_mk hs hr hd hu,s⟩
theorem St.shutQlog {W : World} {F : Nat → Prop} {lp p j m : Nat} {dat : List (List UInt8)} {rs : List Res} {w : World} {D : DiskM} {done : Int} (hq : QlogOk D j m done dat) (hS : St W F (Zco lp p 1 0 0 j done false :: disk p D :: rs) w) : St W F (qlog lp p j m dat :: rs) w :=
 St.shutR (rs' := [Zco lp p 1 0 0 j done false,disk p D]) hS fun _ hh => ⟨D,done,hq,hh⟩
theorem qlen {w : World} {lp p j m : Nat} {dat : List (List UInt8)} (h : Rd w (Cr.qlog lp p j m dat)) : 1 + j + dat.length ≤ 4096 ∧ ∀ s ∈ dat,s.length = 64 := by
 obtain ⟨D,done,hq,_,hD⟩ := h.qlog
 have hok := hD.disk.1
 have h1 := hok.most
 rw [hq.q.len] at h1
 refine ⟨h1,fun s hs => ?_⟩
 obtain ⟨k,hk,rfl⟩ := List.mem_iff_getElem.1 hs
 have h2 := hq.at_ k hk
 rw [List.getD_eq_getElem?_getD,List.getD_eq_getElem?_getD,List.getElem?_eq_getElem hk,List.getElem?_eq_getElem (show 1 + j + k < D.laid.length by rw [hq.q.len]; omega)] at h2
 simp only [Option.getD_some] at h2
 rw [← h2]
 exact hok.laid64 _ (List.getElem_mem _)
theorem Zpx (lp p j m : Nat) (dat : List (List UInt8)) (W : World) (h : Rd W (qlog lp p j m dat)) :
  Calls Tryz.prog 132 #[.pointer (some ⟨lp,0,none⟩)] W (Ret fun v w => v = .int .i64 (dat.length : Nat) ∧ St W noF [] w) := by
 obtain ⟨D,done,hq,hL,hD⟩ := h.qlog
 have hj := hq.jl
 have := Zfa lp p 1 0 0 j done false D W hL hD (by omega)
 rwa [show (D.laid.length : Int) - 1 - j = (dat.length : Nat) by rw [hq.q.len]; omega] at this
theorem Z7w (lp p j m : Nat) (dat : List (List UInt8)) (no : Nat) (W : World) (h : Rd W (qlog lp p j m dat)) (hno : no < dat.length) :
  Calls Tryz.prog 82 #[.pointer (some ⟨lp,0,none⟩),.int .i64 (no : Nat)] W (Ret fun v w => ∃ a c,v = .tuple #[.slice a 64 c,.int .i64 0] ∧ 64 ≤ c ∧ St W noF [bytes a (dat.getD no [])] w) := by
 have h64 := (qlen h).2
 obtain ⟨D,done,hq,hL,hD⟩ := h.qlog
 have hj := hq.jl
 have := Z52 lp p 1 0 0 j done false D (no : Nat) W hL hD (by omega) (by rw [hq.line]; simp)
 have hl := hq.q.len
 have e : Zg2 D j (no : Nat) = (0,dat.getD no []) := by
  unfold Zg2 DiskM.read
  rw [if_neg (by simp [hq.q.off]),if_neg (by omega),if_neg (by simp [hq.q.off]),if_neg (by simp [Zdt]; omega),Zv3 hq.line,show ((1 : Int) + j + (no : Nat)).toNat = 1 + j + no by omega,hq.at_ no hno]
 have e2 : (dat.getD no []).length = 64 := by
  rw [List.getD_eq_getElem?_getD,List.getElem?_eq_getElem hno]
  exact h64 _ (List.getElem_mem _)
 rw [e] at this
 simp only [e2] at this
 exact this
theorem Zth (lp p j m : Nat) (dat : List (List UInt8)) (a : Option Addr) (c : Nat) (l : List Wr) (rd fs : List Int) (W : World) (F : Nat → Prop) (hG : Gl W F rd fs) (hW : Wrs W F a l) (hl : l.length ≤ 1048576) (hm : (m : Int) < last)
  (hc : Zcj (l.map Wr.data) = 0) (hh : hasM (dat.length : Nat) (l.map Wr.data) = true) (hS : St W F [qlog lp p j m dat] W) :
  Calls Tryz.prog 84 #[.pointer (some ⟨lp,0,none⟩),.slice a l.length c] W (Ret fun v w =>
   (j / 2 < l.length ∧ v = .int .i64 6 ∧ St W F [qlog lp p j m dat] w) ∨ (l.length ≤ j / 2 ∧ v = .int .i64 0 ∧ St W F [qlog lp p j (m + 1) (Zca dat (l.map Wr.data))] w)) := by
 obtain ⟨D,done,hq,hS⟩ := hS.openQlog
 have hj := hq.jl
 have h0 := hq.d0
 have hdm := hq.dm
 have hlen := hq.q.len
 have hgood := Zfj hc
 have hx64 : ∀ v ∈ l,v.x.s.length ≤ 140737488355328 := fun v hv => by
  have := (hgood v.data (List.mem_map.2 ⟨v,hv,rfl⟩)).2
  simp only [Wr.data] at this
  omega
 have := Z49 lp p 1 0 0 j done false D a c l rd fs W F hG hW (by omega) h0 hl hx64 (by rw [hq.line]; simp) hS
 refine Calls.mono this fun e w ⟨v,he,hv,hS⟩ => ⟨v,he,?_⟩
 have hn : ((1 + j + dat.length : Nat) : Int) - 1 - j = (dat.length : Nat) := by omega
 have hnl : (l.map Wr.data).length = l.length := by simp
 by_cases hfull : j / 2 < l.length
 ·left
  have e : Zbr rd fs D j done (l.map Wr.data) = (6,D,done) := by
   unfold Zbr
   rw [if_neg (by simp [hq.q.off]),if_neg (by simpa using hc),hlen,hn,if_neg (by simp [hh]),if_pos (.inl (by rw [hnl]; omega))]
  rw [e] at hv hS
  exact ⟨hfull,hv,hS.shutQlog hq⟩
 ·right
  have hD := Zsi rd fs (j := j) (done := done) hq.q hq.line hc (by rw [hn]; exact hh) (by rw [hnl]; omega) (by omega)
  have hq2 : QlogOk (Zbr rd fs D j done (l.map Wr.data)).2.1 j (m + 1) (Zbr rd fs D j done (l.map Wr.data)).2.2 (Zca dat (l.map Wr.data)) := by
   refine ⟨by rw [Zax]; exact hD.q,hD.line,by have := hD.lo; omega,by have := hD.hi; omega,hj,fun k hk => ?_⟩
   rw [Zax] at hk
   rw [hD.at_ k (by omega),hq.at_ k hk,Zds _ _ _ hk (fun v hv => (hgood v hv).1)]
  rw [hD.e] at hv
  exact ⟨by omega,hv,hS.shutQlog hq2⟩
end Cr
