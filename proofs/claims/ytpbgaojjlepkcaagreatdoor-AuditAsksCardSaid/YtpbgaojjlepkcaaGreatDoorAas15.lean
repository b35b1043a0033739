/-
  Layer 11 (chain) in plain words,2: one more record put into the table; a record's value told.
  Layer 11 (chain): a record's value read.
  Layer 11 (chain): all records read.
  Layer 11 (chain): Open.
  The laws of layer 11: what few has made,marks in their row.
  Package audit: records copied; All,Len; what a chain's audit holds.
  Package audit: Matches,Ask.
  Layer 11 (chain): Add.
  Package audit: Note.
  Package audit: Of,of a change whose audit is empty; layer 27's fresh change.
  The builtin min. Over any program.
  How long a leaf's bytes are.
  Layer 27: the laws' helpers cut and To; how long a record's bytes are.
  The law AuditAsks: what it computes.
  A law's arguments,opened: bytes,lists of writes. What is read of them,by the reading that the row gives.
  A law's argument,opened: a slice of structs,whatever their fields; an array of bytes.
  Layer 27's record as an argument,opened.
  The argument of the audit's laws,opened: a slice of records.
-/
import Derived.Test.YtpbgaojjlepkcaaGreatDoorAas14
import Derived.Test.YtpbgaojjlepkcaaGreatDoorAas5
import Derived.Test.YtpbgaojjlepkcaaGreatDoorAas7
import Derived.Test.YtpbgaojjlepkcaaGreatDoorAas13
import Derived.Test.YtpbgaojjlepkcaaGreatDoorAas6
import Derived.Test.YtpbgaojjlepkcaaGreatDoorAas3
import Derived.Test.YtpbgaojjlepkcaaGreatDoorAas4
import Derived.Deep.SlicePairs
import Derived.Carry
import Derived.OpenShut
namespace Cr
open Go Go.Proofs
set_option maxRecDepth 100000
set_option maxHeartbeats 4000000
attribute [local irreducible] Calls

theorem Z13 (vs : List Mv) : goT (Zcl vs) [dbN,logN] = .ok (logT vs) := rfl
theorem Zt1 : ∀ k,k < 10 → Zb1 [dbN,logN,keyD k] := by decide +kernel
theorem Zev {k : Nat} (h : k < 10) : Zb1 [dbN,logN,keyD k] := Zt1 k h
theorem Zo7 (vs : List Mv) {k : Nat} (hk : k < 10) : Zfa (Zcl vs) [dbN,logN,keyD k] = .ok (logT vs,keyD k) := by
 unfold Zfa
 rw [if_pos (Zev hk)]
 rfl
theorem Zv7 {vs : List Mv} (k : Nat) : goT (Zcl vs) [dbN,logN,keyD k] = Zco (logT vs) (keyD k) := by
 have := Zjh [dbN,logN] (Zcl vs) (keyD k)
 rw [Z13] at this
 exact this
theorem Znc (vs : List Mv) (s : List UInt8) : Zco (logT vs) s = match kidT s (Zcv 0 vs) with | some k => .ok k | none => .error 7 := by
 unfold Zco
 rw [if_pos (show (logT vs).st.kind = 1 from rfl)] <;> rfl
theorem Zec {n : Nat} {t t' : Tn} {d : List (List (List UInt8))} {nd : Nd} {p : List (List UInt8)} {e : Int} (h : Zdp n t nd p = (e,t')) : Zbz n (0,t,d) nd p = if e = 0 then (0,t',d ++ [p]) else (e,t',d) := by
 unfold Zbz
 show (if (0 : Int) = 0 then if (Zdp n t nd p).1 = 0 then (0,(Zdp n t nd p).2,d ++ [p]) else ((Zdp n t nd p).1,(Zdp n t nd p).2,d) else _) = _
 rw [if_pos rfl,h]
theorem Zly {b : List UInt8} (h : b.length ≤ 512) : Zka (Zcu b) = 0 := by
 unfold Zka
 rw [if_neg (by simp [Zcu]),if_neg (by simp only [Zcu]; decide),if_neg (by simp only [Zcu]; omega)]
theorem Zlz (vs : List Mv) : (logT vs).names = (List.range' 0 vs.length).map fun j => (keyD j,((3 + j : Nat) : Int)) := Zq9 vs 0
theorem Z2m (vs : List Mv) (v : Mv) (h : vs.length < 10) : addF (Zif vs.length v) (logT vs) = logT (vs ++ [v]) := by
 have h1 := Zo8 v vs 0 vs.length (by omega) h
 have h2 := Zl3 v vs 0
 rw [Nat.zero_add] at h2
 show Tn.mk logN 2 ⟨1,448,0,0⟩ [] (insT (Zif vs.length v) (Zcv 0 vs)) = Tn.mk logN 2 ⟨1,448,0,0⟩ [] (Zcv 0 (vs ++ [v]))
 rw [h1,h2]
theorem Zso {vs : List Mv} {v : Mv} (h : vs.length < 7) (hl : (encM v).length ≤ 512) : Zdp 10 (Zcl vs) (Zcu (encM v)) [dbN,logN,keyD vs.length] = (0,Zcl (vs ++ [v])) := by
 unfold Zdp
 rw [if_neg (fun e => e.elim (fun e => e (Zev (by omega))) (fun e => by cases e)),if_neg (fun e => e (Zly hl)),Zo7 vs (by omega)]
 simp only
 have hn : kidT (keyD vs.length) (logT vs).kids = none := Zew vs 0 vs.length (by omega) (by omega)
 rw [hn,if_neg (by simp),Zue h]
 simp only
 rw [if_neg (Zjp (l := insN (keyD vs.length,((3 + vs.length : Nat) : Int)) (logT vs).names) ?_ ?_)]
 ·have := Z2m vs v (by omega)
  show ((0 : Int),Tn.mk [] 0 ⟨1,493,0,0⟩ [] [.mk dbN 1 ⟨1,448,0,0⟩ [] [addF (Zif vs.length v) (logT vs)]]) = _
  rw [this]
  rfl
 ·intro x hx
  rcases List.mem_cons.1 ((Zfx _ _).mem_iff.1 hx) with rfl | hx
  ·exact ⟨by simp [keyD],by simp only; omega,by simp only; omega⟩
  ·rw [Zlz] at hx
   obtain ⟨j,hj,rfl⟩ := List.mem_map.1 hx
   rw [List.mem_range'_1] at hj
   exact ⟨by simp [keyD],by simp only; omega,by simp only; omega⟩
 ·rw [(Zfx _ _).length_eq,List.length_cons,Zlz,List.length_map,List.length_range']; omega
theorem Zvz {vs : List Mv} {v : Mv} (h : vs.length = 7) (hl : (encM v).length ≤ 512) : Zdp 10 (Zcl vs) (Zcu (encM v)) [dbN,logN,keyD vs.length] = (6,Zcl vs) := by
 unfold Zdp
 rw [if_neg (fun e => e.elim (fun e => e (Zev (by omega))) (fun e => by cases e)),if_neg (fun e => e (Zly hl)),Zo7 vs (by omega)]
 simp only
 have hn : kidT (keyD vs.length) (logT vs).kids = none := Zew vs 0 vs.length (by omega) (by omega)
 rw [hn,if_neg (by simp),Zud h]
def t1 : Tn := .mk [] 0 ⟨1,493,0,0⟩ [] [.mk dbN 1 ⟨1,448,0,0⟩ [] []]
theorem Zo3 : Zka Zpr = 0 := by decide
theorem Z1t : Zdp 10 t0 Zpr [dbN] = (0,t1) := by
 unfold Zdp
 rw [if_neg (by decide),if_neg (fun e => e Zo3)]
 have h1 : Zfa t0 [dbN] = .ok (t0,dbN) := by
  unfold Zfa
  rw [if_pos (by decide)]; rfl
 rw [h1]
 simp only
 have hn : kidT dbN t0.kids = none := rfl
 have hf : Zie 10 (Nt t0) = some 1 := Zgg (by omega) rfl fun j hj e => by
  obtain rfl : j = 0 := by omega
  cases e
 rw [hn,if_neg (by simp),hf]
 simp only
 rw [if_neg (Zjp (fun x hx => by
  rw [show t0.names = [] from rfl,insN,List.mem_singleton] at hx
  subst hx; decide) (by decide))]
 rfl
theorem Zyy : Zdp 10 t1 Zpr [dbN,logN] = (0,Zcl []) := by
 unfold Zdp
 rw [if_neg (by decide),if_neg (fun e => e Zo3)]
 have h1 : Zfa t1 [dbN,logN] = .ok (.mk dbN 1 ⟨1,448,0,0⟩ [] [],logN) := by
  unfold Zfa
  rw [if_pos (by decide)]; rfl
 rw [h1]
 simp only
 have hn : kidT logN (Tn.mk dbN 1 ⟨1,448,0,0⟩ [] []).kids = none := rfl
 have hf : Zie 10 (Nt t1) = some 2 := Zgg (by omega) rfl fun j hj e => by
  rcases j with _ | _ | j
  ·cases e
  ·cases e
  ·omega
 rw [hn,if_neg (by simp),hf]
 simp only
 rw [if_neg (Zjp (fun x hx => by
  rw [show (Tn.mk dbN 1 ⟨1,448,0,0⟩ [] []).names = [] from rfl,insN,List.mem_singleton] at hx
  subst hx; decide) (by decide))]
 rfl
theorem Zu2 : Zdu t0 (wayL logN) = some [[dbN],[dbN,logN]] := by
 have h1 : Zb3 t0 [dbN] = -1 := by
  unfold Zb3 getR goR
  rw [if_pos (by decide)]; rfl
 have h2 : Zb3 t0 [dbN,logN] = -1 := by
  unfold Zb3 getR goR
  rw [if_pos (by decide)]; rfl
 unfold wayL
 rw [Zdu,if_neg (by rw [h1]; decide),if_pos h1,Zdu,if_neg (by rw [h2]; decide),if_pos h2,Zdu]
 rfl
theorem Zu3 (vs : List Mv) : Zdu (Zcl vs) (wayL logN) = some [] := by
 have h1 : Zb3 (Zcl vs) [dbN] = 1 := by
  unfold Zb3 getR goR
  rw [if_pos (by decide)]; rfl
 have h2 : Zb3 (Zcl vs) [dbN,logN] = 1 := by
  unfold Zb3 getR goR
  rw [if_pos (by decide)]; rfl
 unfold wayL
 rw [Zdu,if_pos h1,Zdu,if_pos h2,Zdu]
theorem Zuo : Zb7 10 t0 [[dbN],[dbN,logN]] = (0,Zcl [],[[dbN],[dbN,logN]]) := by
 unfold Zb7
 simp only [List.foldl_cons,List.foldl_nil]
 rw [Zec Z1t,if_pos rfl,Zec Zyy,if_pos rfl]
 rfl
theorem Zsr {vs : List Mv} {k : Nat} (h : vs.length ≤ k) (hk : k < 10) : Zb3 (trV vs) [dbN,logN,keyD k] = -1 := by
 unfold Zb3 getR goR
 rw [if_pos (Zev hk)]
 cases vs with
 | nil => rfl
 | cons v l =>
  show (match (match (match goT (Zcl (v :: l)) [dbN,logN,keyD k] with | .ok u => Except.ok (u.no,u.nd) | .error e => .error e) with | .ok x => Except.ok (shN x.2) | .error e => .error e) with | .error _ => -1 | .ok nd => nd.st.kind : Int) = -1
  rw [Zv7,Znc,Zew (v :: l) 0 k (by omega) hk]
theorem Zr4 {vs : List Mv} {v : Mv} (hk : vs.length ≤ 7) (hc : chkM 8 v = 0) (hl : (encM v).length ≤ 512) :
  Zqm 10 (trV vs) logN (keyD vs.length) v = if vs.length < 7 then (0,trV (vs ++ [v])) else (6,trV vs) := by
 unfold Zqm
 rw [if_neg (fun e => e (Zra (by omega))),if_neg (fun e => e hc),if_neg (by omega),Zsr (Nat.le_refl _) (by omega)]
 cases vs with
 | nil =>
  rw [show trV [] = t0 from rfl,Zu2]
  simp only
  rw [if_neg (by decide),if_neg (by decide),Zuo]
  have := Zso (vs := []) (v := v) (by decide) hl
  rw [show ([] : List Mv).length = 0 from rfl] at *
  rw [Zec this,if_pos rfl]
  rfl
 | cons x l =>
  rw [show trV (x :: l) = Zcl (x :: l) from rfl,Zu3]
  simp only
  rw [if_neg (by decide),if_neg (by decide),show Zb7 10 (Zcl (x :: l)) [] = (0,Zcl (x :: l),[]) from rfl]
  by_cases h7 : (x :: l).length < 7
  ·rw [Zec (Zso h7 hl),if_pos rfl,if_pos rfl,if_pos h7]
   rfl
  ·rw [Zec (Zvz (by omega) hl),if_neg (show ¬ (6 : Int) = 0 by decide)]
   show (if (6 : Int) = 0 then _ else (6,Zoi (Zcl (x :: l)) [])) = _
   rw [if_neg (by decide),if_neg h7]
   rfl
theorem Z14 {vs : List Mv} {k : Nat} {v : Mv} (hk : vs.length ≤ 7) (hv : vs[k]? = some v) : getR (trV vs) [dbN,logN,keyD k] = .ok ⟨⟨0,384,0,0⟩,encM v⟩ := by
 have h := (List.getElem?_eq_some_iff.1 hv).1
 unfold getR goR
 rw [if_pos (Zev (by omega))]
 cases vs with
 | nil => cases hv
 | cons x l =>
  rw [show trV (x :: l) = Zcl (x :: l) from rfl,Zv7,Znc]
  have := Zl2 (x :: l) 0 k v (by omega) hv
  rw [Nat.zero_add] at this
  rw [this]
  rfl
theorem Zx6 {vs : List Mv} {k : Nat} {v : Mv} (hk : vs.length ≤ 7) (hv : vs[k]? = some v) (hc : chkM 8 v = 0) (hf : fitM v) : Ztt (trV vs) logN (keyD k) = .ok v := by
 have h := (List.getElem?_eq_some_iff.1 hv).1
 unfold Ztt
 rw [if_pos (Zra (by omega)),Z14 hk hv]
 simp only
 rw [if_pos trivial,Zs7 hc hf]
theorem Zu9 {vs : List Mv} {k : Nat} (h : vs.length ≤ k) (hk : k < 10) : Ztt (trV vs) logN (keyD k) = .error 7 := by
 unfold Ztt
 rw [if_pos (Zra hk)]
 have hg : ∃ e,getR (trV vs) [dbN,logN,keyD k] = .error e := by
  have hq := Zsr h hk
  unfold Zb3 at hq
  unfold getR goR at hq ⊢
  rw [if_pos (Zev hk)] at hq ⊢
  cases vs with
  | nil => exact ⟨_,rfl⟩
  | cons v l =>
   rw [show trV (v :: l) = Zcl (v :: l) from rfl,Zv7,Znc,Zew (v :: l) 0 k (by omega) hk]
   exact ⟨_,rfl⟩
 obtain ⟨e,hg⟩ := hg
 rw [hg]
end Cr
namespace Cr
open Go Go.Proofs
set_option maxRecDepth 100000
set_option maxHeartbeats 8000000
attribute [local irreducible] Calls

theorem Z1d {R : Option Addr → List Value → Prop} (W : World) (hR : ∀ a cs,R a cs → Ro W noF (row a cs)) (r m : List UInt8) (hr4 : r.length ≤ 400) (hm : m.length = 32) (cs : List Value) (hv : Mrd R (recV r m) cs) :
  Calls Tryz.prog 125 #[.agg (List.toArray cs)] W (Ret fun v w => ∃ a c,v = .tuple #[.slice a r.length c,.agg (bv m).toArray,.bool true] ∧ r.length ≤ c ∧ R a (bv r) ∧ St W noF [] w) := by
 have hS := St.start W
 obtain ⟨a1,c1,a2,c2,rows,rfl,hc1,_,hrow,hM⟩ := hv.lit
 have hM' : Mrds R [txM r,txM m] rows := hM
 obtain ⟨cs0,hxs0,hy0⟩ := hM'.at_ (i := 0) (y := txM r) rfl
 obtain ⟨cs1,hxs1,hy1⟩ := hM'.at_ (i := 1) (y := txM m) rfl
 obtain ⟨d1,e1,d2,e2,_,rfl,he1,hb0,_,_⟩ := hy0.lit
 obtain ⟨d3,e3,d4,e4,_,rfl,he3,hb1,_,_⟩ := hy1.lit
 clear hM hy0 hy1
 simp only [recV,Mv.kind,Mv.num,Mv.txt,Mv.lst,List.length_nil,List.length_cons,Nat.zero_add,Nat.reduceAdd] at *
 have hr := hR _ _ hrow
 have hbm := hR _ _ hb1
 obtain ⟨xb,xo,rfl⟩ := hr.start.base (by intro e; rw [e] at hxs0; simp at hxs0)
 obtain ⟨mb,mo,rfl⟩ := hbm.start.base (by intro e; have := congrArg List.length e; rw [Zah,hm] at this; cases this)
 have hm32 : LenO (bv m) 32 := ⟨by rw [Zah]; exact hm⟩
 refine Zab Tryz.func125 rfl Tryz.ntmps125 rfl ?_
 repeat (first|refine Yem ?_|(refine X_id ?_;first|refine Yaf ?_|refine Yag ?_|refine Yan ?_|refine Ya9 ?_|refine Yau ?_|refine Yba ?_|refine Yap ?_|refine Ya4 (fun _ _ hS _ => ?_)|refine Yar (fun _ _ hS _ => ?_))|refine Yek ?_|refine Yab ?_)
 refine Zam (.s 0 (.s 1 (.s 2 (.s 3 (.s 4 (.s 5 (.s 6 (.s 7 (.h 8 (.h 9 (.h 10 (.h 11 .nil .no) .no) .no) (.h 9 (.h 8 (.h 10 (.h 11 .nil .no) .no) .no) .no)))))))))) mixed (by kernel_rfl) rfl ?_
 have hS := hS.drew
 repeat (first|(refine Zae ?_;first|refine Ybe ?_|refine Yce ?_|refine Ybl ?_))
 refine Zbc (fun w' => Zdm w' _ _ _) rfl rfl ((hr.rd hS).cellsX (by omega) hxs0 rfl) (fun _ hc => Zbs rfl rfl hc) rfl rfl ?_
 repeat (first|(refine Zae ?_;first|refine Ybe ?_|refine Yce ?_|refine Ybl ?_))
 refine Zbc (fun w' => Zdm w' _ _ _) rfl rfl ((hr.rd hS).cellsX (by omega) hxs1 rfl) (fun _ hc => Zbs rfl rfl hc) rfl rfl ?_
 repeat' (first|refine Zi2 ?_ ?_|refine Yem ?_|(refine X_id ?_;first|refine Yaf ?_|refine Yan ?_|refine Ya9 ?_|refine Yau ?_|refine Yba ?_|refine Ybt ?_|refine Yap ?_|refine Yao (fun _ hS _ => ?_)|refine Yar (fun _ _ hS _ => ?_))|refine Yek ?_|refine Yab ?_|(refine Zae ?_;first|refine Yax ?_|refine Yas ?_)|(refine Zac ?_;first|refine Yd6 ?_))
 all_goals
  refine Zam (.s 0 (.s 1 (.s 2 (.s 3 (.s 4 (.s 5 (.s 6 (.h 7 (.s 8 .nil) .no)))))))) mixed (by kernel_rfl) rfl ?_
  have hS := hS.drew
  repeat (first|(refine Zae ?_;first|refine Ybe ?_|refine Zak rfl rfl (fun _ => Zmj rfl rfl (by omega)) rfl rfl ?_|refine Ybl ?_))
  refine Zbc (fun w' => Zdm w' _ _ _) rfl rfl ⟨(hbm.rd hS).cellsAt rfl,by rw [Zah]; exact hm⟩ (fun _ hc => Zbs rfl rfl hc) rfl rfl ?_
  repeat (first|refine Yao (fun _ hS _ => ?_)|refine Yah ?_|refine Yab ?_|refine Yd0 ?_|(refine Zae ?_;first|refine Yax ?_|refine Ybi ?_|refine Yas ?_)|(refine Zac ?_;first|refine Yd6 ?_))
  exact ⟨_,_,rfl,he1,hb0,hS.drops⟩
end Cr
namespace Cr
open Go Go.Proofs
set_option maxRecDepth 100000
set_option maxHeartbeats 8000000
attribute [local irreducible] Calls

theorem Zge (rd fs : List Int) (l m : List (List UInt8)) : ∀ {n : Nat},n ≤ l.length → Za5 rd fs (l ++ m) n = Za5 rd fs l n
 | 0,_ => rfl
 | n + 1,h => by
  show digest rd fs [Za5 rd fs (l ++ m) n,_,_] = digest rd fs [Za5 rd fs l n,_,_]
  rw [Zge rd fs l m (by omega),List.getD_eq_getElem?_getD,List.getElem?_append_left (by omega),List.getD_eq_getElem?_getD]
theorem Zlg (rd fs : List Int) (l : List (List UInt8)) (s : List UInt8) : Zbo rd fs (l ++ [s]) = Zbo rd fs l ++ [recV s (digest rd fs [Za5 rd fs l l.length,be8 (l.length : Nat),s])] := by
 unfold Zbo
 rw [List.length_append,List.length_singleton,List.range_succ,List.map_append,List.map_singleton]
 congr 1
 ·refine List.map_congr_left fun i hi => ?_
  rw [List.mem_range] at hi
  rw [Zge rd fs l [s] (by omega),List.getD_eq_getElem?_getD,List.getElem?_append_left hi,List.getD_eq_getElem?_getD]
 ·have e : (l ++ [s]).getD l.length [] = s := by simp
  rw [e]
  show [recV s (digest rd fs [Za5 rd fs (l ++ [s]) l.length,be8 (l.length : Nat),(l ++ [s]).getD l.length []])] = _
  rw [e,Zge rd fs l [s] (Nat.le_refl _)]
theorem Zjb (rd fs : List Int) : ∀ (k : Nat) (l : List (List UInt8)),l.length = k → k ≤ 7 → (∀ s ∈ l,s.length ≤ 400) → TreeOk 10 (trV (Zbo rd fs l))
 | 0,l,hl,_,_ => by
  obtain rfl := List.eq_nil_of_length_eq_zero hl
  exact Z5r
 | k + 1,l,hl,hk,h4 => by
  rcases List.eq_nil_or_concat l with rfl | ⟨l,s,rfl⟩
  ·cases hl
  rw [List.concat_eq_append] at hl h4 ⊢
  rw [List.length_append,List.length_singleton] at hl
  have ih := Zjb rd fs k l (by omega) (by omega) fun x hx => h4 x (List.mem_append_left _ hx)
  rw [Zlg]
  have hp := Zr4 (vs := Zbo rd fs l) (v := recV s (digest rd fs [Za5 rd fs l l.length,be8 (l.length : Nat),s])) (by rw [Zcm]; omega) (Zm3 _ _) (Zsd (h4 s (by simp)) (Zar _ _ _))
  rw [if_pos (by rw [Zcm]; omega)] at hp
  have := Zx4 ih logN (keyD (Zbo rd fs l).length) (recV s (digest rd fs [Za5 rd fs l l.length,be8 (l.length : Nat),s]))
  rw [hp] at this
  exact this
theorem Zye {m : List UInt8} (h : m.length = 32) (z : Value) (r : List Value) : Spl (List.replicate 32 z ++ r) 0 (bv m) (bv m ++ r) := by
 have h2 : (bv m).length = 32 := by rw [Zah]; exact h
 refine ⟨by rw [h2,List.length_append,List.length_replicate]; omega,?_⟩
 rw [h2]; rfl
theorem Zyd {m : List UInt8} (h : m.length = 32) (u v : Value) (r : List Value) : Spl (bv m ++ (u :: r)) 32 [v] (bv m ++ (v :: r)) := by
 have h2 : (bv m).length = 32 := by rw [Zah]; exact h
 refine ⟨by simp only [List.length_cons,List.length_append,List.length_nil]; omega,?_⟩
 have e1 : (bv m ++ u :: r).take 32 = bv m := by
  have := List.take_left (l₁ := bv m) (l₂ := u :: r)
  rwa [h2] at this
 have e2 : (bv m ++ u :: r).drop (32 + [v].length) = r := by
  rw [show 32 + [v].length = (bv m).length + 1 by rw [h2]; rfl,List.drop_length_add_append]; rfl
 rw [e1,e2]; simp
section
variable {c f tp : Nat} {b : Int} {T : Int → Option Nd} {X : List RowD}
theorem St.chRX {W : World} {F : Nat → Prop} {N : Int → Option Nd} {rs : List Res} {w : World} {a : Option Addr} {cs : List Value} (hS : St W F (chR c f b T N X :: rs) w) (hx : RX X a cs) : ∃ X',(∀ y ∈ X,y ∈ X') ∧ (a,cs) ∈ X' ∧ St W F (chR c f b T N X' :: rs) w := by
 rcases hx with rfl | hx
 ·exact ⟨[(a,[])] ++ X,fun y hy => List.mem_append_right _ hy,List.mem_cons_self ..,((hS.own_none 0 1 a).toBag fun _ h => own.row h).chAdd⟩
 ·exact ⟨X,fun _ h => h,hx,hS⟩
theorem BsIn.snoc {L : List Bs} {X X' : List RowD} (h : BsIn L X) (hX : ∀ y ∈ X,y ∈ X') {x : Bs} (hx : (x.a,bv x.s) ∈ X') (hc : x.s.length ≤ x.c) : BsIn (L ++ [x]) X' :=
 ⟨fun y hy => by
  rcases List.mem_append.1 hy with hy | hy
  ·exact hX _ (h.inn y hy)
  ·obtain rfl := List.mem_singleton.1 hy
   exact hx,fun y hy => by
  rcases List.mem_append.1 hy with hy | hy
  ·exact h.cap y hy
  ·obtain rfl := List.mem_singleton.1 hy
   exact hc⟩
theorem Z0l (i : Nat) (hi : i < 10) (W : World) (hG : Lg W noF) : Calls Tryz.prog 30 #[.int .i64 (i : Nat)] W (Ret fun v w => v = .string (str (keyD i)) ∧ St W noF [] w) := by
 have := Z6e i W hG (by omega) (by rw [Zei,Lib.decDigits_one hi]; simp)
 rwa [Z31 hi] at this
theorem Z4l (rd fs : List Int) (l : List (List UInt8)) (hl7 : l.length ≤ 7) (h4 : ∀ s ∈ l,s.length ≤ 400) (tb : Nat) (W : World) (F : Nat → Prop) (hT : TreeRo W F f tp 10 b T) (hG : Lg W F) (hD : Gl W F rd fs) (htb : Ro W F (pts tb (tbC c logN))) (hS : St W F [chR c f b T (Nt (trV (Zbo rd fs l))) X] W) :
  Calls Tryz.prog 73 #[.pointer (some ⟨tb,0,none⟩)] W (Ret fun v w => ∃ (x : Nat) (ra : Option Addr) (rc : Nat) (L : List Bs) (X' : List RowD),v = .tuple #[.pointer (some ⟨x,0,none⟩),.bool true] ∧ (∀ y ∈ X,y ∈ X') ∧ Zay L = l ∧ BsIn L X' ∧ l.length ≤ rc ∧
   St W F [pts x (chnC l.length (Za5 rd fs l l.length) tb ra rc),own 35 1 ra rc (L.map Bs.val),chR c f b T (Nt (trV (Zbo rd fs l))) X'] w) := by
 have ht := Zjb rd fs _ l rfl hl7 h4
 have hl33 : LenO (endV 0 (Zdg rd fs Zek)) 33 := ⟨by rw [List.length_cons,Zah,Zcg]⟩
 refine Zab Tryz.func73 rfl Tryz.ntmps73 rfl ?_
 repeat (first|refine Yd7 ?_|refine Yag ?_|refine Yae ?_|refine Ycc ?_|refine Yad ?_|refine Yab ?_)
 refine Zaa _ rfl rfl rfl rfl rfl (Z4x rd fs _ (hD.mono fun r hr => (hr.rd hS).ro)) ?_
 rintro _ w ⟨rfl,hS'⟩
 replace hS := hS.plus hS'
 clear hS'
 have hm0 : (Zdg rd fs Zek).length = 32 := Zcg _ _ _
 have hs1 := fun z r => Zye hm0 z r
 have hs2 := fun u v r => Zyd hm0 u v r
 repeat (first|refine Yd7 ?_|refine Yaf ?_|refine Yag ?_|refine Ybm ?_|refine Ya4 (fun _ _ hS _ => ?_)|refine Yae ?_|refine Zf8 ?_|refine Yal ?_|refine Yab ?_)
 rename_i xb _ _
 have hS := hS.own_none 35 1 none
 refine Zal (α := Nat × Option Addr × Nat × List Bs × List RowD) (fun z => [(0,.pointer (some ⟨tb,0,none⟩)),(4,.pointer (some ⟨xb,0,none⟩))])
  (fun z w => z.1 ≤ l.length ∧ (∀ y ∈ X,y ∈ z.2.2.2.2) ∧ Zay z.2.2.2.1 = l.take z.1 ∧ BsIn z.2.2.2.1 z.2.2.2.2 ∧ z.1 ≤ z.2.2.1 ∧ z.2.2.2.1.length = z.1 ∧
   St W F [pts xb (.cells (endX z.1 (Za5 rd fs l z.1) [.pointer (some ⟨tb,0,none⟩),.slice z.2.1 z.1 z.2.2.1]).toArray 157 (0,0)),own 35 1 z.2.1 z.2.2.1 (z.2.2.2.1.map Bs.val),chR c f b T (Nt (trV (Zbo rd fs l))) z.2.2.2.2] w)
  (fun z => l.length - z.1) (0,none,0,[],X) ⟨rfl,rfl,trivial⟩ ⟨Nat.zero_le _,fun _ h => h,rfl,⟨fun _ h => (List.not_mem_nil h).elim,fun _ h => (List.not_mem_nil h).elim⟩,Nat.le_refl _,rfl,hS.pick [1,0,0]⟩ ?_
 clear hS
 rintro ⟨i,ra,rc,L,X1⟩ w ⟨hi,hX1,hT1,hB1,hrc,hL1,hS⟩
 simp only at hi hX1 hT1 hB1 hrc hL1 hS ⊢
 obtain ⟨m,hm⟩ : ∃ m,m = Za5 rd fs l i := ⟨_,rfl⟩
 have hm32 : m.length = 32 := by rw [hm]; exact Ze9 _ _ _ _
 rw [← hm] at hS
 repeat (first|refine Yaa ?_|refine Yaf ?_|refine Yat ?_|refine Yan ?_|refine Yap ?_|refine Yea ?_)
 refine Zaa _ rfl rfl rfl rfl rfl (Z0l i (by omega) _ (hG.at_ hS)) ?_
 rintro _ w ⟨rfl,hS'⟩
 replace hS := hS.plus hS'
 clear hS'
 repeat (first|refine Yd7 ?_|refine Yel ?_|refine Yd8 ?_|refine Yab ?_)
 obtain ⟨_,hcc,hr1,hw,hbk⟩ := hS.call [false,false,true]
 refine Zaa _ rfl rfl rfl rfl rfl (Z5o ht tb logN (keyD i) _ _ (hT.mono hw) (hG.mono hw) (hw _ htb) hcc) ?_
 rintro v w ⟨X2,hX2,hS,hv⟩
 replace hS := hbk hS
 clear hbk hw hcc hr1
 have hX12 : ∀ y ∈ X,y ∈ X2 := fun y hy => hX2 y (hX1 y hy)
 by_cases hlt : i < l.length
 ·have hv0 := Zx3 (rd := rd) (fs := fs) hlt
  obtain ⟨s,hs⟩ : ∃ s,s = l.getD i [] := ⟨_,rfl⟩
  have hsi : l[i]? = some s := by rw [hs,List.getD_eq_getElem?_getD]; simp [hlt]
  have hs4 := h4 s (List.mem_of_getElem? hsi)
  have hnx : Za5 rd fs l (i + 1) = digest rd fs [m,be8 (i : Nat),s] := by rw [hm,hs]; rfl
  have hd32 : (digest rd fs [m,be8 (i : Nat),s]).length = 32 := Zar _ _ _
  rw [← hs,hnx] at hv0
  rw [Zx6 (by rw [Zcm]; omega) hv0 (Zm3 _ _) (Zse (by omega) (by omega))] at hv
  obtain ⟨cs,rfl,hM⟩ := hv
  obtain ⟨e1,e2,e3,e4,e5,rfl,_⟩ := hM.lit
  have hm2 : LenO (bv (digest rd fs [m,be8 (i : Nat),s])) 32 := ⟨by rw [Zah]; exact hd32⟩
  generalize hdg : digest rd fs [m,be8 (i : Nat),s] = d at *
  repeat (first|refine Yem ?_|(refine X_id ?_;first|refine Yaf ?_|refine Yag ?_|refine Ya0 ?_|refine Ya9 ?_|refine Ybk ?_|refine Yba ?_|refine Ybf ?_|refine Yao (fun _ hS _ => ?_)|refine Yar (fun _ _ hS _ => ?_)|refine Ydh ?_)|refine Yen ?_|refine Yef ?_)
  refine Zaa _ rfl rfl rfl rfl rfl (Z1d (R := RX X2) _ (fun a cs h => (h.rd (hS.rd (r := chR c f b T (Nt (trV (Zbo rd fs l))) X2) (by simp)).ch).ro) s d hs4 hd32 _ hM) ?_
  rintro _ w ⟨a,q,rfl,hq,hrow,hS'⟩
  replace hS := hS.plus hS'
  clear hS'
  repeat (first|refine Yd7 ?_|refine Yfh ?_|refine Yao (fun _ hS _ => ?_)|refine Yar (fun _ _ hS _ => ?_)|refine Yae ?_|refine Yab ?_)
  refine Zam (.s 0 (.s 1 (.s 2 (.s 3 (.s 4 (.s 5 (.s 6 (.s 7 (.s 8 (.s 9 (.s 10 (.s 11 (.s 12 (.s 13 (.s 15 (.h 14 (.s 16 (.s 17 .nil)) .no)))))))))))))))) mixed (by kernel_rfl) rfl ?_
  have hS := hS.drew
  repeat (first|(refine Zae ?_;first|refine Ya1 ?_|refine Yc3 ?_|refine Yb5 ?_|refine Ycs ?_|refine Ycq ?_))
  have hqE := (hS.rd (r := pts xb (.cells (endX i m [.pointer (some ⟨tb,0,none⟩),.slice ra i rc]).toArray 157 (0,0))) (by simp)).pts
  refine Zbq (fun w' => Zdm w' _ _ _) rfl rfl rfl rfl (Zhr hm32 hqE) (fun _ hc => Zbs rfl rfl hc) rfl rfl ?_
  repeat (first|(refine Zae ?_;first|refine Yb5 ?_|refine Ycs ?_|refine Ycq ?_|refine Ycv ?_|refine Yc1 ?_|refine Yd4 ?_))
  refine Zad 113 rfl rfl rfl rfl rfl hS (Zyx m (i : Nat) a q s rd fs _ hm32 (hD.mono fun r hr => (hr.rd hS).ro) (hrow.rd (hS.rd (r := chR c f b T (Nt (trV (Zbo rd fs l))) X2) (by simp)).ch).ro (by omega)) ?_
  rintro _ w rfl hS
  rw [hdg]
  repeat (first|(refine Zac ?_;first|refine Yaw ?_))
  refine Zb2 rfl rfl rfl rfl (fun _ => Zhy rfl rfl rfl hd32 hd32) rfl rfl ?_
  rw [decide_eq_false (fun h => h rfl)]
  repeat (first|refine Yaa ?_|refine Yaf ?_|refine Yat ?_|refine Yan ?_|refine Yek ?_|refine Yab ?_|(refine Zae ?_;first|refine Yax ?_|refine Yb6 ?_))
  have hS : St W F [pts xb (.cells (endX i m [.pointer (some ⟨tb,0,none⟩),.slice ra i rc]).toArray 157 (0,0)),own 35 1 ra rc (L.map Bs.val),chR c f b T (Nt (trV (Zbo rd fs l))) X2] _ := hS.took
  obtain ⟨_,hcc,hr1,hw,hbk⟩ := hS.call [true]
  refine Zaa _ rfl rfl rfl rfl rfl (Z0k xb i m _ _ a q s rd fs _ _ hm32 (by omega) (hD.mono hw) (hrow.ro (hr1 (chR c f b T (Nt (trV (Zbo rd fs l))) X2) (by simp)).ch) (by omega) hcc) ?_
  rintro _ w ⟨rfl,hS⟩
  replace hS := hbk hS
  clear hbk hw hcc hr1
  rw [hdg] at hS ⊢
  repeat (first|refine Yd7 ?_|(refine X_id ?_;first|refine Yaf ?_|refine Yat ?_|refine Yan ?_|refine Yap ?_|refine Ybg (fun _ _ hS _ => ?_))|refine Yad ?_|refine Yab ?_)
  have hnw := (hS.rd (List.mem_cons_self ..)).own_row
  refine Zaq rfl rfl rfl rfl rfl hS (by rw [List.length_map,hL1,Nat.mul_one]) hrc hnw rfl (by simp [Value.oneCell']) (by omega) (by simp only [maxLen]; omega) (fun b' q' w hS hq' _ => ?_)
  repeat (first|refine Yd7 ?_|refine Yat ?_|refine Yan ?_|refine Yao (fun _ hS _ => ?_)|refine Yav ?_)
  have hS : St W F [chR c f b T (Nt (trV (Zbo rd fs l))) X2,pts xb (.cells (endX (i + 1) d [.pointer (some ⟨tb,0,none⟩),.slice b' (i + 1) q']).toArray 157 (0,0)),own 35 1 b' q' (L.map Bs.val ++ [.slice a s.length q])] _ := hS.took
  obtain ⟨X3,hX3,hin,hS⟩ := hS.chRX hrow
  refine Zaf (z := (i,ra,rc,L,X1)) (i + 1,b',q',L ++ [⟨a,q,s⟩],X3) ⟨rfl,rfl,trivial⟩ ⟨hlt,fun y hy => hX3 y (hX12 y hy),?_,hB1.snoc (fun y hy => hX3 y (hX2 y hy)) hin hq,hq',by rw [List.length_append,hL1]; rfl,?_⟩ (by dsimp only; omega)
  ·rw [List.take_succ_eq_append_getElem hlt,Zay,List.map_append]
   have : l[i] = s := by rw [List.getElem?_eq_getElem hlt] at hsi; injection hsi
   rw [this]
   have hT1' : L.map (·.s) = l.take i := hT1
   simp [hT1']
  ·dsimp only
   rw [hnx,List.map_append,show List.map Bs.val [(⟨a,q,s⟩ : Bs)] = [Value.slice a s.length q] from rfl]
   exact hS.took
 ·have hiz : i = l.length := by omega
  subst hiz
  rw [Zu9 (by rw [Zcm]; omega) (by omega)] at hv
  obtain ⟨_,rfl⟩ := hv
  repeat (first|refine Yeo ?_|(refine X_id ?_;first|refine Yaf ?_|refine Yag ?_|refine Ya0 ?_|refine Ybc ?_|refine Ybj ?_|refine Yao (fun _ hS _ => ?_)|refine Yar (fun _ _ hS _ => ?_))|refine Ye9 ?_|refine Yab ?_|refine Yaq ?_|refine Yb3 ?_|refine Ya5 ?_|refine Ybo ?_)
  exact ⟨xb,ra,rc,L,X2,rfl,hX12,by rw [hT1,List.take_length],⟨fun x hx => hX2 _ (hB1.inn x hx),hB1.cap⟩,hrc,by rw [hm] at hS; exact hS.took⟩
end
end Cr
namespace Cr
open Go Go.Proofs
set_option maxRecDepth 100000
set_option maxHeartbeats 8000000
attribute [local irreducible] Calls

theorem Zy2 : ∀ (vs : List Mv),Zb3 (trV vs) [dbN,logN] = if vs = [] then -1 else 1
 | [] => by
  unfold Zb3 getR goR
  rw [if_pos (by decide)]; rfl
 | v :: l => by
  unfold Zb3 getR goR
  rw [if_pos (by decide)]; rfl
theorem Zvw (vs : List Mv) : (Zfu (trV vs) [dbN,logN] 0).2 = 0 := by
 unfold Zfu
 rw [Zy2]
 cases vs with
 | nil => rfl
 | cons v l =>
  have h2 : (lstR (trV (v :: l)) [dbN,logN]).2 = 0 := by
   unfold lstR goR
   rw [if_pos (by decide)]; rfl
  rw [if_neg (List.cons_ne_nil v l),if_neg (by decide),if_neg (by decide),if_neg (fun e => e h2)]
section
variable {c f tp : Nat} {b : Int} {T : Int → Option Nd} {X : List RowD}
theorem Z4m (rd fs : List Int) (l : List (List UInt8)) (hl7 : l.length ≤ 7) (h4 : ∀ s ∈ l,s.length ≤ 400) (tb : Nat) (W : World) (F : Nat → Prop) (hT : TreeRo W F f tp 10 b T) (hG : Lg W F) (hD : Gl W F rd fs) (htb : Ro W F (pts tb (tbC c logN))) (hS : St W F [chR c f b T (Nt (trV (Zbo rd fs l))) X] W) :
  Calls Tryz.prog 59 #[.pointer (some ⟨tb,0,none⟩)] W (Ret fun v w => ∃ (x : Nat) (ra : Option Addr) (rc : Nat) (L : List Bs) (X' : List RowD),v = .tuple #[.pointer (some ⟨x,0,none⟩),.int .i64 0] ∧ (∀ y ∈ X,y ∈ X') ∧ Zay L = l ∧ BsIn L X' ∧ l.length ≤ rc ∧
   St W F [pts x (chnC l.length (Za5 rd fs l l.length) tb ra rc),own 35 1 ra rc (L.map Bs.val),chR c f b T (Nt (trV (Zbo rd fs l))) X'] w) := by
 have ht := Zjb rd fs _ l rfl hl7 h4
 refine Zab Tryz.func59 rfl Tryz.ntmps59 rfl ?_
 repeat (first|refine Yd7 ?_|refine Yel ?_|refine Yd8 ?_|refine Yab ?_)
 obtain ⟨_,hcc,_,hw,hbk⟩ := hS.call [true]
 refine Zaa _ rfl rfl rfl rfl rfl (Z27 ht tb logN _ _ (hT.mono hw) (hG.mono hw) (hw _ htb) hcc) ?_
 rintro _ w ⟨X1,a,q,hX1,rfl,_,hS⟩
 replace hS := hbk hS
 clear hbk hw hcc
 rw [Zvw]
 repeat (first|refine Yd7 ?_|refine Yfk ?_|refine Yek ?_|refine Yab ?_)
 obtain ⟨_,hcc,_,hw,hbk⟩ := hS.call [false,true]
 refine Zaa _ rfl rfl rfl rfl rfl (Z4l rd fs l hl7 h4 tb _ _ (hT.mono hw) (hG.mono hw) (hD.mono hw) (hw _ htb) hcc) ?_
 rintro _ w ⟨x,ra,rc,L,X2,rfl,hX2,hT2,hB2,hrc,hS⟩
 replace hS := hbk hS
 clear hbk hw hcc
 repeat (first|refine Yd7 ?_|refine Yaf ?_|refine Yag ?_|refine Ya0 ?_|refine Ybd ?_|refine Ye8 ?_|refine Yet ?_)
 exact ⟨x,ra,rc,L,X2,rfl,fun y hy => hX2 y (hX1 y hy),hT2,hB2,hrc,hS.took⟩
end
end Cr
namespace Cr
open Go Go.Proofs
set_option maxRecDepth 100000

theorem BsIn.bss {L : List Bs} {X : List RowD} {W : World} {F : Nat → Prop} {a : Option Addr} {c : Nat} (h : BsIn L X) (h1 : Ro W F (own 35 1 a c (L.map Bs.val))) (h2 : Ro W F (bag X)) : Bss W F a L := ⟨h1.own_row,fun x hx => h2.bag (h.inn x hx)⟩
theorem Rd.cellsC {w : World} {b off o' i n : Nat} {cs seg : List Value} (H : Rd w (row (some ⟨b,off,none⟩) cs)) (hi : o' = off + i) (h : (cs.drop i).take n = seg) (hn : seg.length = n) : Zdm w ⟨b,o',none⟩ n seg := by
 subst hi; subst h
 exact ⟨H.seg _ _,hn⟩
end Cr
namespace Cr
open Go Go.Proofs
set_option maxRecDepth 100000
set_option maxHeartbeats 8000000
attribute [local irreducible] Calls

theorem Z1e (a : Option Addr) (l : List Rec) (c : Nat) (W : World) (hs : Rd W (row a (Zdo l))) (hlim : l.length ≤ 1048576) :
  Calls Tryz.prog 67 #[.slice a l.length c] W (Ret fun v w => ∃ a' c',v = .slice a' l.length c' ∧ l.length ≤ c' ∧ St W noF [own 62 5 a' c' (Zdo l)] w) := by
 have hS := St.start W
 have hlen := Zfr l
 cases a with
 | none =>
  have h0 : Zdo l = [] := hs.none_nil
  obtain rfl : l = [] := by
   rw [h0] at hlen
   exact List.eq_nil_of_length_eq_zero (by simp at hlen; omega)
  refine Zab Tryz.func67 rfl Tryz.ntmps67 rfl ?_
  repeat (first|refine Yd7 ?_|refine Yeh ?_|refine Yei ?_|refine Yej ?_)
  exact ⟨none,0,rfl,Nat.le_refl _,hS.own_none _ _ _⟩
 | some ad =>
  refine Zab Tryz.func67 rfl Tryz.ntmps67 rfl ?_
  repeat (first|refine Yd7 ?_|refine Yeh ?_|refine Ybg (fun _ _ hS _ => ?_)|refine Yek ?_|refine Yab ?_)
  rename_i b w hb
  have hs := hs.below hb
  refine Zaq rfl rfl rfl rfl rfl hS rfl (by omega) hs hlen (Zow l) (by omega) (by simp only [maxLen]; omega) (fun a' c' w hS hc hnil => ?_)
  repeat (first|refine Yd7 ?_|refine Yag ?_|refine Yah ?_|refine Yd9 ?_)
  exact ⟨a',c',by rw [Nat.zero_add],by omega,hS⟩
abbrev audC (x : Nat) (la : Option Addr) (n lc : Nat) : Obj := .cells (List.toArray [.pointer (some ⟨x,0,none⟩),.slice la n lc]) 141 (0,0)
structure AuZ where
 A : List Rec
 la : Option Addr
 lc : Nat
 ra : Option Addr
 rc : Nat
 L : List Bs
 X : List RowD
structure AuZ.Ok (z : AuZ) : Prop where
 tL : Zay z.L = Zdc z.A
 bL : BsIn z.L z.X
 ok : ∀ r ∈ z.A,rchk r = 0
 l7 : z.A.length ≤ 7
 rc : z.A.length ≤ z.rc
 lc : z.A.length ≤ z.lc
abbrev AuZ.res (rd fs : List Int) (ax x tb c f : Nat) (b : Int) (T : Int → Option Nd) (z : AuZ) : List Res := [pts ax (audC x z.la z.A.length z.lc),own 62 5 z.la z.lc (Zdo z.A),pts x (chnC (Zdc z.A).length (Za5 rd fs (Zdc z.A) (Zdc z.A).length) tb z.ra z.rc),own 35 1 z.ra z.rc (z.L.map Bs.val),chR c f b T (Nt (trV (Zbo rd fs (Zdc z.A)))) z.X]
theorem Z44 (ax x : Nat) (la : Option Addr) (lc : Nat) (l : List Rec) (W : World) (hx : Ro W noF (pts ax (audC x la l.length lc))) (hs : Ro W noF (row la (Zdo l))) (hlim : l.length ≤ 1048576) :
  Calls Tryz.prog 25 #[.pointer (some ⟨ax,0,none⟩)] W (Ret fun v w => ∃ a' c',v = .slice a' l.length c' ∧ l.length ≤ c' ∧ St W noF [own 62 5 a' c' (Zdo l)] w) := by
 have hc := hx
 have hS := St.start W
 refine Zab Tryz.func25 rfl Tryz.ntmps25 rfl ?_
 repeat (first|refine Yd7 ?_|(refine X_id ?_;first|refine Yaf ?_|refine Yag ?_|refine Yat ?_|refine Yan ?_|refine Ybs ?_|refine Yb4 ?_)|refine Yek ?_|refine Yab ?_)
 refine Zaa _ rfl rfl rfl rfl rfl (Z1e la l lc _ (hs.rd hS) hlim) ?_
 rintro _ w ⟨a',c',rfl,hc',hS'⟩
 replace hS := hS.plus hS'
 clear hS'
 repeat (first|refine Yd7 ?_|refine Yag ?_|refine Yah ?_|refine Yd9 ?_)
 exact ⟨a',c',rfl,hc',hS.took⟩
theorem Z6i (ax x : Nat) (la : Option Addr) (n lc m : Nat) (h : List UInt8) (tb : Nat) (ra : Option Addr) (rc : Nat) (W : World) (hx : Ro W noF (pts ax (audC x la n lc))) (hh : Rd W (pts x (chnC m h tb ra rc))) :
  Calls Tryz.prog 23 #[.pointer (some ⟨ax,0,none⟩)] W (Ret fun v w => v = .int .i64 (m : Nat) ∧ W = w) := by
 have hc := hx
 have hS := St.start W
 refine Zab Tryz.func23 rfl Tryz.ntmps23 rfl ?_
 repeat (first|refine Yd7 ?_|(refine X_id ?_;first|refine Yaf ?_|refine Yag ?_|refine Yat ?_|refine Yan ?_|refine Ybs ?_|refine Yb4 ?_)|refine Yek ?_|refine Yab ?_)
 refine Zaa _ rfl rfl rfl rfl rfl (Z4q x m h tb ra rc _ hh) ?_
 rintro _ _ ⟨rfl,rfl⟩
 repeat (first|refine Yd7 ?_|refine Yag ?_|refine Yah ?_|refine Yd9 ?_)
 exact ⟨rfl,rfl⟩
end Cr
namespace Cr
open Go Go.Proofs
set_option maxRecDepth 100000
set_option maxHeartbeats 8000000
attribute [local irreducible] Calls

abbrev ansV (l : List Nat) : List Value := l.map fun n => Value.int .i64 (n : Nat)
theorem Zw2 (l : List Nat) (i : Nat) : ansV (l ++ [i]) = ansV l ++ [.int .i64 (i : Nat)] := List.map_append
theorem Zik (q : Rec) : ∀ (l : List Rec) (i : Nat),(askF q i l).length ≤ l.length
 | [],_ => Nat.le_refl _
 | x :: l,i => by
  have ih := Zik q l (i + 1)
  rw [askF]
  split
  ·simp only [List.length_cons]; omega
  ·simp only [List.length_cons]; omega
theorem Zw4 (s t : List UInt8) (W : World) : Calls Tryz.prog 66 #[.string (str s),.string (str t)] W (Ret fun v w => v = .bool (decide (s = []) || decide (s = t)) ∧ St W noF [] w) := by
 have hS := St.start W
 by_cases h : s = []
 ·rw [decide_eq_true h]
  refine Zab Tryz.func66 rfl Tryz.ntmps66 rfl ?_
  repeat (first|refine Yeo ?_|refine Yaf ?_|refine Yag ?_|refine Ybc ?_|refine Ycl ?_|refine Yey ?_|refine Yd9 ?_)
  exact ⟨rfl,hS⟩
 ·rw [decide_eq_false h]
  refine Zab Tryz.func66 rfl Tryz.ntmps66 rfl ?_
  repeat (first|refine Yem ?_|(refine X_id ?_;first|refine Yaf ?_|refine Yag ?_|refine Ya9 ?_|refine Ycb ?_|refine Ydh ?_)|refine Yey ?_|refine Yd9 ?_)
  exact ⟨rfl,hS⟩
theorem Zw3 (q r : Rec) (W : World) : Calls Tryz.prog 24 #[.agg q.cells.toArray,.agg r.cells.toArray] W (Ret fun v w => v = .bool (Zct q r) ∧ St W noF [] w) := by
 have hS := St.start W
 have C1 := fun W => Zw4 q.cmd r.cmd W
 have C2 := fun W => Zw4 q.pub r.pub W
 have C3 := fun W => Zw4 q.pkg r.pkg W
 unfold Zct
 generalize (decide (q.cmd = []) || decide (q.cmd = r.cmd)) = b1 at *
 generalize (decide (q.pub = []) || decide (q.pub = r.pub)) = b2 at *
 generalize (decide (q.pkg = []) || decide (q.pkg = r.pkg)) = b3 at *
 cases b1 with
 | false =>
  refine Zab Tryz.func24 rfl Tryz.ntmps24 rfl ?_
  repeat (first|refine Yac ?_|refine Yaa ?_|refine Ybh ?_|refine Ycr ?_|(refine X_id ?_;first|(refine Zad 66 rfl rfl rfl rfl rfl hS (C1 _) ?_;rintro _ _ rfl hS)|refine Yaf ?_|refine Yag ?_|refine Yan ?_|refine Ya9 ?_|refine Yap ?_|refine Ya4 (fun _ _ hS _ => ?_))|refine Yey ?_|refine Yd9 ?_)
  exact ⟨rfl,hS.drops⟩
 | true =>
  cases b2 with
  | false =>
   refine Zab Tryz.func24 rfl Tryz.ntmps24 rfl ?_
   repeat (first|refine Ye1 ?_|(refine X_id ?_;first|(refine Zad 66 rfl rfl rfl rfl rfl hS (C1 _) ?_;rintro _ _ rfl hS)|(refine Zad 66 rfl rfl rfl rfl rfl hS (C2 _) ?_;rintro _ _ rfl hS)|refine Yaf ?_|refine Yag ?_|refine Yan ?_|refine Ybc ?_|refine Ya9 ?_|refine Yap ?_|refine Ya4 (fun _ _ hS _ => ?_))|refine Yey ?_|refine Yd9 ?_)
   exact ⟨rfl,hS.drops⟩
  | true =>
   cases b3 with
   | false =>
    refine Zab Tryz.func24 rfl Tryz.ntmps24 rfl ?_
    repeat (first|refine Ye1 ?_|(refine X_id ?_;first|(refine Zad 66 rfl rfl rfl rfl rfl hS (C1 _) ?_;rintro _ _ rfl hS)|(refine Zad 66 rfl rfl rfl rfl rfl hS (C2 _) ?_;rintro _ _ rfl hS)|(refine Zad 66 rfl rfl rfl rfl rfl hS (C3 _) ?_;rintro _ _ rfl hS)|refine Yaf ?_|refine Yag ?_|refine Yan ?_|refine Ybc ?_|refine Ya9 ?_|refine Yap ?_|refine Ya4 (fun _ _ hS _ => ?_))|refine Yey ?_|refine Yd9 ?_)
    exact ⟨rfl,hS.drops⟩
   | true =>
    by_cases h1 : q.out < 0
    ·rw [decide_eq_true h1]
     refine Zab Tryz.func24 rfl Tryz.ntmps24 rfl ?_
     repeat (first|refine Yev ?_|(refine X_id ?_;first|(refine Zad 66 rfl rfl rfl rfl rfl hS (C1 _) ?_;rintro _ _ rfl hS)|(refine Zad 66 rfl rfl rfl rfl rfl hS (C2 _) ?_;rintro _ _ rfl hS)|(refine Zad 66 rfl rfl rfl rfl rfl hS (C3 _) ?_;rintro _ _ rfl hS)|refine Yaf ?_|refine Yag ?_|refine Yan ?_|refine Ybc ?_|refine Ya2 ?_|refine Yap ?_|refine Ya4 (fun _ _ hS _ => ?_))|refine Yey ?_|refine Yd9 ?_)
     exact ⟨rfl,hS.drops⟩
    ·rw [decide_eq_false h1]
     by_cases h2 : q.out = r.out
     ·rw [decide_eq_true h2]
      refine Zab Tryz.func24 rfl Tryz.ntmps24 rfl ?_
      repeat (first|refine Yem ?_|(refine X_id ?_;first|(refine Zad 66 rfl rfl rfl rfl rfl hS (C1 _) ?_;rintro _ _ rfl hS)|(refine Zad 66 rfl rfl rfl rfl rfl hS (C2 _) ?_;rintro _ _ rfl hS)|(refine Zad 66 rfl rfl rfl rfl rfl hS (C3 _) ?_;rintro _ _ rfl hS)|refine Yaf ?_|refine Yag ?_|refine Yan ?_|refine Ybc ?_|refine Ya9 ?_|refine Ybj ?_|refine Ya3 ?_|refine Yap ?_|refine Ya4 (fun _ _ hS _ => ?_))|refine Yey ?_|refine Yd9 ?_)
      exact ⟨rfl,hS.drops⟩
     ·rw [decide_eq_false h2]
      refine Zab Tryz.func24 rfl Tryz.ntmps24 rfl ?_
      repeat (first|refine Yem ?_|(refine X_id ?_;first|(refine Zad 66 rfl rfl rfl rfl rfl hS (C1 _) ?_;rintro _ _ rfl hS)|(refine Zad 66 rfl rfl rfl rfl rfl hS (C2 _) ?_;rintro _ _ rfl hS)|(refine Zad 66 rfl rfl rfl rfl rfl hS (C3 _) ?_;rintro _ _ rfl hS)|refine Yaf ?_|refine Yag ?_|refine Yan ?_|refine Ybc ?_|refine Ya9 ?_|refine Ybk ?_|refine Ya3 ?_|refine Yap ?_|refine Ya4 (fun _ _ hS _ => ?_))|refine Yey ?_|refine Yd9 ?_)
      exact ⟨rfl,hS.drops⟩
theorem Z2o (q : Rec) (ax x : Nat) (la : Option Addr) (lc : Nat) (l : List Rec) (W : World) (hx : Ro W noF (pts ax (audC x la l.length lc))) (hs : Ro W noF (row la (Zdo l))) (hlim : l.length ≤ 1000) :
  Calls Tryz.prog 22 #[.pointer (some ⟨ax,0,none⟩),.agg q.cells.toArray] W (Ret fun v w => ∃ a' c',v = .slice a' (askF q 0 l).length c' ∧ (askF q 0 l).length ≤ c' ∧ St W noF [own 3 1 a' c' (ansV (askF q 0 l))] w) := by
 have hS := St.start W
 refine Zab Tryz.func22 rfl Tryz.ntmps22 rfl ?_
 repeat (first|refine Yd7 ?_|refine Yel ?_|refine Ya4 (fun _ _ hS _ => ?_)|refine Yae ?_|refine Zf8 ?_|refine Ycc ?_|refine Yad ?_|refine Yab ?_)
 rename_i bq _ _
 refine Zaa _ rfl rfl rfl rfl rfl (Z44 ax x la lc l _ (hx.rd hS).ro (hs.rd hS).ro (by omega)) ?_
 rintro _ w ⟨a1,c1,rfl,hc1,hS'⟩
 replace hS := hS.plus hS'
 clear hS'
 repeat (first|refine Yd7 ?_|refine Yaf ?_|refine Yau ?_|refine Yal ?_|refine Yab ?_)
 have hS := hS.own_none 3 1 none
 refine Zal (α := Nat × Option Addr × Nat) (fun z => [(3,.pointer (some ⟨bq,0,none⟩)),(5,.slice z.2.1 (askF q 0 (l.take z.1)).length z.2.2),(9,.slice a1 l.length c1),(10,.int .i64 (l.length : Nat)),(11,.int .i64 (z.1 : Nat))])
  (fun z w => z.1 ≤ l.length ∧ (askF q 0 (l.take z.1)).length ≤ z.2.2 ∧ St W noF [own 3 1 z.2.1 z.2.2 (ansV (askF q 0 (l.take z.1))),own 62 5 a1 c1 (Zdo l),pts bq (.cells q.cells.toArray 62 (0,0))] w) (fun z => l.length - z.1) (0,none,0) ⟨rfl,rfl,rfl,rfl,rfl,trivial⟩ ⟨Nat.zero_le _,Nat.le_refl _,hS⟩ ?_
 clear hS
 rintro ⟨i,a2,c2⟩ w ⟨hi,hc2,hS⟩
 simp only at hi hc2 hS ⊢
 by_cases hlt : i < l.length
 ·have hx0 : l[i]? = some l[i] := List.getElem?_eq_getElem hlt
  have htk : askF q 0 (l.take (i + 1)) = askF q 0 (l.take i) ++ (if Zct q l[i] = true then [i] else []) := by
   rw [List.take_succ_eq_append_getElem hlt,Zpz,List.length_take,Nat.min_eq_left hi,Nat.zero_add]
  generalize l[i] = r at hx0 htk
  have hxs := Zhc hx0
  have hlr := Zfr l
  obtain ⟨bb,hbb⟩ := St.ownBase (hS.pick [1]) (by intro e; rw [e] at hxs; simp at hxs)
  rw [hbb] at hS ⊢
  have hM := fun W => Zw3 q r W
  have hal : (askF q 0 (l.take i)).length ≤ i := Nat.le_trans (Zik q _ 0) (by rw [List.length_take]; omega)
  generalize askF q 0 (l.take i) = out at htk hc2 hS hal ⊢
  repeat (first|refine Yd7 ?_|refine Yaf ?_|refine Ya2 ?_|refine Ybb ?_|refine Yeb ?_|refine Yab ?_)
  refine X_yl (Zbs rfl rfl ((hS.ownRd (a := some ⟨bb,0,none⟩)).cellsC (by first | omega | (dsimp only; omega)) hxs rfl)) rfl rfl ?_
  repeat (first|refine Yd7 ?_|refine Yag ?_|refine Ybf ?_|refine Yao (fun _ hS _ => ?_)|refine Yar (fun _ _ hS _ => ?_)|refine Yd8 ?_|refine Yab ?_)
  refine Zaa _ rfl rfl rfl rfl rfl (hM _) ?_
  rintro _ w ⟨rfl,hS'⟩
  replace hS := hS.plus hS'
  clear hS'
  rcases Bool.eq_false_or_eq_true (Zct q r) with hm | hm
  ·rw [hm]
   rw [if_pos hm] at htk
   repeat (first|refine Yd7 ?_|refine Yaf ?_|refine Ybd ?_|refine Ybg (fun _ _ hS _ => ?_)|refine Yes ?_|refine Yab ?_)
   have hnw := (hS.rd (List.mem_cons_self ..)).own_row
   refine Zaq (T := 3) (a := a2) (m := 1) rfl rfl rfl rfl rfl hS (by rw [List.length_map,Nat.mul_one]) hc2 hnw rfl (by simp [Value.oneCell']) (by omega) (by simp only [maxLen]; omega) (fun b' q'' w hS hq'' _ => ?_)
   repeat (first|refine Yd7 ?_|refine Yeq ?_|refine Yad ?_|refine Yef ?_)
   refine Zaf (z := (i,a2,c2)) (i + 1,b',q'') ⟨rfl,by dsimp only; rw [htk,List.length_append]; rfl,rfl,rfl,rfl,trivial⟩ ⟨hlt,by dsimp only; rw [htk,List.length_append]; exact hq'',?_⟩ (by dsimp only; omega)
   dsimp only
   rw [htk]
   have hS := hS.pick [0,2,2]
   rw [← Zw2] at hS
   exact hS
  ·rw [hm]
   rw [if_neg (by rw [hm]; decide),List.append_nil] at htk
   repeat (first|refine Yd7 ?_|refine Yaf ?_|refine Ybq ?_|refine Yaz ?_|refine Yad ?_|refine Ya6 ?_|refine Yaj ?_|refine Yed ?_)
   refine Zaf (z := (i,a2,c2)) (i + 1,a2,c2) ⟨rfl,by dsimp only; rw [htk]; rfl,rfl,rfl,rfl,trivial⟩ ⟨hlt,by dsimp only; rw [htk]; exact hc2,?_⟩ (by dsimp only; omega)
   dsimp only
   rw [htk]
   exact hS.took
 ·obtain rfl : i = l.length := by omega
  rw [List.take_length] at *
  repeat (first|refine Yd7 ?_|refine Yfd ?_|refine Yeg ?_|refine Yab ?_|refine Yb3 ?_|refine Ya7 ?_|refine Ya8 ?_|refine Yam ?_)
  exact ⟨a2,c2,rfl,hc2,hS.took⟩
end Cr
namespace Cr
open Go Go.Proofs
set_option maxRecDepth 100000
set_option maxHeartbeats 8000000
attribute [local irreducible] Calls

theorem Zz7 {w : World} {b : Nat} {T : TypeId} {s : List UInt8} (h : w.heap[b]? = some (.cells (bv s).toArray T (0,0))) : Rd w (bytes (some ⟨b,0,none⟩) s) :=
 ⟨Zcc b _,.inr ⟨b,0,(bv s).toArray,T,_,rfl,rfl,fun i v hv => by simpa using hv⟩,fun k o hk => by
  unfold Zcc at hk
  split at hk
  ·rename_i e
   cases hk
   rw [e]; exact h
  ·cases hk⟩

section
variable {c f tp : Nat} {b : Int} {T : Int → Option Nd} {X : List RowD}
theorem Z6f (rd fs : List Int) (l : List (List UInt8)) (hl7 : l.length ≤ 7) (h4 : ∀ s ∈ l,s.length ≤ 400) (tb x : Nat) (ra : Option Addr) (rc : Nat) (L : List Bs) (a : Option Addr) (M : List Bs) (mc : Nat) (W : World) (F : Nat → Prop) (hT : TreeRo W F f tp 10 b T) (hG : Lg W F) (hD : Gl W F rd fs) (htb : Ro W F (pts tb (tbC c logN)))
  (hB : Bss W F a M) (hM : M.length ≤ 1000) (hM4 : ∀ y ∈ M,y.s.length ≤ 400) (hTL : Zay L = l) (hBL : BsIn L X) (hrc : l.length ≤ rc) (hS : St W F [pts x (chnC l.length (Za5 rd fs l l.length) tb ra rc),own 35 1 ra rc (L.map Bs.val),chR c f b T (Nt (trV (Zbo rd fs l))) X] W) :
  Calls Tryz.prog 63 #[.pointer (some ⟨x,0,none⟩),.slice a M.length mc] W (Ret fun v w => ∃ (l' : List (List UInt8)) (ra' : Option Addr) (rc' : Nat) (L' : List Bs) (X' : List RowD) (k : Nat),l' = l ++ (Zay M).take k ∧ k = min M.length (7 - l.length) ∧ v = .tuple #[.int .i64 (k : Nat),.int .i64 (if l.length + M.length ≤ 7 then 0 else 6)] ∧ (∀ y ∈ X,y ∈ X') ∧ Zay L' = l' ∧ BsIn L' X' ∧ l'.length ≤ rc' ∧
   St W F [pts x (chnC l'.length (Za5 rd fs l' l'.length) tb ra' rc'),own 35 1 ra' rc' (L'.map Bs.val),chR c f b T (Nt (trV (Zbo rd fs l'))) X'] w) := by
 refine Zab Tryz.func63 rfl Tryz.ntmps63 rfl ?_
 repeat (first|refine Yd7 ?_|refine Yaf ?_|refine Yag ?_|refine Yau ?_|refine Ybs ?_|refine Yen ?_|refine Yab ?_)
 refine Zcb (α := Unit) (fun _ => [(0,.pointer (some ⟨x,0,none⟩)),(1,.slice a M.length mc)]) (fun _ w => St W F [pts x (chnC l.length (Za5 rd fs l l.length) tb ra rc),own 35 1 ra rc (L.map Bs.val),chR c f b T (Nt (trV (Zbo rd fs l))) X] w) ?_ ?_
 ·refine Zal (α := Nat) (fun i => [(0,.pointer (some ⟨x,0,none⟩)),(1,.slice a M.length mc),(14,.slice a M.length mc),(15,.int .i64 (M.length : Nat)),(16,.int .i64 (i : Nat))])
   (fun i w => i ≤ M.length ∧ St W F [pts x (chnC l.length (Za5 rd fs l l.length) tb ra rc),own 35 1 ra rc (L.map Bs.val),chR c f b T (Nt (trV (Zbo rd fs l))) X] w) (fun i => M.length - i) 0 ⟨rfl,rfl,rfl,rfl,rfl,trivial⟩ ⟨Nat.zero_le _,hS⟩ ?_
  clear hS
  rintro i w ⟨hi,hS⟩
  by_cases hlt : i < M.length
  ·have hx0 : M[i]? = some M[i] := List.getElem?_eq_getElem hlt
   generalize M[i] = y at hx0
   have hy4 := hM4 y (List.mem_of_getElem? hx0)
   have hr := hB.row
   have hx : (M.map Bs.val)[i]? = some (.slice y.a y.s.length y.c) := by simp [hx0,Bs.val]
   obtain ⟨ab,ao,rfl⟩ := (hr.rd hS).base (by intro e; rw [e] at hx; simp at hx)
   repeat (first|refine Yd7 ?_|(refine X_id ?_;first|refine Yaf ?_|refine Yag ?_|refine Yau ?_|refine Ya2 ?_|refine Ybt ?_|refine Ybb ?_|refine Yaz ?_|refine Yb1 ?_)|refine Yee ?_|refine Yef ?_)
   refine Zaf (i + 1) ⟨rfl,rfl,rfl,rfl,rfl,trivial⟩ ⟨hlt,hS⟩ (by omega)
  ·repeat (first|refine Yd7 ?_|refine Ya3 ?_|refine Yep ?_|refine Yed ?_)
   exact Zbn () ⟨rfl,rfl,trivial⟩ hS
 clear hS
 rintro ⟨⟩ w hS
 repeat (first|refine Yd7 ?_|refine Yaf ?_|refine Yau ?_|refine Yea ?_|refine Yab ?_)
 have hLl : L.length = l.length := by rw [← hTL]; simp [Zay]
 refine Zal (α := Nat × Option Addr × Nat × List Bs × List RowD) (fun z => [(0,.pointer (some ⟨x,0,none⟩)),(1,.slice a M.length mc),(24,.slice a M.length mc),(25,.int .i64 (M.length : Nat)),(26,.int .i64 (z.1 : Nat))])
  (fun z w => z.1 ≤ M.length ∧ l.length + z.1 ≤ 7 ∧ (∀ y ∈ X,y ∈ z.2.2.2.2) ∧ Zay z.2.2.2.1 = l ++ (Zay M).take z.1 ∧ BsIn z.2.2.2.1 z.2.2.2.2 ∧ l.length + z.1 ≤ z.2.2.1 ∧ z.2.2.2.1.length = l.length + z.1 ∧
   St W F [pts x (.cells (endX (l.length + z.1) (Za5 rd fs (l ++ (Zay M).take z.1) (l.length + z.1)) [.pointer (some ⟨tb,0,none⟩),.slice z.2.1 (l.length + z.1) z.2.2.1]).toArray 157 (0,0)),own 35 1 z.2.1 z.2.2.1 (z.2.2.2.1.map Bs.val),chR c f b T (Nt (trV (Zbo rd fs (l ++ (Zay M).take z.1)))) z.2.2.2.2] w)
  (fun z => M.length - z.1) (0,ra,rc,L,X) ⟨rfl,rfl,rfl,rfl,rfl,trivial⟩ ⟨Nat.zero_le _,hl7,fun _ h => h,by simp [hTL],hBL,hrc,hLl,by simpa using hS⟩ ?_
 clear hS
 rintro ⟨i,ra1,rc1,L1,X1⟩ w ⟨hi,hi7,hX1,hT1,hB1,hrc1,hL1,hS⟩
 simp only at hi hi7 hX1 hT1 hB1 hrc1 hL1 hS ⊢
 obtain ⟨li,hli⟩ : ∃ li,li = l ++ (Zay M).take i := ⟨_,rfl⟩
 obtain ⟨n,hn⟩ : ∃ n,n = l.length + i := ⟨_,rfl⟩
 have hlin : li.length = n := by rw [hli,hn]; simp [Zay,hi]
 have hli4 : ∀ s ∈ li,s.length ≤ 400 := fun s hs => by
  rw [hli] at hs
  rcases List.mem_append.1 hs with hs | hs
  ·exact h4 s hs
  ·obtain ⟨y,hy,rfl⟩ := List.mem_map.1 (List.mem_of_mem_take hs)
   exact hM4 y hy
 rw [← hli] at hT1 hS
 rw [← hn] at hi7 hrc1 hL1 hS
 obtain ⟨m,hm⟩ : ∃ m,m = Za5 rd fs li n := ⟨_,rfl⟩
 have hm32 : m.length = 32 := by rw [hm]; exact Ze9 _ _ _ _
 rw [← hm] at hS
 have ht := Zjb rd fs _ li rfl (by omega) hli4
 by_cases hlt : i < M.length
 ·have hx0 : M[i]? = some M[i] := List.getElem?_eq_getElem hlt
  have htk : (Zay M).take (i + 1) = (Zay M).take i ++ [M[i].s] := by
   have := List.take_succ_eq_append_getElem (l := Zay M) (i := i) (by simp [Zay,hlt])
   rw [this]; simp [Zay]
  generalize M[i] = y at hx0 htk
  have hym := List.mem_of_getElem? hx0
  have hy4 := hM4 y hym
  have hr := hB.row
  have hb := hB.all y hym
  have hx : (M.map Bs.val)[i]? = some (.slice y.a y.s.length y.c) := by simp [hx0,Bs.val]
  obtain ⟨ab,ao,rfl⟩ := (hr.rd hS).base (by intro e; rw [e] at hx; simp at hx)
  repeat (first|refine Yd7 ?_|refine Yfe ?_|refine Yeb ?_|refine Yab ?_)
  obtain ⟨d,hdg⟩ : ∃ d,d = digest rd fs [m,be8 (n : Nat),y.s] := ⟨_,rfl⟩
  have hd32 : d.length = 32 := by rw [hdg]; exact Zar _ _ _
  have hd32L : LenO (bv d) 32 := ⟨by rw [Zah]; exact hd32⟩
  refine Zqh (α := Nat) (fun bm => [(0,.pointer (some ⟨x,0,none⟩)),(1,.slice (some ⟨ab,ao,none⟩) M.length mc),(24,.slice (some ⟨ab,ao,none⟩) M.length mc),(25,.int .i64 (M.length : Nat)),(26,.int .i64 (i : Nat)),(8,.int .i64 (i : Nat)),(9,.slice y.a y.s.length y.c),(10,.pointer (some ⟨bm,0,none⟩))])
   (fun bm w => St W F [pts bm (.cells (bv d).toArray 79),pts x (.cells (endX n m [.pointer (some ⟨tb,0,none⟩),.slice ra1 n rc1]).toArray 157 (0,0)),own 35 1 ra1 rc1 (L1.map Bs.val),chR c f b T (Nt (trV (Zbo rd fs li))) X1] w) ?_ ?_
  ·skip
   refine Zam (.s 0 (.s 1 (.s 2 (.s 3 (.s 4 (.s 5 (.s 6 (.s 7 (.s 8 (.s 9 (.s 10 (.h 11 (.h 12 (.h 13 .nil .no) .no) (.h 12 (.h 11 (.h 13 .nil .no) .no) .no))))))))))))) mixed (by kernel_rfl) rfl ?_
   have hS := hS.drew
   have hqE := (hS.rd (r := pts x (.cells (endX n m [.pointer (some ⟨tb,0,none⟩),.slice ra1 n rc1]).toArray 157 (0,0))) (List.mem_cons_self ..)).pts
   repeat (first|(refine Zae ?_;first|refine Ya1 ?_|refine Ybp ?_|refine Ybe ?_))
   refine Zbc (fun w' => Zdm w' _ _ _) rfl rfl (Zhr hm32 hqE) (fun _ hc => Zbs rfl rfl hc) rfl rfl ?_
   repeat' (first|refine Zi2 ?_ ?_|refine Yar (fun _ _ hS _ => ?_)|(refine Zae ?_;first|refine Ya1 ?_|refine Ybp ?_|refine Ybe ?_|refine Ybl ?_|refine Yas ?_)|(refine Zac ?_;first|refine Ycj ?_))
   ·refine Zad 113 rfl rfl rfl rfl rfl hS (Zyx m (n : Nat) y.a y.c y.s rd fs _ hm32 (hD.mono fun r hr => (hr.rd hS).ro) (hb.rd hS).ro (by omega)) ?_
    rintro _ w rfl hS
    rw [← hdg]
    repeat (first|refine Yao (fun _ hS _ => ?_)|refine Yar (fun _ _ hS _ => ?_)|(refine Zae ?_;first|refine Yax ?_|refine Yas ?_)|(refine Zac ?_;first|refine Ycj ?_))
    exact Zbn _ ⟨rfl,rfl,rfl,rfl,rfl,rfl,rfl,rfl,trivial⟩ hS.took
   ·refine Zad 113 rfl rfl rfl rfl rfl hS (Zyx m (n : Nat) y.a y.c y.s rd fs _ hm32 (hD.mono fun r hr => (hr.rd hS).ro) (hb.rd hS).ro (by omega)) ?_
    rintro _ w rfl hS
    rw [← hdg]
    repeat (first|refine Yao (fun _ hS _ => ?_)|(refine Zae ?_;first|refine Yax ?_|refine Yas ?_)|(refine Zac ?_;first|refine Ycj ?_))
    exact Zbn _ ⟨rfl,rfl,rfl,rfl,rfl,rfl,rfl,rfl,trivial⟩ hS.took
  clear hS
  rintro bm w hS
  repeat (first|refine Yae ?_)
  refine Zam (.s 0 (.s 1 (.s 2 (.s 3 (.s 4 (.s 5 (.s 6 (.s 7 (.s 8 (.s 10 (.s 11 (.s 13 (.s 14 (.h 9 (.h 12 (.h 15 (.h 16 (.h 17 (.h 18 (.s 19 .nil) .no) .no) .no) .no) .no) .no)))))))))))))) mixed (by kernel_rfl) rfl ?_
  have hS := hS.drew
  repeat (first|(refine Zae ?_;first|refine Ya1 ?_|refine Ybp ?_|refine Ybe ?_))
  refine Zbc (fun w' => w'.cell? _ = some _) rfl rfl (Zpn hm32 hS.has (j := 0) rfl) (fun _ hc => Zav rfl rfl hc) rfl rfl ?_
  repeat (first|(refine Zae ?_;first|refine Ya1 ?_|refine Ybp ?_|refine Ybe ?_|refine Yc6 ?_|refine Ybl ?_|refine Yd3 ?_))
  refine Zbc (fun w' => Rd w' (bytes _ _)) rfl rfl (Zz7 hS.has) (fun _ h => Zb0 rfl rfl h hd32) rfl rfl ?_
  repeat (first|(refine Zae ?_;first|refine Yas ?_))
  refine Zaa _ rfl rfl rfl rfl rfl (Z0l n (by omega) _ (hG.at_ hS)) ?_
  rintro _ w ⟨rfl,hS'⟩
  replace hS := hS.plus hS'
  clear hS'
  repeat (first|(refine Zae ?_;first|refine Yas ?_)|(refine Zac ?_;first|refine Ycj ?_))
  refine Zaa _ rfl rfl rfl rfl rfl (Zli y.s _) ?_
  rintro _ w ⟨u1,v1,Y1,rfl,hMa,hS'⟩
  replace hS := hS.plus hS'
  clear hS'
  repeat (first|(refine Zae ?_;first|refine Yas ?_)|(refine Zac ?_;first|refine Ycj ?_))
  refine Zaa _ rfl rfl rfl rfl rfl (Zli d _) ?_
  rintro _ w ⟨u2,v2,Y2,rfl,hMb,hS'⟩
  replace hS := hS.plus hS'
  clear hS'
  repeat (first|refine Ybg (fun _ _ hS _ => ?_)|(refine Zae ?_;first|refine Yas ?_)|(refine Zac ?_;first|refine Ycj ?_))
  rename_i pq _ _
  have hMs : Mrds (RoR _ noF) [txM y.s,txM d] [[.int .i64 1,.int .i64 0,.slice u1 y.s.length v1,.slice none 0 0],[.int .i64 1,.int .i64 0,.slice u2 d.length v2,.slice none 0 0]] :=
   (Mrds.nil.snoc (hMa.mono fun _ _ h => (h.rd (hS.rd (r := bag Y1) (by simp))).ro)).snoc (hMb.mono fun _ _ h => (h.rd (hS.rd (r := bag Y2) (by simp))).ro)
  refine Zaa _ rfl rfl rfl rfl rfl (of_M (some ⟨pq,0,none⟩) [txM y.s,txM d] 2 [[.int .i64 1,.int .i64 0,.slice u1 y.s.length v1,.slice none 0 0],[.int .i64 1,.int .i64 0,.slice u2 d.length v2,.slice none 0 0]] _ (hS.rd (List.mem_cons_self ..)).own_row.ro hMs (by simp only [wMs,Zi4,List.length_nil]; omega)) ?_
  rintro _ w ⟨b3,q3,rows',Y3,rfl,hq3,hMr,hS'⟩
  replace hS := hS.plus hS'
  clear hS' hMs
  have hcp : [txM y.s,txM d].map (Zdq 8) = [txM y.s,txM d] := by
   rw [List.map_cons,List.map_cons,List.map_nil,Znm 8 _ (Zdr 8 _),Znm 8 _ (Zdr 8 _)]
  rw [hcp] at hMr
  repeat (first|(refine Zae ?_;first|refine Yas ?_)|(refine Zac ?_;first|refine Ycj ?_))
  have hS : St W F [chR c f b T (Nt (trV (Zbo rd fs li))) X1,pts x (.cells (endX n m [.pointer (some ⟨tb,0,none⟩),.slice ra1 n rc1]).toArray 157 (0,0)),own 35 1 ra1 rc1 (L1.map Bs.val),own 38 4 b3 q3 rows'.flatten,bag Y3] _ := hS.took
  have hlen5 := Zsd hy4 hd32
  obtain ⟨F2,hcc,hr1,hw,hbk⟩ := hS.call [true]
  have hv : Mrd (RoR _ F2) (recV y.s d) [.int .i64 2,.int .i64 0,.slice none 0 0,.slice b3 2 q3] := .mk' rfl rfl (Nat.zero_le _) (Zfi _ _ _) (hr1 (own 38 4 b3 q3 rows'.flatten) (by simp)).own_row hMr.1 (fun j z cs h1 h2 => (hMr.2 j z cs h1 h2).mono fun _ _ h => h.ro (hr1 (bag Y3) (by simp)))
  refine Zaa _ rfl rfl rfl rfl rfl (Z5n ht tb logN (keyD n) (recV y.s d) _ _ _ (hT.mono hw) (hG.mono hw) (hw _ htb) hv (by rw [Z3i]; omega) (Zse (by omega) (by omega)) (by omega) hcc) ?_
  rintro _ w ⟨rfl,X2,hX2,hS⟩
  replace hS := hbk hS
  clear hbk hw hcc hr1 hv
  have hput := Zr4 (vs := Zbo rd fs li) (v := recV y.s d) (by rw [Zcm]; omega) (Zm3 _ _) hlen5
  rw [Zcm,hlin] at hput
  rw [hput] at hS ⊢
  by_cases h7 : n < 7
  ·rw [if_pos h7] at hS ⊢
   have hsn : Zbo rd fs li ++ [recV y.s d] = Zbo rd fs (li ++ [y.s]) := by rw [Zlg,hlin,← hm,← hdg]
   rw [hsn] at hS
   repeat (first|refine Yd7 ?_|refine Yaf ?_|refine Yat ?_|refine Yan ?_|refine Yba ?_|refine Yek ?_|refine Yab ?_|(refine Zae ?_;first|refine Ye4 ?_)|(refine Zac ?_;first|refine Ycj ?_))
   have hS : St W F [pts x (.cells (endX n m [.pointer (some ⟨tb,0,none⟩),.slice ra1 n rc1]).toArray 157 (0,0)),own 35 1 ra1 rc1 (L1.map Bs.val),chR c f b T (Nt (trV (Zbo rd fs (li ++ [y.s])))) X2] _ := hS.took
   obtain ⟨_,hcc,_,hw,hbk⟩ := hS.call [true]
   refine Zaa _ rfl rfl rfl rfl rfl (Z0k x n m _ _ y.a y.c y.s rd fs _ _ hm32 (by omega) (hD.mono hw) (hw _ hb) (by omega) hcc) ?_
   rintro _ w ⟨rfl,hS⟩
   replace hS := hbk hS
   clear hbk hw hcc
   rw [← hdg] at hS ⊢
   repeat (first|refine Yac ?_|refine Yab ?_)
   refine Zam (.s 0 (.s 1 (.s 2 (.s 3 (.s 4 (.s 5 (.h 6 (.h 7 (.h 8 (.s 9 (.s 10 (.h 11 .nil .no))) .no) .no) .no))))))) mixed (by kernel_rfl) rfl ?_
   have hS := hS.drew
   repeat (first|(refine Zae ?_;first|refine Ya1 ?_|refine Ybp ?_|refine Ybe ?_|refine Ybl ?_|refine Yas ?_))
   refine Zaa _ rfl rfl rfl rfl rfl (Zed y.a y.s.length y.c y.s _ (hb.rd hS) rfl (by omega)) ?_
   rintro _ w ⟨a',q',rfl,_,hq',hS'⟩
   replace hS := hS.plus hS'
   clear hS'
   repeat (first|refine Ybg (fun _ _ hS _ => ?_)|(refine Zae ?_;first|refine Yas ?_)|(refine Zac ?_;first|refine Ycj ?_))
   have hnw := (hS.rd (List.mem_cons_self ..)).own_row
   refine Zaq rfl rfl rfl rfl rfl hS (by rw [List.length_map,hL1,Nat.mul_one]) hrc1 hnw rfl (by simp [Value.oneCell']) (by omega) (by simp only [maxLen]; omega) (fun b' q'' w hS hq'' _ => ?_)
   repeat (first|refine Yd7 ?_|refine Yec ?_|refine Yao (fun _ hS _ => ?_)|refine Yad ?_|refine Yef ?_|(refine Zae ?_;first|refine Yax ?_|refine Ybp ?_|refine Ybe ?_|refine Yas ?_)|(refine Zac ?_;first|refine Ycj ?_))
   have hS : St W F [own 5 1 a' q' (bv y.s),chR c f b T (Nt (trV (Zbo rd fs (li ++ [y.s])))) X2,pts x (.cells (endX (n + 1) d [.pointer (some ⟨tb,0,none⟩),.slice b' (n + 1) q'']).toArray 157 (0,0)),own 35 1 b' q'' (L1.map Bs.val ++ [.slice a' y.s.length q'])] _ := hS.took
   have hS := (hS.toBag (a := a') (cs := bv y.s) fun _ h => own.row h).chAdd
   have hl1 : l ++ (Zay M).take (i + 1) = li ++ [y.s] := by rw [htk,← List.append_assoc,← hli]
   have hnx : Za5 rd fs (li ++ [y.s]) (n + 1) = d := by
    show digest rd fs [Za5 rd fs (li ++ [y.s]) n,be8 (n : Nat),(li ++ [y.s]).getD n []] = d
    rw [Zge rd fs li [y.s] (by omega),← hm,hdg,← hlin]
    simp
   refine Zaf (z := (i,ra1,rc1,L1,X1)) (i + 1,b',q'',L1 ++ [⟨a',q',y.s⟩],[(a',bv y.s)] ++ X2) ⟨rfl,rfl,rfl,rfl,rfl,trivial⟩ ⟨hlt,by dsimp only; omega,fun z hz => List.mem_append_right _ (hX2 z (hX1 z hz)),?_,hB1.snoc (fun z hz => List.mem_append_right _ (hX2 z hz)) (List.mem_append_left _ (List.mem_cons_self ..)) hq',by dsimp only; omega,by rw [List.length_append,hL1,hn]; rfl,?_⟩ (by dsimp only; omega)
   ·dsimp only
    rw [hl1,← hT1]
    simp [Zay]
   ·dsimp only
    rw [hl1,show l.length + (i + 1) = n + 1 by omega,hnx,List.map_append,show List.map Bs.val [(⟨a',q',y.s⟩ : Bs)] = [Value.slice a' y.s.length q'] from rfl]
    exact hS.took
  ·rw [if_neg h7] at hS ⊢
   have hki : i = 7 - l.length := by omega
   repeat (first|refine Yd7 ?_|refine Yaf ?_|refine Yag ?_|refine Ybn ?_|refine Yei ?_|refine Yff ?_|(refine Zae ?_;first|refine Ye4 ?_)|(refine Zac ?_;first|refine Ycj ?_))
   refine ⟨li,ra1,rc1,L1,X2,i,hli,by omega,by rw [if_neg (by omega)],fun z hz => hX2 z (hX1 z hz),hT1,⟨fun z hz => hX2 _ (hB1.inn z hz),hB1.cap⟩,by omega,?_⟩
   rw [hlin,← hm]
   exact hS.took
 ·have hiz : i = M.length := by omega
  repeat (first|refine Yd7 ?_|refine Yaf ?_|refine Yag ?_|refine Yau ?_|refine Ya3 ?_|refine Yeg ?_|refine Yfi ?_)
  subst hiz
  refine ⟨li,ra1,rc1,L1,X1,M.length,hli,by omega,by rw [if_pos (by omega)],hX1,hT1,hB1,by omega,?_⟩
  rw [hlin,← hm]
  exact hS
end
end Cr
namespace Cr
open Go Go.Proofs
set_option maxRecDepth 100000
set_option maxHeartbeats 16000000
attribute [local irreducible] Calls

section
variable {c f tp : Nat} {b : Int} {T : Int → Option Nd}
theorem Z42 (rd fs : List Int) (ax x tb : Nat) (z : AuZ) (hz : z.Ok) (a : Option Addr) (M : List Rec) (mc : Nat) (hmc : M.length ≤ mc) (h7 : z.A.length + M.length ≤ 7) (W : World) (F : Nat → Prop) (hT : TreeRo W F f tp 10 b T) (hG : Lg W F) (hD : Gl W F rd fs) (hSp : Sp W F) (htb : Ro W F (pts tb (tbC c logN))) (hM : Ro W F (row a (Zdo M))) (hS : St W F (z.res rd fs ax x tb c f b T) W) :
  Calls Tryz.prog 20 #[.pointer (some ⟨ax,0,none⟩),.slice a M.length mc] W (Ret fun v w =>
   (badR M ≠ 0 ∧ v = .tuple #[.int .i64 0,.int .i64 (badR M : Nat)] ∧ St W F (z.res rd fs ax x tb c f b T) w) ∨
   (badR M = 0 ∧ v = .tuple #[.int .i64 (M.length : Nat),.int .i64 0] ∧ ∃ z' : AuZ,z'.Ok ∧ z'.A = z.A ++ M ∧ (∀ y ∈ z.X,y ∈ z'.X) ∧ St W F (z'.res rd fs ax x tb c f b T) w)) := by
 obtain ⟨A,la,lc,ra,rc,L,X⟩ := z
 obtain ⟨htL,hbL,hzA,hz7,hrc,hlc⟩ := hz
 simp only at htL hbL hzA hz7 hrc hlc h7
 simp only [AuZ.res] at hS
 refine Zab Tryz.func20 rfl Tryz.ntmps20 rfl ?_
 repeat (first|refine Yd7 ?_|refine Yaf ?_|refine Yag ?_|refine Yau ?_|refine Ybs ?_|refine Yen ?_|refine Yab ?_)
 have hS := (hS.bagNil).own_none 35 1 none
 refine Zal (α := Nat × Option Addr × Nat × List Bs × List RowD) (fun y => [(0,.pointer (some ⟨ax,0,none⟩)),(1,.slice a M.length mc),(6,.slice y.2.1 y.1 y.2.2.1),(15,.slice a M.length mc),(16,.int .i64 (M.length : Nat)),(17,.int .i64 (y.1 : Nat))])
  (fun y w => y.1 ≤ M.length ∧ y.1 ≤ y.2.2.1 ∧ Zay y.2.2.2.1 = Zdc (M.take y.1) ∧ BsIn y.2.2.2.1 y.2.2.2.2 ∧ (∀ r ∈ M.take y.1,rchk r = 0) ∧ St W F [own 35 1 y.2.1 y.2.2.1 (y.2.2.2.1.map Bs.val),bag y.2.2.2.2,pts ax (audC x la A.length lc),own 62 5 la lc (Zdo A),pts x (chnC (Zdc A).length (Za5 rd fs (Zdc A) (Zdc A).length) tb ra rc),own 35 1 ra rc (L.map Bs.val),chR c f b T (Nt (trV (Zbo rd fs (Zdc A)))) X] w)
  (fun y => M.length - y.1) (0,none,0,[],[]) ⟨rfl,rfl,rfl,rfl,rfl,rfl,trivial⟩ ⟨Nat.zero_le _,Nat.le_refl _,rfl,⟨fun _ h => (List.not_mem_nil h).elim,fun _ h => (List.not_mem_nil h).elim⟩,fun _ h => (List.not_mem_nil h).elim,hS⟩ ?_
 clear hS
 rintro ⟨i,a1,c1,L1,Y⟩ w ⟨hi,hc1,hT1,hB1,hok1,hS⟩
 simp only at hi hc1 hT1 hB1 hok1 hS ⊢
 have hL1 : L1.length = i := by
  have := congrArg List.length hT1
  rw [Zhs,List.length_take] at this
  simp [Zay] at this; omega
 by_cases hlt : i < M.length
 ·have hx0 : M[i]? = some M[i] := List.getElem?_eq_getElem hlt
  have htk : M.take (i + 1) = M.take i ++ [M[i]] := List.take_succ_eq_append_getElem hlt
  have hdr : M.drop i = M[i] :: M.drop (i + 1) := List.drop_eq_getElem_cons hlt
  generalize M[i] = r at hx0 htk hdr
  have hxs := Zhc hx0
  have hr := hM
  obtain ⟨ab,ao,rfl⟩ := (hr.rd hS).base (by intro e; rw [e] at hxs; simp at hxs)
  by_cases hok : rchk r = 0
  ·repeat (first|refine Yd7 ?_|(refine X_id ?_;first|refine Ya2 ?_|refine Ybb ?_|refine Ybf ?_|refine Ybr ?_|refine Yao (fun _ hS _ => ?_)|refine Yar (fun _ _ hS _ => ?_))|refine Yeb ?_|refine Yab ?_)
   refine Zaa _ rfl rfl rfl rfl rfl (Ztg r _ (hG.at_ hS) (hSp.at_ hS) hok) ?_
   rintro _ w ⟨b1,q1,rfl,hq1,hS'⟩
   replace hS := hS.plus hS'
   clear hS'
   have hel := Zm4 hok
   repeat (first|refine Yd7 ?_|refine Yfk ?_|refine Ybg (fun _ _ hS _ => ?_)|refine Yek ?_|refine Yab ?_)
   have hnw := (hS.rd (List.mem_cons_self ..)).own_row
   refine Zaq (T := 35) (a := a1) (m := 1) rfl rfl rfl rfl rfl hS (by rw [List.length_map,hL1,Nat.mul_one]) hc1 hnw rfl (by simp [Value.oneCell']) (by omega) (by simp only [maxLen]; omega) (fun b' q'' w hS hq'' _ => ?_)
   repeat (first|refine Yd7 ?_|refine Yeq ?_|refine Yad ?_|refine Yef ?_)
   have hS : St W F [own 5 1 b1 q1 (bv (encM (recM r))),bag Y,own 35 1 b' q'' (L1.map Bs.val ++ [.slice b1 (encM (recM r)).length q1]),pts ax (audC x la A.length lc),own 62 5 la lc (Zdo A),pts x (chnC (Zdc A).length (Za5 rd fs (Zdc A) (Zdc A).length) tb ra rc),own 35 1 ra rc (L.map Bs.val),chR c f b T (Nt (trV (Zbo rd fs (Zdc A)))) X] _ := hS.took
   have hS := hS.bagAdd (a := b1) (cs := bv (encM (recM r))) fun _ h => h.row
   refine Zaf (z := (i,a1,c1,L1,Y)) (i + 1,b',q'',L1 ++ [⟨b1,q1,encM (recM r)⟩],(b1,bv (encM (recM r))) :: Y) ⟨rfl,rfl,rfl,rfl,rfl,rfl,trivial⟩ ⟨hlt,hq'',?_,⟨fun u hu => ?_,fun u hu => ?_⟩,fun u hu => ?_,?_⟩ (by dsimp only; omega)
   ·dsimp only
    rw [htk,Zpo,← hT1]
    simp [Zay,Zdc]
   ·rcases List.mem_append.1 hu with hu | hu
    ·exact List.mem_cons_of_mem _ (hB1.inn u hu)
    ·rw [List.mem_singleton] at hu; rw [hu]; exact List.mem_cons_self ..
   ·rcases List.mem_append.1 hu with hu | hu
    ·exact hB1.cap u hu
    ·rw [List.mem_singleton] at hu; rw [hu]; exact hq1
   ·rw [htk] at hu
    rcases List.mem_append.1 hu with hu | hu
    ·exact hok1 u hu
    ·rw [List.mem_singleton] at hu; rw [hu]; exact hok
   ·dsimp only
    rw [show (L1 ++ [(⟨b1,q1,encM (recM r)⟩ : Bs)]).map Bs.val = L1.map Bs.val ++ [.slice b1 (encM (recM r)).length q1] by rw [List.map_append]; rfl]
    exact hS.took
  ·have hbd : badR M = rchk r := by
    rw [← List.take_append_drop i M,Zzu hok1,hdr,badR,if_neg hok]
   rw [hbd]
   have hE := fun W h => Zrn r W h hok
   generalize rchk r = n at hE hok
   repeat (first|refine Yd7 ?_|(refine X_id ?_;first|refine Ya2 ?_|refine Ybb ?_|refine Ybf ?_|refine Ybr ?_|refine Yao (fun _ hS _ => ?_)|refine Yar (fun _ _ hS _ => ?_))|refine Yeb ?_|refine Yab ?_)
   refine Zaa _ rfl rfl rfl rfl rfl (hE _ (hSp.at_ hS)) ?_
   rintro _ w ⟨rfl,hS'⟩
   replace hS := hS.plus hS'
   clear hS'
   repeat (first|refine Yd7 ?_|refine Yfg ?_|refine Yei ?_|refine Yff ?_)
   exact .inl ⟨hok,rfl,hS.took⟩
 ·obtain rfl : i = M.length := by omega
  rw [List.take_length] at hT1 hok1
  have hel := Zhs A
  have hs4 : ∀ y ∈ L1,y.s.length ≤ 400 := fun y hy => Zkm hok1 y.s (by rw [← hT1]; exact List.mem_map_of_mem hy)
  rw [← hL1]
  repeat (first|refine Yd7 ?_|(refine X_id ?_;first|refine Yaf ?_|refine Yat ?_|refine Yan ?_|refine Ya3 ?_|refine Yap ?_)|refine Yep ?_|refine Yed ?_)
  obtain ⟨_,hcc,hr1,hw,hbk⟩ := hS.call [false,false,false,false,true,true,true]
  refine Zaa _ rfl rfl rfl rfl rfl (Z6f rd fs (Zdc A) (by omega) (Zkm hzA) tb x ra rc L a1 L1 c1 _ _ (hT.mono hw) (hG.mono hw) (hD.mono hw) (hw _ htb) (hB1.bss (hr1 (own 35 1 a1 c1 (L1.map Bs.val)) (by simp)) (hr1 (bag Y) (by simp))) (by omega) hs4 htL hbL (by omega) hcc) ?_
  rintro _ w ⟨l',ra',rc',L',X',k,hl',hk,rfl,hX',hTL',hBL',hrc',hS⟩
  replace hS := hbk hS
  clear hbk hw hcc hr1
  have hkl : k = L1.length := by rw [hk,hel]; omega
  rw [if_pos (show (Zdc A).length + L1.length ≤ 7 by omega),hkl]
  rw [hkl,List.take_of_length_le (by simp [Zay]),hT1,← Zpo] at hl'
  subst hl'
  repeat (first|refine Yd7 ?_|refine Yfh ?_|refine Yae ?_|refine Yab ?_)
  refine Zam (.s 0 (.s 1 (.s 2 (.s 3 (.s 4 (.s 5 (.s 6 (.s 7 (.h 8 (.s 9 (.s 10 (.h 11 .nil .no))) .no))))))))) mixed (by kernel_rfl) rfl ?_
  have hS := hS.drew
  repeat (first|(refine Zae ?_;first|refine Ya1 ?_|refine Ybp ?_|refine Ybe ?_|refine Ybl ?_))
  refine Zak rfl rfl (fun _ => Zap (l := 0) (h := L1.length) rfl rfl rfl rfl (.inr ⟨_,_,rfl,by omega,by omega,by omega⟩) (.inl ⟨rfl,rfl⟩)) rfl rfl ?_
  rw [sub_zero,Nat.sub_zero,Nat.sub_zero]
  repeat (first|(refine Zae ?_;first|refine Yas ?_))
  refine Zaq (T := 62) (a := la) (m := L1.length) rfl rfl rfl rfl rfl hS (Zfr A) hlc (hM.rd hS) (by rw [Zfr,hL1]) (Zow M) (by omega) (by simp only [maxLen]; omega) (fun la' lc' w hS hlc' _ => ?_)
  repeat (first|refine Yd7 ?_|refine Yel ?_|refine Yao (fun _ hS _ => ?_)|refine Yey ?_|refine Yet ?_|(refine Zae ?_;first|refine Yax ?_|refine Ybp ?_|refine Ybe ?_|refine Yas ?_)|(refine Zac ?_;first|refine Yaw ?_))
  refine .inr ⟨Ztc hok1,rfl,⟨A ++ M,la',lc',ra',rc',L',X'⟩,⟨hTL',hBL',fun u hu => (List.mem_append.1 hu).elim (hzA u) (hok1 u),by simp only [List.length_append]; omega,by rw [Zhs] at hrc'; exact hrc',by simp only [List.length_append]; omega⟩,rfl,hX',?_⟩
  rw [← Zvk] at hS
  simp only [AuZ.res]
  rw [List.length_append,← hL1]
  exact hS.took
end
end Cr
namespace Cr
open Go Go.Proofs
set_option maxRecDepth 100000
set_option maxHeartbeats 8000000
attribute [local irreducible] Calls

theorem Zzh (rd fs : List Int) (W : World) (hG : Gl W noF rd fs) (hL : Lg W noF) : Calls Tryz.prog 19 #[] W (Ret fun v w => ∃ (lp tp p f c : Nat),v = .pointer (some ⟨c,0,none⟩) ∧
  St W noF [chR c f 0 (atT (Zdi 10)) (Nt t0) [],pts f (.cells (List.toArray [.pointer (some ⟨tp,0,none⟩),.int .i64 0]) 100 (0,0)),itab rd fs tp lp p 60 2 10 40 (Zdi 10)] w) := by
 have hS := St.start W
 refine Zab Tryz.func19 rfl Tryz.ntmps19 rfl ?_
 repeat (first|refine Yd7 ?_|refine Yag ?_|refine Yd8 ?_|refine Yab ?_)
 refine Zaa _ rfl rfl rfl rfl rfl (Z15 rd fs _ (hG.mono fun _ hr => (hr.rd hS).ro) (hL.at_ hS)) ?_
 rintro _ w ⟨q,lp,tp,f,r,rfl,hS'⟩
 replace hS := hS.plus hS'
 clear hS'
 repeat (first|refine Yd7 ?_|refine Yfh ?_|refine Yd8 ?_|refine Yab ?_)
 refine Zaa _ rfl rfl rfl rfl rfl (Z04 (T := atT (Zdi 10)) _ (hS.rd (r := pts f (.cells (List.toArray [.pointer (some ⟨tp,0,none⟩),.int .i64 0]) 100 (0,0))) (by simp))) ?_
 rintro _ w ⟨c,rfl,hS'⟩
 replace hS := hS.plus hS'
 clear hS'
 repeat (first|refine Yd7 ?_|refine Yag ?_|refine Yah ?_|refine Yd9 ?_)
 have hN : Nt t0 = atT (Zdi 10) := funext Z6m
 rw [hN]
 exact ⟨lp,tp,q,f,c,rfl,hS.took⟩
theorem Z2k (a : Option Addr) (q : Nat) (W : World) : Calls Tryz.prog 60 #[.slice a 0 q] W (Ret fun v w => v = .tuple #[.slice none 0 0,.int .i64 0] ∧ St W noF [] w) := by
 have hS := St.start W
 refine Zab Tryz.func60 rfl Tryz.ntmps60 rfl ?_
 repeat (first|refine Yd7 ?_|refine Yer ?_|refine Yea ?_|refine Yab ?_)
 refine Zal (α := Unit) (fun _ => [(4,.slice none 0 0),(9,.slice a 0 q),(10,.int .i64 (0 : Nat)),(11,.int .i64 (0 : Nat))]) (fun _ w => St W noF [] w) (fun _ => 0) () ⟨rfl,rfl,rfl,rfl,trivial⟩ hS ?_
 clear hS
 rintro ⟨⟩ w hS
 repeat (first|refine Yd7 ?_|refine Yfd ?_|refine Yeg ?_|refine Yfi ?_)
 exact ⟨rfl,hS⟩
section
variable {c f tp : Nat} {b : Int} {T : Int → Option Nd} {X : List RowD}
theorem Z6h (rd fs : List Int) (W : World) (F : Nat → Prop) (hT : TreeRo W F f tp 10 b T) (hG : Lg W F) (hD : Gl W F rd fs) (hS : St W F [chR c f b T (Nt (trV (Zbo rd fs []))) X] W) :
  Calls Tryz.prog 18 #[.pointer (some ⟨c,0,none⟩)] W (Ret fun v w => ∃ (ax x tb : Nat) (z : AuZ),v = .tuple #[.pointer (some ⟨ax,0,none⟩),.int .i64 0] ∧ z.A = [] ∧ z.Ok ∧ (∀ y ∈ X,y ∈ z.X) ∧ St W F (pts tb (tbC c logN) :: z.res rd fs ax x tb c f b T) w) := by
 refine Zab Tryz.func18 rfl Tryz.ntmps18 rfl ?_
 repeat (first|refine Yd7 ?_|refine Yel ?_|refine Yd8 ?_|refine Yab ?_)
 refine Zaa _ rfl rfl rfl rfl rfl (tof_ c logN Z1v _) ?_
 rintro _ w ⟨tb,rfl,hS'⟩
 replace hS := hS.plus hS'
 clear hS'
 have hS : St W F [pts tb (tbC c logN),chR c f b T (Nt (trV (Zbo rd fs []))) X] w := hS.took
 repeat (first|refine Yd7 ?_|refine Yfk ?_|refine Yek ?_|refine Yab ?_)
 obtain ⟨_,hcc,hr1,hw,hbk⟩ := hS.call [false,true]
 refine Zaa _ rfl rfl rfl rfl rfl (Z4m rd fs [] (by simp) (by simp) tb _ _ (hT.mono hw) (hG.mono hw) (hD.mono hw) (hr1 (pts tb (tbC c logN)) (by simp)) hcc) ?_
 rintro _ w0 ⟨x,ra,rc,L,X0,rfl,hX0,hTL,hBL,hrc,hS⟩
 replace hS := hbk hS
 clear hbk hw hcc hr1
 obtain rfl : L = [] := by
  have := congrArg List.length hTL
  exact List.eq_nil_of_length_eq_zero (by simpa [Zay] using this)
 have hm : (Za5 rd fs [] 0).length = 32 := Ze9 _ _ _ _
 repeat (first|refine Yd7 ?_|refine Yfk ?_|refine Yek ?_|refine Yab ?_)
 refine Zaa _ rfl rfl rfl rfl rfl (Z4v x (Za5 rd fs [] 0) hm tb ra rc [] _ (by simp) (by simp) (hS.rd (r := pts x (chnC 0 (Za5 rd fs [] 0) tb ra rc)) (by simp)).ro ((hBL.bss (hS.rd (r := own 35 1 ra rc (List.map Bs.val [])) (by simp)).ro (hS.rd (r := chR c f b T (Nt (trV (Zbo rd fs []))) X0) (by simp)).ro.ch))) ?_
 rintro _ w ⟨a1,q1,M1,Y1,rfl,_,_,_,hS'⟩
 replace hS := hS.plus hS'
 clear hS'
 repeat (first|refine Yaa ?_)
 refine Zaa _ rfl rfl rfl rfl rfl (Z2k a1 q1 _) ?_
 rintro _ w ⟨rfl,hS'⟩
 replace hS := hS.plus hS'
 clear hS'
 repeat (first|refine Yd7 ?_|(refine X_id ?_;first|refine Yaf ?_|refine Yag ?_|refine Ya0 ?_|refine Yba ?_|refine Ybm ?_|refine Ya4 (fun _ _ hS _ => ?_))|refine Ye8 ?_|refine Yet ?_)
 rename_i ax _ _
 refine ⟨ax,x,tb,⟨[],none,0,ra,rc,[],X0⟩,rfl,rfl,⟨rfl,hBL,by simp,by simp,Nat.zero_le _,Nat.le_refl _⟩,hX0,?_⟩
 have hS := hS.own_none 62 5 none
 have hS : St W F [pts tb (tbC c logN),pts ax (audC x none 0 0),own 62 5 none 0 [],pts x (chnC 0 (Za5 rd fs [] 0) tb ra rc),own 35 1 ra rc (List.map Bs.val []),chR c f b T (Nt (trV (Zbo rd fs []))) X0] _ := hS.took
 exact hS
end
end Cr
namespace Cr
open Go
theorem Z2r {P : Program} {o : Oper} {σ : Env} {w : World} {x y : Operand} {ts : Array TypeId} {m n T : Nat} (ho : o.op = .call { callee := .builtin .min,args := #[x,y],argTypes := ts }) (hx : ev σ x = some (.int .i64 (m : Nat))) (hy : ev σ y = some (.int .i64 (n : Nat))) (hT : min m n = T) : Yl P o σ w (.int .i64 (T : Nat)) := ⟨fun N ds a ha => by
 simp [execOp,ho,resolve,invoke,builtin,ha.eval hx,ha.eval hy,Builtin.min_,Builtin.min2]
 rw [← hT]
 split <;> omega⟩
end Cr
namespace Cr
open Go Go.Proofs
end Cr
namespace Cr
open Go Go.Proofs
set_option maxRecDepth 100000
set_option maxHeartbeats 8000000
attribute [local irreducible] Calls

theorem Zwr (s : List UInt8) (W : World) : Calls Tryz.prog 64 #[.string (str s)] W (Ret fun v w => v = .string (str (s.take 40)) ∧ St W noF [] w) := by
 obtain ⟨T,hT⟩ : ∃ T,min s.length 40 = T := ⟨_,rfl⟩
 have hz := Zci s
 have hS := St.start W
 refine Zab Tryz.func64 rfl Tryz.ntmps64 rfl ?_
 repeat (first|refine Yd7 ?_|refine Yaf ?_|refine Yag ?_|refine Ych ?_|refine Yd8 ?_|refine Yab ?_)
 refine X_yl (Z2r (m := (str s).size) (n := 40) (T := T) rfl rfl rfl (by rw [hz]; exact hT)) rfl rfl ?_
 repeat (first|refine Yd7 ?_|refine Yag ?_|refine Ydj ?_|refine Yah ?_|refine Yd9 ?_)
 refine ⟨?_,hS⟩
 rw [List.drop_zero,Nat.sub_zero,Int.toNat_natCast,← hT]
 congr 2
 rw [Nat.min_comm,← List.take_eq_take_min]
def Rec.cut (r : Rec) : Rec := ⟨r.cmd.take 40,r.pub.take 40,r.pkg.take 40,r.rev,r.out⟩
theorem Z26 (r : Rec) (W : World) : Calls Tryz.prog 21 #[.agg r.cells.toArray] W (Ret fun v w => v = .agg r.cut.cells.toArray ∧ St W noF [] w) := by
 have hS := St.start W
 have C1 := fun W => Zwr r.cmd W
 have C2 := fun W => Zwr r.pub W
 have C3 := fun W => Zwr r.pkg W
 refine Zab Tryz.func21 rfl Tryz.ntmps21 rfl ?_
 repeat (first|refine Yd7 ?_|refine Ya4 (fun _ _ hS _ => ?_)|refine Yar (fun _ _ hS _ => ?_)|refine Yd8 ?_|refine Yab ?_)
 refine Zam (.s 0 (.s 1 (.s 3 (.s 4 (.s 6 (.s 7 (.s 9 (.s 10 (.s 11 (.s 12 (.h 2 (.h 5 (.h 8 (.s 13 (.h 14 .nil .no)) .no) .no) .no))))))))))) mixed (by kernel_rfl) rfl ?_
 have hS := hS.drew
 repeat (first|(refine X_id ?_;first|(refine Zad 64 rfl rfl rfl rfl rfl hS (C1 _) ?_;rintro _ _ rfl hS)|(refine Zad 64 rfl rfl rfl rfl rfl hS (C2 _) ?_;rintro _ _ rfl hS)|(refine Zad 64 rfl rfl rfl rfl rfl hS (C3 _) ?_;rintro _ _ rfl hS)|refine Yao (fun _ hS _ => ?_))|refine Yah ?_|refine Yab ?_|refine Ybv ?_|(refine Zae ?_;first|refine Yax ?_|refine Ybe ?_|refine Yb8 ?_|refine Ybl ?_|refine Yas ?_)|(refine Zac ?_;first|refine Yaw ?_))
 exact ⟨rfl,hS.drops⟩
end Cr
namespace Cr
open Go Go.Proofs
set_option maxRecDepth 100000
set_option maxHeartbeats 16000000
attribute [local irreducible] Calls

abbrev qAll : Rec := ⟨[],[],[],0,-1⟩
abbrev Rec.wide (q : Rec) : Rec := ⟨[],q.pub,q.pkg,q.rev,q.out⟩
theorem auditAsks_ (a : Option Addr) (ca : Nat) (l : List Rec) (q : Rec) (rd fs : List Int) (W : World) (hG : Gl W noF rd fs) (hL : Lg W noF) (hSp : Sp W noF) (hl : Ro W noF (row a (Zdo l))) :
  Calls Tryz.prog 4 #[.slice a l.length ca,.agg q.cells.toArray] W (Ret fun v w => v = .bool true ∧ St W noF [] w) := by
 have hS := St.start W
 refine Zab Tryz.func4 rfl Tryz.ntmps4 rfl ?_
 repeat (first|refine Yd7 ?_|refine Yag ?_|refine Ya4 (fun _ _ hS _ => ?_)|refine Yd8 ?_|refine Yab ?_)
 rename_i bq _ _
 refine Zaa _ rfl rfl rfl rfl rfl (Zzh rd fs _ (hG.mono fun _ hr => (hr.rd hS).ro) (hL.at_ hS)) ?_
 rintro _ wb ⟨lp,tp,p,f,c,rfl,hS'⟩
 replace hS := hS.plus hS'
 clear hS'
 obtain ⟨F1,hS1,hro,hw1,hbk1⟩ := hS.call [true]
 have hT := Z00 (hro (pts f (.cells (List.toArray [.pointer (some ⟨tp,0,none⟩),.int .i64 0]) 100 (0,0))) (by simp)) (hro (itab rd fs tp lp p 60 2 10 40 (Zdi 10)) (by simp))
 have hc := hro (pts bq (.cells q.cells.toArray 57 (0,0))) (by simp)
 have hG1 := hG.mono fun r hr => hw1 r hr
 have hL1 := hL.mono fun r hr => hw1 r hr
 have hSp1 : Sp wb F1 := hw1 _ hSp
 have hl1 := hw1 _ hl
 clear hS hro
 have hS : St wb F1 [chR c f 0 (atT (Zdi 10)) (Nt (trV (Zbo rd fs []))) []] wb := hS1
 clear hS1
 repeat (first|refine Yaa ?_)
 obtain ⟨_,hcc,_,hw,hbk⟩ := hS.call [true]
 refine Zaa _ rfl rfl rfl rfl rfl (Z6h rd fs _ _ (hT.mono hw) (hL1.mono hw) (hG1.mono hw) hcc) ?_
 rintro _ w0 ⟨ax,x,tb,z0,rfl,hz0,hzok,_,hS⟩
 replace hS := hbk hS
 clear hbk hw hcc
 obtain ⟨F3,hS3,hro3,hw3,hbk3⟩ := hS.call [false,true,true,true,true,true]
 have htb := hro3 (pts tb (tbC c logN)) (by simp)
 replace hT := hT.mono hw3
 replace hc := hw3 _ hc
 replace hG1 := hG1.mono hw3
 replace hL1 := hL1.mono hw3
 replace hSp1 : Sp w0 F3 := hw3 _ hSp1
 replace hl1 := hw3 _ hl1
 clear hS hro3
 have hS : St w0 F3 (z0.res rd fs ax x tb c f 0 (atT (Zdi 10))) w0 := hS3
 clear hS3
 simp only [AuZ.res] at hS
 repeat (first|refine Yem ?_|(refine X_id ?_;first|refine Yaf ?_|refine Yag ?_|refine Ya0 ?_|refine Ya9 ?_|refine Yba ?_|refine Ybs ?_)|refine Yen ?_|refine Yab ?_)
 refine Zcb (α := AuZ) (fun _ => [(3,.pointer (some ⟨bq,0,none⟩)),(5,.pointer (some ⟨ax,0,none⟩))]) (fun z w' => z.Ok ∧ z.A.length ≤ 3 ∧ St w0 F3 (z.res rd fs ax x tb c f 0 (atT (Zdi 10))) w') ?_ ?_
 ·refine Zal (α := Nat × AuZ) (fun y => [(0,.slice a l.length ca),(3,.pointer (some ⟨bq,0,none⟩)),(5,.pointer (some ⟨ax,0,none⟩)),(7,.int .i64 (y.1 : Nat))])
   (fun y w' => y.1 ≤ l.length ∧ y.1 ≤ 3 ∧ y.2.Ok ∧ y.2.A.length ≤ y.1 ∧ St w0 F3 (y.2.res rd fs ax x tb c f 0 (atT (Zdi 10))) w') (fun y => 3 - y.1) (0,z0) ⟨rfl,rfl,rfl,rfl,trivial⟩ ⟨Nat.zero_le _,Nat.zero_le _,hzok,by rw [hz0]; exact Nat.le_refl _,hS⟩ ?_
  clear hS
  rintro ⟨i,z⟩ w ⟨hi,hi3,hok,hlen,hS⟩
  simp only [AuZ.res] at hi hi3 hok hlen hS ⊢
  by_cases h1 : i < l.length
  case neg =>
   repeat (first|refine Yeo ?_|refine Yaf ?_|refine Ya9 ?_|refine Yau ?_|refine Ya3 ?_|refine Yep ?_|refine Yed ?_)
   exact Zbn z ⟨rfl,rfl,trivial⟩ ⟨hok,by omega,hS⟩
  by_cases h2 : i < 3
  case neg =>
   repeat (first|refine Yem ?_|(refine X_id ?_;first|refine Yaf ?_|refine Ybc ?_|refine Yau ?_|refine Ya2 ?_|refine Ya3 ?_)|refine Yep ?_|refine Yed ?_)
   exact Zbn z ⟨rfl,rfl,trivial⟩ ⟨hok,by omega,hS⟩
  have hx0 : l[i]? = some l[i] := List.getElem?_eq_getElem h1
  generalize l[i] = r at hx0
  have hxs := Zhc hx0
  have hr := hl1
  obtain ⟨ab,ao,rfl⟩ := (hr.rd hS).base (by intro e; rw [e] at hxs; simp at hxs)
  repeat (first|refine Yem ?_|(refine X_id ?_;first|refine Yaf ?_|refine Ybc ?_|refine Yau ?_|refine Ya2 ?_|refine Ybb ?_|refine Ybr ?_)|refine Yeb ?_|refine Yab ?_)
  refine Zaa _ rfl rfl rfl rfl rfl (Z26 r _) ?_
  rintro _ w ⟨rfl,hS'⟩
  replace hS := hS.plus hS'
  clear hS'
  repeat (first|refine Yaa ?_|refine Ybg (fun _ _ hS _ => ?_))
  rename_i ps _ _
  obtain ⟨_,hcc,hr1,hw,hbk⟩ := hS.call [false,true,true,true,true,true]
  refine Zaa _ rfl rfl rfl rfl rfl (Z42 rd fs ax x tb z hok (some ⟨ps,0,none⟩) [r.cut] 1 (Nat.le_refl _) (by simp only [List.length_singleton]; omega) _ _ (hT.mono hw) (hL1.mono hw) (hG1.mono hw) (hw _ hSp1) (hw _ htb) ((hr1 (own 62 5 (some ⟨ps,0,none⟩) 1 (Zdo [r.cut])) (by simp)).own_row) hcc) ?_
  rintro _ w (⟨_,rfl,hS⟩ | ⟨_,rfl,z',hok',hA',_,hS⟩)
  ·replace hS := hbk hS
   clear hbk hw hcc hr1
   repeat (first|refine Yd7 ?_|refine Yeq ?_|refine Yad ?_|refine Yef ?_)
   exact Zaf (z := (i,z)) (i + 1,z) ⟨rfl,rfl,rfl,rfl,trivial⟩ ⟨h1,h2,hok,by dsimp only; omega,hS.took⟩ (by dsimp only; omega)
  ·replace hS := hbk hS
   clear hbk hw hcc hr1
   have hl' : z'.A.length ≤ i + 1 := by rw [hA',List.length_append]; simp only [List.length_singleton]; omega
   repeat (first|refine Yd7 ?_|refine Yeq ?_|refine Yad ?_|refine Yef ?_)
   exact Zaf (z := (i,z)) (i + 1,z') ⟨rfl,rfl,rfl,rfl,trivial⟩ ⟨h1,h2,hok',hl',hS.took⟩ (by dsimp only; omega)
 clear hS
 rintro z w ⟨hok,h3,hS⟩
 simp only [AuZ.res] at hS
 have hcr : Ro w0 F3 (row (some ⟨bq,0,none⟩) q.cells) := hc.mono fun h hh => ⟨h,Zh7 h hh,fun _ _ e => e⟩
 repeat (first|refine Yaa ?_|refine Yd8 ?_)
 refine X_yl (Zbs rfl rfl ((hcr.rd hS).cellsC (i := 0) rfl rfl rfl)) rfl rfl ?_
 repeat (first|refine Yaa ?_)
 refine Zaa _ rfl rfl rfl rfl rfl (Z26 q _) ?_
 rintro _ w ⟨rfl,hS'⟩
 replace hS := hS.plus hS'
 clear hS'
 generalize q.cut = y
 repeat (first|refine Yd7 ?_|refine Yaf ?_|refine Ybm ?_|refine Yao (fun _ hS _ => ?_)|refine Yar (fun _ _ hS _ => ?_)|refine Yd8 ?_|refine Yab ?_)
 rename_i b8 _ _ _ _ _
 refine Zaa _ rfl rfl rfl rfl rfl (Z2o qAll ax x z.la z.lc z.A _ (hS.rd (r := pts ax (audC x z.la z.A.length z.lc)) (by simp)).ro (hS.rd (r := own 62 5 z.la z.lc (Zdo z.A)) (by simp)).own_row.ro (by omega)) ?_
 rintro _ w ⟨e1,e2,rfl,_,hS'⟩
 replace hS := hS.plus hS'
 clear hS'
 rw [Zte Zvy]
 repeat (first|refine Yd7 ?_|refine Yer ?_|refine Yd8 ?_|refine Yab ?_)
 refine Zaa _ rfl rfl rfl rfl rfl (Z6i ax x z.la z.A.length z.lc (Zdc z.A).length _ tb z.ra z.rc _ (hS.rd (r := pts ax (audC x z.la z.A.length z.lc)) (by simp)).ro (hS.rd (r := pts x (chnC (Zdc z.A).length (Za5 rd fs (Zdc z.A) (Zdc z.A).length) tb z.ra z.rc)) (by simp))) ?_
 rintro _ _ ⟨rfl,rfl⟩
 rw [Zhs]
 repeat (first|refine Yd7 ?_|refine Yaf ?_|refine Yba ?_|refine Ybf ?_|refine Yek ?_|refine Yab ?_)
 refine Zaa _ rfl rfl rfl rfl rfl (Z2o y ax x z.la z.lc z.A _ (hS.rd (r := pts ax (audC x z.la z.A.length z.lc)) (by simp)).ro (hS.rd (r := own 62 5 z.la z.lc (Zdo z.A)) (by simp)).own_row.ro (by omega)) ?_
 rintro _ w ⟨g1,g2,rfl,_,hS'⟩
 replace hS := hS.plus hS'
 clear hS'
 repeat (first|refine Yd7 ?_|(refine X_id ?_;first|refine Yaf ?_|refine Yag ?_|refine Yan ?_|refine Ybf ?_|refine Yao (fun _ hS _ => ?_)|refine Yar (fun _ _ hS _ => ?_))|refine Yd8 ?_|refine Yab ?_)
 refine Zaa _ rfl rfl rfl rfl rfl (Z2o y.wide ax x z.la z.lc z.A _ (hS.rd (r := pts ax (audC x z.la z.A.length z.lc)) (by simp)).ro (hS.rd (r := own 62 5 z.la z.lc (Zdo z.A)) (by simp)).own_row.ro (by omega)) ?_
 rintro _ w5 ⟨v1,v2,rfl,_,hS'⟩
 replace hS := hS.plus hS'
 clear hS'
 have hgv : ∀ j ∈ askF y 0 z.A,j ∈ askF y.wide 0 z.A := fun j hj => by
  obtain ⟨k,r,h1,h2,h3⟩ := askF_mem.1 hj
  exact askF_mem.2 ⟨k,r,h1,h2,Zlw h3⟩
 have hgm : ∀ j ∈ askF y 0 z.A,∃ r,z.A[j]? = some r ∧ Zct y r = true := fun j hj => by
  obtain ⟨k,r,h1,h2,h3⟩ := askF_mem.1 hj
  exact ⟨r,by rw [h1,Nat.zero_add]; exact h2,h3⟩
 have hle1 := Zw0 (q := y) (q' := y.wide) (fun r h => Zlw h) z.A 0
 have hle2 := Zik y.wide z.A 0
 generalize askF y 0 z.A = G at hS hgv hgm hle1 ⊢
 generalize askF y.wide 0 z.A = V at hS hgv hle1 hle2 ⊢
 repeat (first|refine Yd7 ?_|refine Yag ?_|refine Yea ?_|refine Yab ?_)
 obtain ⟨F4,hS4,hro,hw,hbk⟩ := hS.call []
 have hcx := hro (pts ax (audC x z.la z.A.length z.lc)) (by simp)
 have hcy := hro (pts b8 (.cells y.cells.toArray 62 (0,0))) (by repeat (first|exact List.mem_cons_self ..|refine List.mem_cons_of_mem _ ?_))
 have hrA := (hro (own 62 5 z.la z.lc (Zdo z.A)) (by simp)).own_row
 have hrG := (hro (own 3 1 g1 g2 (ansV G)) (by simp)).own_row
 have hrV := (hro (own 3 1 v1 v2 (ansV V)) (by simp)).own_row
 clear hro hS
 have hS := hS4
 clear hS4
 refine Zal (α := Nat) (fun i => [(5,.pointer (some ⟨ax,0,none⟩)),(8,.pointer (some ⟨b8,0,none⟩)),(9,.slice e1 z.A.length e2),(10,.slice g1 G.length g2),(12,.slice v1 V.length v2),(13,.int .i64 (i : Nat))])
  (fun i w' => i ≤ G.length ∧ St w5 F4 [] w') (fun i => G.length - i) 0 ⟨rfl,rfl,rfl,rfl,rfl,rfl,trivial⟩ ⟨Nat.zero_le _,hS⟩ ?_
 clear hS
 rintro i w ⟨hi,hS⟩
 by_cases hlt : i < G.length
 ·have hj0 : G[i]? = some G[i] := List.getElem?_eq_getElem hlt
  have hjm : G[i] ∈ G := List.getElem_mem hlt
  generalize G[i] = j at hj0 hjm
  obtain ⟨r,hr0,hrm⟩ := hgm j hjm
  have hjV := hgv j hjm
  have hjA := (List.getElem?_eq_some_iff.1 hr0).1
  have hxj : (ansV G)[i]? = some (.int .i64 (j : Nat)) := by rw [List.getElem?_map,hj0]; rfl
  obtain ⟨gb,go,hgb⟩ := (hrG.rd hS).base (by intro e; rw [e] at hxj; simp at hxj)
  have hrG' := hrG
  rw [hgb] at hrG' ⊢
  repeat (first|refine Yd7 ?_|refine Yaf ?_|refine Yag ?_|refine Yau ?_|refine Ya2 ?_|refine Yeb ?_|refine Yab ?_)
  refine Zcb (α := Unit) (fun _ => [(5,.pointer (some ⟨ax,0,none⟩)),(8,.pointer (some ⟨b8,0,none⟩)),(9,.slice e1 z.A.length e2),(10,.slice (some ⟨gb,go,none⟩) G.length g2),(12,.slice v1 V.length v2),(13,.int .i64 (i : Nat)),(14,.bool true)]) (fun _ w' => St w5 F4 [] w') ?_ ?_
  ·refine Zal (α := Nat × Bool) (fun u => [(5,.pointer (some ⟨ax,0,none⟩)),(8,.pointer (some ⟨b8,0,none⟩)),(9,.slice e1 z.A.length e2),(10,.slice (some ⟨gb,go,none⟩) G.length g2),(12,.slice v1 V.length v2),(13,.int .i64 (i : Nat)),(14,.bool u.2),(15,.int .i64 (u.1 : Nat))])
    (fun u w' => u.1 ≤ V.length ∧ u.2 = decide (j ∈ V.take u.1) ∧ St w5 F4 [] w') (fun u => V.length - u.1) (0,false) ⟨rfl,rfl,rfl,rfl,rfl,rfl,rfl,rfl,trivial⟩ ⟨Nat.zero_le _,by simp,hS⟩ ?_
   clear hS
   rintro ⟨k,fd⟩ w ⟨hk,hfd,hS⟩
   simp only at hk hfd hS ⊢
   by_cases hkl : k < V.length
   ·have hv0 : V[k]? = some V[k] := List.getElem?_eq_getElem hkl
    generalize V[k] = m at hv0
    have hnext : decide (j ∈ V.take (k + 1)) = (fd || decide (m = j)) := by
     rw [hfd,List.take_add_one,hv0]
     by_cases e1 : j ∈ V.take k <;> by_cases e2 : m = j
     ·simp [e1]
     ·simp [e1]
     ·simp [e2]
     ·simp [e1,e2]; exact fun h => e2 h.symm
    have hxm : (ansV V)[k]? = some (.int .i64 (m : Nat)) := by rw [List.getElem?_map,hv0]; rfl
    obtain ⟨vb,vo,hvb⟩ := (hrV.rd hS).base (by intro e; rw [e] at hxm; simp at hxm)
    have hrV' := hrV
    rw [hvb] at hrV' ⊢
    cases fd with
    | true =>
     repeat (first|refine Yd7 ?_|refine Yaf ?_|refine Yau ?_|refine Ya2 ?_|refine Yeb ?_|refine Yab ?_)
     refine Zam (.s 0 (.s 1 (.s 2 (.s 3 (.s 4 (.s 5 (.s 6 (.s 7 (.s 8 (.s 9 (.s 10 (.s 11 (.s 12 .nil))))))))))))) mixed (by kernel_rfl) rfl ?_
     have hS := hS.drew
     repeat (first|refine Yd7 ?_|refine Yeq ?_|refine Yad ?_|refine Yef ?_|(refine Zae ?_;first|refine Yax ?_|refine Ya1 ?_|refine Ybi ?_|refine Ycf ?_|refine Ycg ?_))
     exact Zaf (z := (k,true)) (k + 1,true) ⟨rfl,rfl,rfl,rfl,rfl,rfl,rfl,rfl,trivial⟩ ⟨hkl,by rw [hnext]; rfl,hS⟩ (by dsimp only; omega)
    | false =>
     by_cases he : m = j
     ·repeat (first|refine Yd7 ?_|refine Yaf ?_|refine Yau ?_|refine Ya2 ?_|refine Yeb ?_|refine Yab ?_)
      refine Zam (.s 0 (.s 1 (.s 2 (.s 3 (.s 4 (.s 5 (.s 6 (.s 7 (.s 8 (.s 9 (.s 10 (.s 11 (.s 12 .nil))))))))))))) mixed (by kernel_rfl) rfl ?_
      have hS := hS.drew
      have hcell := (hrV'.rd hS).cellF (o' := vo + ((k : Nat) : Int).toNat * 1) (by omega) hxm
      have hcell2 := (hrG'.rd hS).cellF (o' := go + ((i : Nat) : Int).toNat * 1) (by omega) hxj
      repeat (first|refine Yd7 ?_|refine Yeq ?_|refine Yad ?_|refine Yef ?_|(refine Zae ?_;first|refine Yax ?_|refine Ya1 ?_|refine Ybi ?_|refine Yb6 ?_|refine Yb5 ?_|refine Zb2 rfl rfl rfl rfl (fun _ => Zny rfl rfl rfl (by omega)) rfl rfl ?_|refine Yc8 ?_|refine Yds ?_))
      exact Zaf (z := (k,false)) (k + 1,true) ⟨rfl,rfl,rfl,rfl,rfl,rfl,rfl,rfl,trivial⟩ ⟨hkl,by rw [hnext,decide_eq_true he]; rfl,hS⟩ (by dsimp only; omega)
     ·repeat (first|refine Yd7 ?_|refine Yaf ?_|refine Yau ?_|refine Ya2 ?_|refine Yeb ?_|refine Yab ?_)
      refine Zam (.s 0 (.s 1 (.s 2 (.s 3 (.s 4 (.s 5 (.s 6 (.s 7 (.s 8 (.s 9 (.s 10 (.s 11 (.s 12 .nil))))))))))))) mixed (by kernel_rfl) rfl ?_
      have hS := hS.drew
      have hcell := (hrV'.rd hS).cellF (o' := vo + ((k : Nat) : Int).toNat * 1) (by omega) hxm
      have hcell2 := (hrG'.rd hS).cellF (o' := go + ((i : Nat) : Int).toNat * 1) (by omega) hxj
      repeat (first|refine Yd7 ?_|refine Yeq ?_|refine Yad ?_|refine Yef ?_|(refine Zae ?_;first|refine Yax ?_|refine Ya1 ?_|refine Ybi ?_|refine Yb6 ?_|refine Yb5 ?_|refine Zb2 rfl rfl rfl rfl (fun _ => Zh0 rfl rfl rfl (by omega)) rfl rfl ?_|refine Yc8 ?_|refine Yds ?_))
      exact Zaf (z := (k,false)) (k + 1,false) ⟨rfl,rfl,rfl,rfl,rfl,rfl,rfl,rfl,trivial⟩ ⟨hkl,by rw [hnext,decide_eq_false he]; rfl,hS⟩ (by dsimp only; omega)
   ·obtain rfl : k = V.length := by omega
    rw [List.take_length,decide_eq_true hjV] at hfd
    rw [hfd]
    repeat (first|refine Yd7 ?_|refine Yaf ?_|refine Yau ?_|refine Ya3 ?_|refine Yep ?_|refine Yed ?_)
    exact Zbn () ⟨rfl,rfl,rfl,rfl,rfl,rfl,rfl,trivial⟩ hS
  ·clear hS
   rintro ⟨⟩ w hS
   repeat (first|refine Yae ?_)
   have hcyr : Ro w5 F4 (row (some ⟨b8,0,none⟩) y.cells) := hcy.mono fun h hh => ⟨h,Zh7 h hh,fun _ _ e => e⟩
   refine Zam (.s 0 (.s 1 (.s 2 (.s 3 (.s 4 (.s 6 (.s 7 (.s 8 (.s 9 (.h 5 (.s 10 (.s 11 (.h 12 (.s 13 (.s 14 .nil)) .no))) .no)))))))))) mixed (by kernel_rfl) rfl ?_
   have hS := hS.drew
   have hcell2 := (hrG'.rd hS).cellF (o' := go + ((i : Nat) : Int).toNat * 1) (by omega) hxj
   repeat (first|(refine Zae ?_;first|refine Ya1 ?_|refine Yc3 ?_))
   refine Zbq (fun w' => Zdm w' _ _ _) rfl rfl rfl rfl ((hcyr.rd hS).cellsC (i := 0) rfl rfl rfl) (fun _ hc => Zbs rfl rfl hc) rfl rfl ?_
   repeat (first|(refine Zae ?_;first|refine Yb5 ?_|refine Yc8 ?_|refine Ycv ?_|refine Yds ?_))
   refine Zaa _ rfl rfl rfl rfl rfl (Z44 ax x z.la z.lc z.A _ (hcx.rd hS).ro (hrA.rd hS).ro (by omega)) ?_
   rintro _ w6 ⟨e3,e4,rfl,_,hS'⟩
   replace hS := hS.plus hS'
   clear hS'
   have hxs := Zhc hr0
   have hrl := Zfr z.A
   obtain ⟨rb,hrb⟩ := St.ownBase hS (by intro e; rw [e] at hxs; simp at hxs)
   rw [hrb] at hS ⊢
   repeat (first|(refine Zae ?_;first|refine Yc8 ?_)|(refine Zac ?_;first|refine Yd1 ?_))
   refine Zbq (fun w' => Zdm w' _ _ _) rfl rfl rfl rfl ((hS.ownRd (a := some ⟨rb,0,none⟩)).cellsC (by first | omega | (dsimp only; omega)) hxs rfl) (fun _ hc => Zbs rfl rfl hc) rfl rfl ?_
   repeat (first|(refine Zae ?_;first|refine Ycv ?_))
   refine Zaa _ rfl rfl rfl rfl rfl (Zw3 y r _) ?_
   rintro _ w7 ⟨rfl,hS'⟩
   replace hS := hS.plus hS'
   clear hS'
   rw [hrm]
   repeat (first|refine Yd7 ?_|refine Yeq ?_|refine Yes ?_|refine Yef ?_|(refine Zae ?_;first|refine Yax ?_|refine Yb6 ?_|refine Zb2 rfl rfl rfl rfl (fun _ => Zhx rfl rfl) rfl rfl ?_)|(refine Zac ?_;first|refine Yd1 ?_))
   exact Zaf (z := i) (i + 1) ⟨rfl,rfl,rfl,rfl,rfl,rfl,trivial⟩ ⟨hlt,hS.drops⟩ (by omega)
 ·repeat (first|refine Yd7 ?_|refine Yaf ?_|refine Yau ?_|refine Ya3 ?_|refine Yep ?_|refine Yed ?_)
  refine Zaa _ rfl rfl rfl rfl rfl (Zv2 _ ((hL1.mono hw).at_ hS) (Sp.at_ (hw _ hSp1) hS)) ?_
  rintro _ w ⟨rfl,hS'⟩
  replace hS := hS.plus hS'
  clear hS'
  repeat (first|refine Yem ?_|(refine X_id ?_;first|refine Yaf ?_|refine Yag ?_|refine Ybc ?_|refine Yau ?_|refine Ydi ?_)|refine Yah ?_|refine Yd9 ?_)
  exact ⟨rfl,(hbk1 (hbk3 (hbk hS))).drops⟩
end Cr
namespace Cr
open Go Go.Proofs Go.ChangeShapes Go.WideShapes Go.Deep
section
variable {H : Type} {enc : TypeId × Value → H} {P : Program} {w : World} {base : Nat} {sp : Nat → Bool} {held : Bool}
theorem Rd.ofCellsA {a : Addr} {l : List Value} (h : ∀ i v,l[i]? = some v → w.cell? (a.add i) = some v) : Rd w (row (some a) l) := by
 cases l with
 | nil => exact Zqf w _
 | cons x r =>
  have h0 := h 0 x rfl
  have hsp : a.spot = none := by
   have := World.cell?_spot h0
   simpa [Addr.add] using this
  obtain ⟨b,off,spot⟩ := a
  obtain rfl : spot = none := hsp
  unfold World.cell? at h0
  split at h0
  ·rename_i c t fz hb
   have hb : w.heap[b]? = some (.cells c t fz) := by simpa [Addr.add] using hb
   refine ⟨Zcc b (.cells c t fz),.inr ⟨b,off,c,t,fz,rfl,rfl,fun i v hv => ?_⟩,fun k o e => ?_⟩
   ·have := h i v hv
    have e : (⟨b,off,none⟩ : Addr).add i = ⟨b,off + i,none⟩ := by
     unfold Addr.add; split
     ·rename_i h; subst h; rfl
     ·rfl
    rw [e,cell_of_row w b (off + i) c t fz hb] at this
    exact this
   ·obtain ⟨rfl,rfl⟩ := Zhf e
    exact hb
  ·cases h0
end
end Cr
namespace Cr
open Go Go.Proofs Go.ChangeShapes Go.WideShapes Go.Deep
section
variable {H : Type} {enc : TypeId × Value → H} {P : Program} {w : World} {base : Nat} {sp : Nat → Bool} {held : Bool}
theorem Zq2 {α : Type} [Inhabited α] (f : α → List Value) (Ok : α → Prop) {t e : TypeId} {fuel : Nat} {cs : List Value} {x : DataW H × List MemPlace} (n : Nat) (ht : P.underlying t = some (.slice e)) (ce : P.cellsOf e = n) (hpos : 0 < n)
  (hopen : ∀ (fuel : Nat) (cs : List Value) (y : DataW H × List MemPlace),DataW.trod enc P w base sp held fuel e cs = some y → ∃ a : α,cs = f a ∧ Ok a)
  (h : DataW.trod enc P w base sp held fuel t cs = some x) : ∃ (a : Option Addr) (l : List α) (c : Nat),cs = [.slice a l.length c] ∧ l.length ≤ c ∧ c ≤ maxLen ∧ Rd w (row a (l.flatMap f)) ∧ ∀ y ∈ l,Ok y ∧ (f y).length = n := by
 rcases DataW.trod_slice ht h with ⟨rfl,_⟩ | ⟨a,len,cap,elems,rest,m,_,rfl,_,_,hl,hm,hel,hx,_⟩
 ·exact ⟨none,[],0,rfl,Nat.le_refl _,Nat.zero_le _,Zqf w _,fun _ h => (List.not_mem_nil h).elim⟩
 ·have each : ∀ i,i < len → ∃ q : α,Ok q ∧ (f q).length = n ∧ ∀ k,k < n → w.cell? (a.add (i * n + k)) = (f q)[k]? := fun i hi => by
   have h1 := hx i hi
   rw [List.getElem?_eq_getElem (by omega),ce,Option.bind_eq_some_iff] at h1
   obtain ⟨cs',h2,h3⟩ := h1
   obtain ⟨_,hlen,hcell⟩ := World.cells?_some h2
   obtain ⟨q,rfl,hq⟩ := hopen _ _ _ h3
   exact ⟨q,hq,hlen,fun k hk => by rw [← add_add]; exact hcell k hk⟩
  obtain ⟨q,hq⟩ := choose_lt each
  have hlen : ((List.range len).map q).length = len := by simp
  have hall : ∀ y ∈ (List.range len).map q,Ok y ∧ (f y).length = n := fun y hy => by
   obtain ⟨i,hi,rfl⟩ := List.mem_map.1 hy
   have := hq i (List.mem_range.1 hi)
   exact ⟨this.1,this.2.1⟩
  refine ⟨some a,(List.range len).map q,cap,by rw [hlen],by rw [hlen]; exact hl,hm,Rd.ofCellsA fun k v hv => ?_,hall⟩
  have hfl := Zd9 (n := n) fun y hy => (hall y hy).2
  have hk : k / n < len := by
   have := (List.getElem?_eq_some_iff.1 hv).1
   rw [hfl,hlen] at this
   exact (Nat.div_lt_iff_lt_mul hpos).2 this
  have hget : ((List.range len).map q)[k / n]? = some (q (k / n)) := by simp [hk]
  have hsg := Zck (f := f) (fun y hy => (hall y hy).2) hget
  have hmod : k % n < n := Nat.mod_lt _ hpos
  have hk2 : k / n * n + k % n = k := by rw [Nat.mul_comm]; exact Nat.div_add_mod k n
  have hv3 := congrArg (fun l => l[k % n]?) hsg
  simp only [List.getElem?_take,List.getElem?_drop] at hv3
  rw [if_pos hmod,hk2,hv] at hv3
  have := (hq (k / n) hk).2.2 (k % n) hmod
  rw [hk2] at this
  rw [this]; exact hv3.symm
end
end Cr
namespace Cr
open Go Go.Proofs Go.ChangeShapes Go.WideShapes
set_option maxRecDepth 100000
section
variable {H : Type} {enc : TypeId × Value → H} {w : World} {base : Nat} {sp : Nat → Bool} {held : Bool}
theorem len5 {cs : List Value} (h : cs.length = 5) : ∃ a0 a1 a2 a3 a4,cs = [a0,a1,a2,a3,a4] := by
 match cs,h with
 | [a0,a1,a2,a3,a4],_ => exact ⟨_,_,_,_,_,rfl⟩
theorem Zm5 {n : Nat} {v : Value} {y : DataW H × List MemPlace} (h : DataW.trod enc Tryz.prog w base sp held n 9 [v] = some y) : ∃ s,v = .string (str s) := by
 obtain ⟨s,hs,_⟩ := DataW.trod_string Tryz.underlying9 h
 obtain ⟨l,rfl⟩ := Z28 s
 exact ⟨l,by simpa using hs⟩
theorem Zsh {n : Nat} {v : Value} {y : DataW H × List MemPlace} (h : DataW.trod enc Tryz.prog w base sp held n 3 [v] = some y) : ∃ k : Int,v = .int .i64 k ∧ -9223372036854775808 ≤ k ∧ k ≤ 9223372036854775807 := by
 obtain ⟨k,hk,_,hw⟩ := DataW.trod_int Tryz.underlying3 h
 simp only [Lit.wf,Bool.and_eq_true,decide_eq_true_eq] at hw
 exact ⟨k,by simpa using hk,hw.1,hw.2⟩
theorem Zii : Tryz.prog.cellsOf 9 = 1 := by kernel_rfl
theorem Zmf : Tryz.prog.cellsOf 3 = 1 := by kernel_rfl
theorem Zs9 : Tryz.prog.cellsOf 57 = 5 := by kernel_rfl
theorem open_rec {fuel : Nat} {cs : List Value} {x : DataW H × List MemPlace} (h : DataW.trod enc Tryz.prog w base sp held fuel 57 cs = some x) :
  ∃ r : Rec,cs = r.cells ∧ (-9223372036854775808 ≤ r.rev ∧ r.rev ≤ 9223372036854775807) ∧ -9223372036854775808 ≤ r.out ∧ r.out ≤ 9223372036854775807 := by
 obtain ⟨xs,n,_,_,hl,hxl,hf⟩ := DataW.trod_struct Tryz.underlying57 h
 rw [Zs9] at hl
 have hxl : xs.length = 5 := hxl
 obtain ⟨a0,a1,a2,a3,a4,rfl⟩ := len5 hl
 have f0 : DataW.trod enc Tryz.prog w base sp held n 9 [a0] = xs[0]? := by
  have h : DataW.trod enc Tryz.prog w base sp held n 9 ((List.drop 0 [a0,a1,a2,a3,a4]).take (Tryz.prog.cellsOf 9)) = xs[0]? := by
   have h0 := hf 0 _ rfl
   exact h0
  rw [Zii] at h
  exact h
 have f1 : DataW.trod enc Tryz.prog w base sp held n 9 [a1] = xs[1]? := by
  have h : DataW.trod enc Tryz.prog w base sp held n 9 ((List.drop 1 [a0,a1,a2,a3,a4]).take (Tryz.prog.cellsOf 9)) = xs[1]? := by
   have h0 := hf 1 _ rfl
   exact h0
  rw [Zii] at h
  exact h
 have f2 : DataW.trod enc Tryz.prog w base sp held n 9 [a2] = xs[2]? := by
  have h : DataW.trod enc Tryz.prog w base sp held n 9 ((List.drop 2 [a0,a1,a2,a3,a4]).take (Tryz.prog.cellsOf 9)) = xs[2]? := by
   have h0 := hf 2 _ rfl
   exact h0
  rw [Zii] at h
  exact h
 have f3 : DataW.trod enc Tryz.prog w base sp held n 3 [a3] = xs[3]? := by
  have h : DataW.trod enc Tryz.prog w base sp held n 3 ((List.drop 3 [a0,a1,a2,a3,a4]).take (Tryz.prog.cellsOf 3)) = xs[3]? := by
   have h0 := hf 3 _ rfl
   exact h0
  rw [Zmf] at h
  exact h
 have f4 : DataW.trod enc Tryz.prog w base sp held n 3 [a4] = xs[4]? := by
  have h : DataW.trod enc Tryz.prog w base sp held n 3 ((List.drop 4 [a0,a1,a2,a3,a4]).take (Tryz.prog.cellsOf 3)) = xs[4]? := by
   have h0 := hf 4 _ rfl
   exact h0
  rw [Zmf] at h
  exact h
 rw [List.getElem?_eq_getElem (by omega)] at f0 f1 f2 f3 f4
 obtain ⟨s0,rfl⟩ := Zm5 f0
 obtain ⟨s1,rfl⟩ := Zm5 f1
 obtain ⟨s2,rfl⟩ := Zm5 f2
 obtain ⟨n0,rfl,h1⟩ := Zsh f3
 obtain ⟨n1,rfl,h2⟩ := Zsh f4
 exact ⟨⟨s0,s1,s2,n0,n1⟩,rfl,h1,h2⟩
end
end Cr
namespace Cr
open Go Go.Proofs Go.ChangeShapes Go.WideShapes Go.Deep
set_option maxRecDepth 100000
instance : Inhabited Rec := ⟨zRec⟩
def Rec.ints (r : Rec) : Prop := (-9223372036854775808 ≤ r.rev ∧ r.rev ≤ 9223372036854775807) ∧ -9223372036854775808 ≤ r.out ∧ r.out ≤ 9223372036854775807
theorem arg_recs {H : Type} {enc : TypeId × Value → H} {W : World} {p : List MemPlace} {d : DataW H} {v : Value} {base : Nat}
  (hok : Value.okWide Tryz.prog W .any base 55 v) (h : DataW.Trod enc Tryz.prog W 0 (fun _ => true) true 55 v d p) :
  ∃ (a : Option Addr) (l : List Rec) (ca : Nat),v = .slice a l.length ca ∧ Ro W noF (row a (Zdo l)) ∧ ∀ r ∈ l,r.ints := by
 obtain ⟨a0,n0,c0,rfl⟩ := okWide_slice Tryz.underlying55 hok
 obtain ⟨fuel,hf⟩ := h
 obtain ⟨a,l,c,e,_,_,hr,hall⟩ := Zq2 Rec.cells Rec.ints 5 Tryz.underlying55 Zs9 (by omega) (fun _ _ _ h => open_rec h) hf
 have e : [Value.slice a0 n0 c0] = [.slice a l.length c] := e
 simp only [List.cons.injEq,Value.slice.injEq,and_true] at e
 obtain ⟨rfl,rfl,rfl⟩ := e
 exact ⟨_,l,_,rfl,hr.ro,fun r hr => (hall r hr).1⟩
end Cr
