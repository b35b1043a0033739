/-
  Layer 11 (chain) in plain words,2: one more record put into the table; a record's value told.
  Layer 11 (chain): a record's value read.
  Layer 11 (chain): all records read.
  Layer 11 (chain): Open.
  The laws of layer 11: what few has made,marks in their row.
  Package audit: records copied; All,Len; what a chain's audit holds.
  Layer 11 (chain): Add.
  Package audit: Note.
  creelref05.Name says nameOk.
  creelref27.Check: what is wrong with a record (rchk),the document's.
  Layer 27: records compared; the law's Of; what the document says of a query.
  audit.Read,over values with lists in lists: the record that bytes say.
  Package audit: Of,of a change whose audit is empty; layer 27's fresh change.
  Layer 11 (chain): Whole; the laws' known answers,off the contracts.
  Package audit: all records of some bytes; Of and Verify of a change that holds so many; Head.
  Package audit: Of and Verify of a change that holds so many records; Head; what the document says of a query.
  Package chain in plain words,whatever values stand at the keys: what is read of them; a value put where one stands.
-/
import Derived.Test.YtpbgaojjlepkcaaGreatDoorAbn14
import Derived.Test.YtpbgaojjlepkcaaGreatDoorAbn5
import Derived.Test.YtpbgaojjlepkcaaGreatDoorAbn7
import Derived.Test.YtpbgaojjlepkcaaGreatDoorAbn13
import Derived.Test.YtpbgaojjlepkcaaGreatDoorAbn6
import Derived.Test.YtpbgaojjlepkcaaGreatDoorAbn4
import Derived.KernelRfl
import Derived.Test.YtpbgaojjlepkcaaGreatDoorAbn10
namespace Cr
open Go Go.Proofs
set_option maxRecDepth 100000
set_option maxHeartbeats 64000000
attribute [local irreducible] Calls

theorem Z3a (vs : List Mv) : goT (Zb6 vs) [dbN,logN] = .ok (logT vs) := rfl
theorem Zuy : ∀ k,k < 10 → Zcd [dbN,logN,keyD k] := by decide +kernel
theorem Zea {k : Nat} (h : k < 10) : Zcd [dbN,logN,keyD k] := Zuy k h
theorem Zp4 (vs : List Mv) {k : Nat} (hk : k < 10) : Zfl (Zb6 vs) [dbN,logN,keyD k] = .ok (logT vs,keyD k) := by
 unfold Zfl
 rw [if_pos (Zea hk)]
 rfl
theorem Zty {vs : List Mv} (k : Nat) : goT (Zb6 vs) [dbN,logN,keyD k] = Zcz (logT vs) (keyD k) := by
 have := Zjx [dbN,logN] (Zb6 vs) (keyD k)
 rw [Z3a] at this;exact this
theorem Zjv (vs : List Mv) (s : List UInt8) : Zcz (logT vs) s = match kidT s (Zb2 0 vs) with | some k => .ok k | none => .error 7 := by
 unfold Zcz
 rw [if_pos (show (logT vs).st.kind = 1 from rfl)] <;> rfl
theorem Zen {n : Nat} {t t' : Tn} {d : List (List (List UInt8))} {nd : Nd} {p : List (List UInt8)} {e : Int} (h : Zdx n t nd p = (e,t')) : Zcc n (0,t,d) nd p = if e = 0 then (0,t',d ++ [p]) else (e,t',d) := by
 unfold Zcc
 show (if (0 : Int) = 0 then if (Zdx n t nd p).1 = 0 then (0,(Zdx n t nd p).2,d ++ [p]) else ((Zdx n t nd p).1,(Zdx n t nd p).2,d) else _) = _
 rw [if_pos rfl,h]
theorem Zmh {b : List UInt8} (h : b.length ≤ 512) : Zkt (Zc7 b) = 0 := by
 unfold Zkt
 rw [if_neg (by simp [Zc7]),if_neg (by simp only [Zc7]; decide),if_neg (by simp only [Zc7]; omega)]
theorem Zmi (vs : List Mv) : (logT vs).names = (List.range' 0 vs.length).map fun j => (keyD j,((3 + j : Nat) : Int)) := Zr6 vs 0
theorem Z3s (vs : List Mv) (v : Mv) (h : vs.length < 10) : addF (Zfm vs.length v) (logT vs) = logT (vs ++ [v]) := by
 have h1 := Zp6 v vs 0 vs.length (by omega) h
 have h2 := Zml v vs 0
 rw [Nat.zero_add] at h2;show Tn.mk logN 2 ⟨1,448,0,0⟩ [] (insT (Zfm vs.length v) (Zb2 0 vs)) = Tn.mk logN 2 ⟨1,448,0,0⟩ [] (Zb2 0 (vs ++ [v]))
 rw [h1,h2]
theorem Zto {vs : List Mv} {v : Mv} (h : vs.length < 7) (hl : (encM v).length ≤ 512) : Zdx 10 (Zb6 vs) (Zc7 (encM v)) [dbN,logN,keyD vs.length] = (0,Zb6 (vs ++ [v])) := by
 unfold Zdx
 rw [if_neg (fun e => e.elim (fun e => e (Zea (by omega))) (fun e => by cases e)),if_neg (fun e => e (Zmh hl)),Zp4 vs (by omega)]
 simp only
 have hn : kidT (keyD vs.length) (logT vs).kids = none := Ze7 vs 0 vs.length (by omega) (by omega)
 rw [hn,if_neg (by simp),Zvb h];simp only
 rw [if_neg (Zj7 (l := insN (keyD vs.length,((3 + vs.length : Nat) : Int)) (logT vs).names) ?_ ?_)]
 ·have := Z3s vs v (by omega)
  show ((0 : Int),Tn.mk [] 0 ⟨1,493,0,0⟩ [] [.mk dbN 1 ⟨1,448,0,0⟩ [] [addF (Zfm vs.length v) (logT vs)]]) = _
  rw [this]
  rfl
 ·intro x hx
  rcases List.mem_cons.1 ((Zf4 _ _).mem_iff.1 hx) with rfl | hx
  ·exact ⟨by simp [keyD],by simp only; omega,by simp only; omega⟩
  ·rw [Zmi] at hx
   obtain ⟨j,hj,rfl⟩ := List.mem_map.1 hx
   rw [List.mem_range'_1] at hj;exact ⟨by simp [keyD],by simp only; omega,by simp only; omega⟩
 ·rw [(Zf4 _ _).length_eq,List.length_cons,Zmi,List.length_map,List.length_range']; omega
theorem Zwz {vs : List Mv} {v : Mv} (h : vs.length = 7) (hl : (encM v).length ≤ 512) : Zdx 10 (Zb6 vs) (Zc7 (encM v)) [dbN,logN,keyD vs.length] = (6,Zb6 vs) := by
 unfold Zdx
 rw [if_neg (fun e => e.elim (fun e => e (Zea (by omega))) (fun e => by cases e)),if_neg (fun e => e (Zmh hl)),Zp4 vs (by omega)]
 simp only
 have hn : kidT (keyD vs.length) (logT vs).kids = none := Ze7 vs 0 vs.length (by omega) (by omega)
 rw [hn,if_neg (by simp),Zva h]
def t1 : Tn := .mk [] 0 ⟨1,493,0,0⟩ [] [.mk dbN 1 ⟨1,448,0,0⟩ [] []]
theorem Zp0 : Zkt Zqp = 0 := by decide
theorem Z21 : Zdx 10 t0 Zqp [dbN] = (0,t1) := by
 unfold Zdx
 rw [if_neg (by decide),if_neg (fun e => e Zp0)];have h1 : Zfl t0 [dbN] = .ok (t0,dbN) := by
  unfold Zfl
  rw [if_pos (by decide)]; rfl
 rw [h1];simp only
 have hn : kidT dbN t0.kids = none := rfl
 have hf : Ziw 10 (Nt t0) = some 1 := Zgn (by omega) rfl fun j hj e => by
  obtain rfl : j = 0 := by omega
  cases e
 rw [hn,if_neg (by simp),hf];simp only
 rw [if_neg (Zj7 (fun x hx => by
  rw [show t0.names = [] from rfl,insN,List.mem_singleton] at hx
  subst hx; decide) (by decide))]
 rfl
theorem Zz0 : Zdx 10 t1 Zqp [dbN,logN] = (0,Zb6 []) := by
 unfold Zdx
 rw [if_neg (by decide),if_neg (fun e => e Zp0)];have h1 : Zfl t1 [dbN,logN] = .ok (.mk dbN 1 ⟨1,448,0,0⟩ [] [],logN) := by
  unfold Zfl
  rw [if_pos (by decide)]; rfl
 rw [h1];simp only
 have hn : kidT logN (Tn.mk dbN 1 ⟨1,448,0,0⟩ [] []).kids = none := rfl
 have hf : Ziw 10 (Nt t1) = some 2 := Zgn (by omega) rfl fun j hj e => by
  rcases j with _ | _ | j
  ·cases e
  ·cases e
  ·omega
 rw [hn,if_neg (by simp),hf];simp only
 rw [if_neg (Zj7 (fun x hx => by
  rw [show (Tn.mk dbN 1 ⟨1,448,0,0⟩ [] []).names = [] from rfl,insN,List.mem_singleton] at hx
  subst hx; decide) (by decide))]
 rfl
theorem Zv0 : Zd3 t0 (wayL logN) = some [[dbN],[dbN,logN]] := by
 have h1 : Zb5 t0 [dbN] = -1 := by
  unfold Zb5 getR goR
  rw [if_pos (by decide)]; rfl
 have h2 : Zb5 t0 [dbN,logN] = -1 := by
  unfold Zb5 getR goR
  rw [if_pos (by decide)]; rfl
 unfold wayL
 rw [Zd3,if_neg (by rw [h1]; decide),if_pos h1,Zd3,if_neg (by rw [h2]; decide),if_pos h2,Zd3]
 rfl
theorem Zo9 (vs : List Mv) : Zd3 (Zb6 vs) (wayL logN) = some [] := by
 have h1 : Zb5 (Zb6 vs) [dbN] = 1 := by
  unfold Zb5 getR goR
  rw [if_pos (by decide)]; rfl
 have h2 : Zb5 (Zb6 vs) [dbN,logN] = 1 := by
  unfold Zb5 getR goR
  rw [if_pos (by decide)]; rfl
 unfold wayL
 rw [Zd3,if_pos h1,Zd3,if_pos h2,Zd3]
theorem Zvk : Zci 10 t0 [[dbN],[dbN,logN]] = (0,Zb6 [],[[dbN],[dbN,logN]]) := by
 unfold Zci
 simp only [List.foldl_cons,List.foldl_nil]
 rw [Zen Z21,if_pos rfl,Zen Zz0,if_pos rfl]
 rfl
theorem Ztr {vs : List Mv} {k : Nat} (h : vs.length ≤ k) (hk : k < 10) : Zb5 (trV vs) [dbN,logN,keyD k] = -1 := by
 unfold Zb5 getR goR
 rw [if_pos (Zea hk)];cases vs with
 | nil => rfl
 | cons v l =>
  show (match (match (match goT (Zb6 (v :: l)) [dbN,logN,keyD k] with | .ok u => Except.ok (u.no,u.nd) | .error e => .error e) with | .ok x => Except.ok (shN x.2) | .error e => .error e) with | .error _ => -1 | .ok nd => nd.st.kind : Int) = -1
  rw [Zty,Zjv,Ze7 (v :: l) 0 k (by omega) hk]
theorem Zni {vs : List Mv} {v : Mv} (hk : vs.length ≤ 7) (hc : chkM 8 v = 0) (hl : (encM v).length ≤ 512) :
  Znj 10 (trV vs) logN (keyD vs.length) v = if vs.length < 7 then (0,trV (vs ++ [v])) else (6,trV vs) := by
 unfold Znj
 rw [if_neg (fun e => e (Zn3 (by omega))),if_neg (fun e => e hc),if_neg (by omega),Ztr (Nat.le_refl _) (by omega)];cases vs with
 | nil =>
  rw [show trV [] = t0 from rfl,Zv0]
  simp only
  rw [if_neg (by decide),if_neg (by decide),Zvk];have := Zto (vs := []) (v := v) (by decide) hl
  rw [show ([] : List Mv).length = 0 from rfl] at *
  rw [Zen this,if_pos rfl]
  rfl
 | cons x l =>
  rw [show trV (x :: l) = Zb6 (x :: l) from rfl,Zo9];simp only
  rw [if_neg (by decide),if_neg (by decide),show Zci 10 (Zb6 (x :: l)) [] = (0,Zb6 (x :: l),[]) from rfl]
  by_cases h7 : (x :: l).length < 7
  ·rw [Zen (Zto h7 hl),if_pos rfl,if_pos rfl,if_pos h7]
   rfl
  ·rw [Zen (Zwz (by omega) hl),if_neg (show ¬ (6 : Int) = 0 by decide)]
   show (if (6 : Int) = 0 then _ else (6,Zpe (Zb6 (x :: l)) [])) = _
   rw [if_neg (by decide),if_neg h7]
   rfl
theorem Zw8 {vs : List Mv} {k : Nat} {v : Mv} (hk : vs.length ≤ 7) (hv : vs[k]? = some v) : getR (trV vs) [dbN,logN,keyD k] = .ok ⟨⟨0,384,0,0⟩,encM v⟩ := by
 have h := (List.getElem?_eq_some_iff.1 hv).1
 unfold getR goR
 rw [if_pos (Zea (by omega))];cases vs with
 | nil => cases hv
 | cons x l =>
  rw [show trV (x :: l) = Zb6 (x :: l) from rfl,Zty,Zjv];have := Zir (x :: l) 0 k v (by omega) hv
  rw [Nat.zero_add] at this;rw [this]
  rfl
theorem Zs4 {vs : List Mv} {k : Nat} {v : Mv} (hk : vs.length ≤ 7) (hv : vs[k]? = some v) (hc : chkM 8 v = 0) (hf : fitM v) : Zuq (trV vs) logN (keyD k) = .ok v := by
 have h := (List.getElem?_eq_some_iff.1 hv).1
 unfold Zuq
 rw [if_pos (Zn3 (by omega)),Zw8 hk hv];simp only
 rw [if_pos trivial,Zt6 hc hf]
theorem Zv8 {vs : List Mv} {k : Nat} (h : vs.length ≤ k) (hk : k < 10) : Zuq (trV vs) logN (keyD k) = .error 7 := by
 unfold Zuq
 rw [if_pos (Zn3 hk)];have hg : ∃ e,getR (trV vs) [dbN,logN,keyD k] = .error e := by
  have hq := Ztr h hk
  unfold Zb5 at hq
  unfold getR goR at hq ⊢
  rw [if_pos (Zea hk)] at hq ⊢;cases vs with
  | nil => exact ⟨_,rfl⟩
  | cons v l =>
   rw [show trV (v :: l) = Zb6 (v :: l) from rfl,Zty,Zjv,Ze7 (v :: l) 0 k (by omega) hk];exact ⟨_,rfl⟩
 obtain ⟨e,hg⟩ := hg
 rw [hg]
theorem Z2k {R : Option Addr → List Value → Prop} (W : World) (hR : ∀ a cs,R a cs → Ro W noF (row a cs)) (r m : List UInt8) (hr4 : r.length ≤ 400) (hm : m.length = 32) (cs : List Value) (hv : Mrd R (recV r m) cs) :
  Calls Tryz.prog 125 #[.agg (List.toArray cs)] W (Ret fun v w => ∃ a c,v = .tuple #[.slice a r.length c,.agg (bv m).toArray,.bool true] ∧ r.length ≤ c ∧ R a (bv r) ∧ St W noF [] w) := by
 have hS := St.start W
 obtain ⟨a1,c1,a2,c2,rows,rfl,hc1,_,hrow,hM⟩ := hv.lit
 have hM' : Mrds R [txM r,txM m] rows := hM
 obtain ⟨cs0,hxs0,hy0⟩ := hM'.at_ (i := 0) (y := txM r) rfl
 obtain ⟨cs1,hxs1,hy1⟩ := hM'.at_ (i := 1) (y := txM m) rfl
 obtain ⟨d1,e1,d2,e2,_,rfl,he1,hb0,_,_⟩ := hy0.lit
 obtain ⟨d3,e3,d4,e4,_,rfl,he3,hb1,_,_⟩ := hy1.lit
 clear hM hy0 hy1;simp only [recV,Mv.kind,Mv.num,Mv.txt,Mv.lst,List.length_nil,List.length_cons,Nat.zero_add,Nat.reduceAdd] at *
 have hr := hR _ _ hrow
 have hbm := hR _ _ hb1
 obtain ⟨xb,xo,rfl⟩ := hr.start.base (by intro e; rw [e] at hxs0; simp at hxs0)
 obtain ⟨mb,mo,rfl⟩ := hbm.start.base (by intro e; have := congrArg List.length e; rw [Zah,hm] at this; cases this)
 have hm32 : LenO (bv m) 32 := ⟨by rw [Zah]; exact hm⟩
 refine Zab Tryz.func125 rfl Tryz.ntmps125 rfl ?_
 repeat (first|refine Yer ?_|(refine X_id ?_;first|refine Yaf ?_|refine Yag ?_|refine Yan ?_|refine Ya1 ?_|refine Yav ?_|refine Ya4 ?_|refine Yap ?_|refine Ya5 (fun _ _ hS _ => ?_)|refine Yar (fun _ _ hS _ => ?_))|refine Yem ?_|refine Yab ?_)
 refine Zam (.s 0 (.s 1 (.s 2 (.s 3 (.s 4 (.s 5 (.s 6 (.s 7 (.h 8 (.h 9 (.h 10 (.h 11 .nil .no) .no) .no) (.h 9 (.h 8 (.h 10 (.h 11 .nil .no) .no) .no) .no)))))))))) mixed (by kernel_rfl) rfl ?_
 have hS := hS.drew
 repeat (first|(refine Zae ?_;first|refine Ybe ?_|refine Yb3 ?_|refine Ybk ?_))
 refine Zat (fun w' => Zcp w' _ _ _) rfl rfl ((hr.rd hS).cellsX (by omega) hxs0 rfl) (fun _ hc => Za3 rfl rfl hc) rfl rfl ?_
 repeat (first|(refine Zae ?_;first|refine Ybe ?_|refine Yb3 ?_|refine Ybk ?_))
 refine Zat (fun w' => Zcp w' _ _ _) rfl rfl ((hr.rd hS).cellsX (by omega) hxs1 rfl) (fun _ hc => Za3 rfl rfl hc) rfl rfl ?_
 repeat' (first|refine Zfg ?_ ?_|refine Yer ?_|(refine X_id ?_;first|refine Yaf ?_|refine Yan ?_|refine Ya1 ?_|refine Yav ?_|refine Ya4 ?_|refine Ybs ?_|refine Yap ?_|refine Yao (fun _ hS _ => ?_)|refine Yar (fun _ _ hS _ => ?_))|refine Yem ?_|refine Yab ?_|(refine Zae ?_;first|refine Yfl ?_)|(refine Zac ?_;first|refine Yd6 ?_))
 all_goals
  refine Zam (.s 0 (.s 1 (.s 2 (.s 3 (.s 4 (.s 5 (.s 6 (.h 7 (.s 8 .nil) .no)))))))) mixed (by kernel_rfl) rfl ?_
  have hS := hS.drew
  repeat (first|(refine Zae ?_;first|refine Ybe ?_|refine Zak rfl rfl (fun _ => Zm4 rfl rfl (by omega)) rfl rfl ?_|refine Ybk ?_))
  refine Zat (fun w' => Zcp w' _ _ _) rfl rfl ⟨(hbm.rd hS).cellsAt rfl,by rw [Zah]; exact hm⟩ (fun _ hc => Za3 rfl rfl hc) rfl rfl ?_
  repeat (first|refine Yao (fun _ hS _ => ?_)|refine Yah ?_|refine Yab ?_|refine Yco ?_|(refine Zae ?_;first|refine Yay ?_|refine Ybm ?_|refine Yas ?_)|(refine Zac ?_;first|refine Yd6 ?_))
  exact ⟨_,_,rfl,he1,hb0,hS.drops⟩
theorem Ze6 (rd fs : List Int) (l m : List (List UInt8)) : ∀ {n : Nat},n ≤ l.length → Zaq rd fs (l ++ m) n = Zaq rd fs l n
 | 0,_ => rfl
 | n + 1,h => by
  show digest rd fs [Zaq rd fs (l ++ m) n,_,_] = digest rd fs [Zaq rd fs l n,_,_]
  rw [Ze6 rd fs l m (by omega),List.getD_eq_getElem?_getD,List.getElem?_append_left (by omega),List.getD_eq_getElem?_getD]
theorem Zl0 (rd fs : List Int) (l : List (List UInt8)) (s : List UInt8) : Zbc rd fs (l ++ [s]) = Zbc rd fs l ++ [recV s (digest rd fs [Zaq rd fs l l.length,be8 (l.length : Nat),s])] := by
 unfold Zbc
 rw [List.length_append,List.length_singleton,List.range_succ,List.map_append,List.map_singleton]
 congr 1
 ·refine List.map_congr_left fun i hi => ?_
  rw [List.mem_range] at hi;rw [Ze6 rd fs l [s] (by omega),List.getD_eq_getElem?_getD,List.getElem?_append_left hi,List.getD_eq_getElem?_getD]
 ·have e : (l ++ [s]).getD l.length [] = s := by simp
  rw [e];show [recV s (digest rd fs [Zaq rd fs (l ++ [s]) l.length,be8 (l.length : Nat),(l ++ [s]).getD l.length []])] = _
  rw [e,Ze6 rd fs l [s] (Nat.le_refl _)]
theorem Zs0 (rd fs : List Int) : ∀ (k : Nat) (l : List (List UInt8)),l.length = k → k ≤ 7 → (∀ s ∈ l,s.length ≤ 400) → TreeOk 10 (trV (Zbc rd fs l))
 | 0,l,hl,_,_ => by
  obtain rfl := List.eq_nil_of_length_eq_zero hl
  exact Z4d
 | k + 1,l,hl,hk,h4 => by
  rcases List.eq_nil_or_concat l with rfl | ⟨l,s,rfl⟩
  ·cases hl
  rw [List.concat_eq_append] at hl h4 ⊢;rw [List.length_append,List.length_singleton] at hl;have ih := Zs0 rd fs k l (by omega) (by omega) fun x hx => h4 x (List.mem_append_left _ hx)
  rw [Zl0];have hp := Zni (vs := Zbc rd fs l) (v := recV s (digest rd fs [Zaq rd fs l l.length,be8 (l.length : Nat),s])) (by rw [Zbi]; omega) (Znw _ _) (Znv (h4 s (by simp)) (Zau _ _ _))
  rw [if_pos (by rw [Zbi]; omega)] at hp
  have := Zs3 ih logN (keyD (Zbc rd fs l).length) (recV s (digest rd fs [Zaq rd fs l l.length,be8 (l.length : Nat),s]))
  rw [hp] at this;exact this
theorem Zzd {m : List UInt8} (h : m.length = 32) (z : Value) (r : List Value) : Spl (List.replicate 32 z ++ r) 0 (bv m) (bv m ++ r) := by
 have h2 : (bv m).length = 32 := by rw [Zah]; exact h
 refine ⟨by rw [h2,List.length_append,List.length_replicate]; omega,?_⟩
 rw [h2]; rfl
theorem Zzc {m : List UInt8} (h : m.length = 32) (u v : Value) (r : List Value) : Spl (bv m ++ (u :: r)) 32 [v] (bv m ++ (v :: r)) := by
 have h2 : (bv m).length = 32 := by rw [Zah]; exact h
 refine ⟨by simp only [List.length_cons,List.length_append,List.length_nil]; omega,?_⟩
 have e1 : (bv m ++ u :: r).take 32 = bv m := by
  have := List.take_left (l₁ := bv m) (l₂ := u :: r)
  rwa [h2] at this
 have e2 : (bv m ++ u :: r).drop (32 + [v].length) = r := by
  rw [show 32 + [v].length = (bv m).length + 1 by rw [h2]; rfl,List.drop_length_add_append]; rfl
 rw [e1,e2]; simp
section
variable {c f tp : Nat} {b : Int} {T : Int → Option Nd} {X : List RowD}
theorem St.chRX {W : World} {F : Nat → Prop} {N : Int → Option Nd} {rs : List Res} {w : World} {a : Option Addr} {cs : List Value} (hS : St W F (chR c f b T N X :: rs) w) (hx : RX X a cs) : ∃ X',(∀ y ∈ X,y ∈ X') ∧ (a,cs) ∈ X' ∧ St W F (chR c f b T N X' :: rs) w := by
 rcases hx with rfl | hx
 ·exact ⟨[(a,[])] ++ X,fun y hy => List.mem_append_right _ hy,List.mem_cons_self ..,((hS.own_none 0 1 a).toBag fun _ h => own.row h).chAdd⟩
 ·exact ⟨X,fun _ h => h,hx,hS⟩
theorem BsIn.snoc {L : List Bs} {X X' : List RowD} (h : BsIn L X) (hX : ∀ y ∈ X,y ∈ X') {x : Bs} (hx : (x.a,bv x.s) ∈ X') (hc : x.s.length ≤ x.c) : BsIn (L ++ [x]) X' :=
 ⟨fun y hy => by
  rcases List.mem_append.1 hy with hy | hy
  ·exact hX _ (h.inn y hy)
  ·obtain rfl := List.mem_singleton.1 hy
   exact hx,fun y hy => by
  rcases List.mem_append.1 hy with hy | hy
  ·exact h.cap y hy
  ·obtain rfl := List.mem_singleton.1 hy
   exact hc⟩
theorem Zt8 (i : Nat) (hi : i < 10) (W : World) (hG : Lg W noF) : Calls Tryz.prog 30 #[.int .i64 (i : Nat)] W (Ret fun v w => v = .string (str (keyD i)) ∧ St W noF [] w) := by
 have := Z7h i W hG (by omega) (by rw [Zex,Lib.decDigits_one hi]; simp)
 rwa [Z48 hi] at this
end
theorem Zz4 : ∀ (vs : List Mv),Zb5 (trV vs) [dbN,logN] = if vs = [] then -1 else 1
 | [] => by
  unfold Zb5 getR goR
  rw [if_pos (by decide)]; rfl
 | v :: l => by
  unfold Zb5 getR goR
  rw [if_pos (by decide)]; rfl
theorem Zpx (vs : List Mv) : (Zf1 (trV vs) [dbN,logN] 0).2 = 0 := by
 unfold Zf1
 rw [Zz4];cases vs with
 | nil => rfl
 | cons v l =>
  have h2 : (lstR (trV (v :: l)) [dbN,logN]).2 = 0 := by
   unfold lstR goR
   rw [if_pos (by decide)]; rfl
  rw [if_neg (List.cons_ne_nil v l),if_neg (by decide),if_neg (by decide),if_neg (fun e => e h2)]
section
variable {c f tp : Nat} {b : Int} {T : Int → Option Nd} {X : List RowD}
end
end Cr
namespace Cr
open Go Go.Proofs
set_option maxRecDepth 100000
set_option maxHeartbeats 64000000

theorem BsIn.bss {L : List Bs} {X : List RowD} {W : World} {F : Nat → Prop} {a : Option Addr} {c : Nat} (h : BsIn L X) (h1 : Ro W F (own 35 1 a c (L.map Bs.val))) (h2 : Ro W F (bag X)) : Bss W F a L := ⟨h1.own_row,fun x hx => h2.bag (h.inn x hx)⟩
end Cr
namespace Cr
open Go Go.Proofs
set_option maxRecDepth 100000
set_option maxHeartbeats 64000000
attribute [local irreducible] Calls

abbrev audC (x : Nat) (la : Option Addr) (n lc : Nat) : Obj := .cells (List.toArray [.pointer (some ⟨x,0,none⟩),.slice la n lc]) 141 (0,0)
structure AuZ where
 A : List Rec
 la : Option Addr
 lc : Nat
 ra : Option Addr
 rc : Nat
 L : List Bs
 X : List RowD
structure AuZ.Ok (z : AuZ) : Prop where
 tL : Zax z.L = Zc0 z.A
 bL : BsIn z.L z.X
 ok : ∀ r ∈ z.A,rchk r = 0
 l7 : z.A.length ≤ 7
 rc : z.A.length ≤ z.rc
 lc : z.A.length ≤ z.lc
abbrev AuZ.res (rd fs : List Int) (ax x tb c f : Nat) (b : Int) (T : Int → Option Nd) (z : AuZ) : List Res := [pts ax (audC x z.la z.A.length z.lc),own 62 5 z.la z.lc (Zdw z.A),pts x (chnC (Zc0 z.A).length (Zaq rd fs (Zc0 z.A) (Zc0 z.A).length) tb z.ra z.rc),own 35 1 z.ra z.rc (z.L.map Bs.val),chR c f b T (Nt (trV (Zbc rd fs (Zc0 z.A)))) z.X]
theorem Z1c {w : World} {b : Nat} {T : TypeId} {s : List UInt8} (h : w.heap[b]? = some (.cells (bv s).toArray T (0,0))) : Rd w (bytes (some ⟨b,0,none⟩) s) :=
 ⟨Zcl b _,.inr ⟨b,0,(bv s).toArray,T,_,rfl,rfl,fun i v hv => by simpa using hv⟩,fun k o hk => by
  unfold Zcl at hk
  split at hk
  ·rename_i e
   cases hk
   rw [e]; exact h
  ·cases hk⟩

section
variable {c f tp : Nat} {b : Int} {T : Int → Option Nd} {X : List RowD}
theorem Z7i (rd fs : List Int) (l : List (List UInt8)) (hl7 : l.length ≤ 7) (h4 : ∀ s ∈ l,s.length ≤ 400) (tb x : Nat) (ra : Option Addr) (rc : Nat) (L : List Bs) (a : Option Addr) (M : List Bs) (mc : Nat) (W : World) (F : Nat → Prop) (hT : TreeRo W F f tp 10 b T) (hG : Lg W F) (hD : Gl W F rd fs) (htb : Ro W F (pts tb (tbC c logN)))
  (hB : Bss W F a M) (hM : M.length ≤ 1000) (hM4 : ∀ y ∈ M,y.s.length ≤ 400) (hTL : Zax L = l) (hBL : BsIn L X) (hrc : l.length ≤ rc) (hS : St W F [pts x (chnC l.length (Zaq rd fs l l.length) tb ra rc),own 35 1 ra rc (L.map Bs.val),chR c f b T (Nt (trV (Zbc rd fs l))) X] W) :
  Calls Tryz.prog 63 #[.pointer (some ⟨x,0,none⟩),.slice a M.length mc] W (Ret fun v w => ∃ (l' : List (List UInt8)) (ra' : Option Addr) (rc' : Nat) (L' : List Bs) (X' : List RowD) (k : Nat),l' = l ++ (Zax M).take k ∧ k = min M.length (7 - l.length) ∧ v = .tuple #[.int .i64 (k : Nat),.int .i64 (if l.length + M.length ≤ 7 then 0 else 6)] ∧ (∀ y ∈ X,y ∈ X') ∧ Zax L' = l' ∧ BsIn L' X' ∧ l'.length ≤ rc' ∧
   St W F [pts x (chnC l'.length (Zaq rd fs l' l'.length) tb ra' rc'),own 35 1 ra' rc' (L'.map Bs.val),chR c f b T (Nt (trV (Zbc rd fs l'))) X'] w) := by
 refine Zab Tryz.func63 rfl Tryz.ntmps63 rfl ?_
 repeat (first|refine Yea ?_|refine Yaf ?_|refine Yag ?_|refine Yav ?_|refine Ybu ?_|refine Ye4 ?_|refine Yab ?_)
 refine Zbz (α := Unit) (fun _ => [(0,.pointer (some ⟨x,0,none⟩)),(1,.slice a M.length mc)]) (fun _ w => St W F [pts x (chnC l.length (Zaq rd fs l l.length) tb ra rc),own 35 1 ra rc (L.map Bs.val),chR c f b T (Nt (trV (Zbc rd fs l))) X] w) ?_ ?_
 ·refine Zal (α := Nat) (fun i => [(0,.pointer (some ⟨x,0,none⟩)),(1,.slice a M.length mc),(14,.slice a M.length mc),(15,.int .i64 (M.length : Nat)),(16,.int .i64 (i : Nat))])
   (fun i w => i ≤ M.length ∧ St W F [pts x (chnC l.length (Zaq rd fs l l.length) tb ra rc),own 35 1 ra rc (L.map Bs.val),chR c f b T (Nt (trV (Zbc rd fs l))) X] w) (fun i => M.length - i) 0 ⟨rfl,rfl,rfl,rfl,rfl,trivial⟩ ⟨Nat.zero_le _,hS⟩ ?_
  clear hS;rintro i w ⟨hi,hS⟩
  by_cases hlt : i < M.length
  ·have hx0 : M[i]? = some M[i] := List.getElem?_eq_getElem hlt
   generalize M[i] = y at hx0;have hy4 := hM4 y (List.mem_of_getElem? hx0)
   have hr := hB.row
   have hx : (M.map Bs.val)[i]? = some (.slice y.a y.s.length y.c) := by simp [hx0,Bs.val]
   obtain ⟨ab,ao,rfl⟩ := (hr.rd hS).base (by intro e; rw [e] at hx; simp at hx)
   repeat (first|refine Yea ?_|(refine X_id ?_;first|refine Yaf ?_|refine Yag ?_|refine Yav ?_|refine Ya2 ?_|refine Ybs ?_|refine Ybc ?_|refine Ya0 ?_|refine Yb2 ?_)|refine Yeh ?_|refine Yei ?_)
   refine Zaf (i + 1) ⟨rfl,rfl,rfl,rfl,rfl,trivial⟩ ⟨hlt,hS⟩ (by omega)
  ·repeat (first|refine Yea ?_|refine Ya6 ?_|refine Yeq ?_|refine Yeg ?_)
   exact Zbp () ⟨rfl,rfl,trivial⟩ hS
 clear hS;rintro ⟨⟩ w hS
 repeat (first|refine Yea ?_|refine Yaf ?_|refine Yav ?_|refine Yed ?_|refine Yab ?_)
 have hLl : L.length = l.length := by rw [← hTL]; simp [Zax]
 refine Zal (α := Nat × Option Addr × Nat × List Bs × List RowD) (fun z => [(0,.pointer (some ⟨x,0,none⟩)),(1,.slice a M.length mc),(24,.slice a M.length mc),(25,.int .i64 (M.length : Nat)),(26,.int .i64 (z.1 : Nat))])
  (fun z w => z.1 ≤ M.length ∧ l.length + z.1 ≤ 7 ∧ (∀ y ∈ X,y ∈ z.2.2.2.2) ∧ Zax z.2.2.2.1 = l ++ (Zax M).take z.1 ∧ BsIn z.2.2.2.1 z.2.2.2.2 ∧ l.length + z.1 ≤ z.2.2.1 ∧ z.2.2.2.1.length = l.length + z.1 ∧
   St W F [pts x (.cells (endX (l.length + z.1) (Zaq rd fs (l ++ (Zax M).take z.1) (l.length + z.1)) [.pointer (some ⟨tb,0,none⟩),.slice z.2.1 (l.length + z.1) z.2.2.1]).toArray 157 (0,0)),own 35 1 z.2.1 z.2.2.1 (z.2.2.2.1.map Bs.val),chR c f b T (Nt (trV (Zbc rd fs (l ++ (Zax M).take z.1)))) z.2.2.2.2] w)
  (fun z => M.length - z.1) (0,ra,rc,L,X) ⟨rfl,rfl,rfl,rfl,rfl,trivial⟩ ⟨Nat.zero_le _,hl7,fun _ h => h,by simp [hTL],hBL,hrc,hLl,by simpa using hS⟩ ?_
 clear hS;rintro ⟨i,ra1,rc1,L1,X1⟩ w ⟨hi,hi7,hX1,hT1,hB1,hrc1,hL1,hS⟩
 simp only at hi hi7 hX1 hT1 hB1 hrc1 hL1 hS ⊢
 obtain ⟨li,hli⟩ : ∃ li,li = l ++ (Zax M).take i := ⟨_,rfl⟩
 obtain ⟨n,hn⟩ : ∃ n,n = l.length + i := ⟨_,rfl⟩
 have hlin : li.length = n := by rw [hli,hn]; simp [Zax,hi]
 have hli4 : ∀ s ∈ li,s.length ≤ 400 := fun s hs => by
  rw [hli] at hs;rcases List.mem_append.1 hs with hs | hs
  ·exact h4 s hs
  ·obtain ⟨y,hy,rfl⟩ := List.mem_map.1 (List.mem_of_mem_take hs)
   exact hM4 y hy
 rw [← hli] at hT1 hS;rw [← hn] at hi7 hrc1 hL1 hS;obtain ⟨m,hm⟩ : ∃ m,m = Zaq rd fs li n := ⟨_,rfl⟩
 have hm32 : m.length = 32 := by rw [hm]; exact Zbo _ _ _ _
 rw [← hm] at hS;have ht := Zs0 rd fs _ li rfl (by omega) hli4
 by_cases hlt : i < M.length
 ·have hx0 : M[i]? = some M[i] := List.getElem?_eq_getElem hlt
  have htk : (Zax M).take (i + 1) = (Zax M).take i ++ [M[i].s] := by
   have := List.take_succ_eq_append_getElem (l := Zax M) (i := i) (by simp [Zax,hlt])
   rw [this]; simp [Zax]
  generalize M[i] = y at hx0 htk;have hym := List.mem_of_getElem? hx0
  have hy4 := hM4 y hym
  have hr := hB.row
  have hb := hB.all y hym
  have hx : (M.map Bs.val)[i]? = some (.slice y.a y.s.length y.c) := by simp [hx0,Bs.val]
  obtain ⟨ab,ao,rfl⟩ := (hr.rd hS).base (by intro e; rw [e] at hx; simp at hx)
  repeat (first|refine Yea ?_|refine Yfk ?_|refine Yee ?_|refine Yab ?_)
  obtain ⟨d,hdg⟩ : ∃ d,d = digest rd fs [m,be8 (n : Nat),y.s] := ⟨_,rfl⟩
  have hd32 : d.length = 32 := by rw [hdg]; exact Zau _ _ _
  have hd32L : LenO (bv d) 32 := ⟨by rw [Zah]; exact hd32⟩
  refine Zre (α := Nat) (fun bm => [(0,.pointer (some ⟨x,0,none⟩)),(1,.slice (some ⟨ab,ao,none⟩) M.length mc),(24,.slice (some ⟨ab,ao,none⟩) M.length mc),(25,.int .i64 (M.length : Nat)),(26,.int .i64 (i : Nat)),(8,.int .i64 (i : Nat)),(9,.slice y.a y.s.length y.c),(10,.pointer (some ⟨bm,0,none⟩))])
   (fun bm w => St W F [pts bm (.cells (bv d).toArray 79),pts x (.cells (endX n m [.pointer (some ⟨tb,0,none⟩),.slice ra1 n rc1]).toArray 157 (0,0)),own 35 1 ra1 rc1 (L1.map Bs.val),chR c f b T (Nt (trV (Zbc rd fs li))) X1] w) ?_ ?_
  ·skip
   refine Zam (.s 0 (.s 1 (.s 2 (.s 3 (.s 4 (.s 5 (.s 6 (.s 7 (.s 8 (.s 9 (.s 10 (.h 11 (.h 12 (.h 13 .nil .no) .no) (.h 12 (.h 11 (.h 13 .nil .no) .no) .no))))))))))))) mixed (by kernel_rfl) rfl ?_
   have hS := hS.drew
   have hqE := (hS.rd (r := pts x (.cells (endX n m [.pointer (some ⟨tb,0,none⟩),.slice ra1 n rc1]).toArray 157 (0,0))) (List.mem_cons_self ..)).pts
   repeat (first|(refine Zae ?_;first|refine Ya3 ?_|refine Ybr ?_|refine Ybe ?_))
   refine Zat (fun w' => Zcp w' _ _ _) rfl rfl (Zh4 hm32 hqE) (fun _ hc => Za3 rfl rfl hc) rfl rfl ?_
   repeat' (first|refine Zfg ?_ ?_|refine Yar (fun _ _ hS _ => ?_)|(refine Zae ?_;first|refine Ya3 ?_|refine Ybr ?_|refine Ybe ?_|refine Ybk ?_|refine Yas ?_)|(refine Zac ?_;first|refine Ycm ?_))
   ·refine Zad 113 rfl rfl rfl rfl rfl hS (Zzz m (n : Nat) y.a y.c y.s rd fs _ hm32 (hD.mono fun r hr => (hr.rd hS).ro) (hb.rd hS).ro (by omega)) ?_
    rintro _ w rfl hS
    rw [← hdg];repeat (first|refine Yao (fun _ hS _ => ?_)|refine Yar (fun _ _ hS _ => ?_)|(refine Zae ?_;first|refine Yfl ?_)|(refine Zac ?_;first|refine Ycm ?_))
    exact Zbp _ ⟨rfl,rfl,rfl,rfl,rfl,rfl,rfl,rfl,trivial⟩ hS.took
   ·refine Zad 113 rfl rfl rfl rfl rfl hS (Zzz m (n : Nat) y.a y.c y.s rd fs _ hm32 (hD.mono fun r hr => (hr.rd hS).ro) (hb.rd hS).ro (by omega)) ?_
    rintro _ w rfl hS
    rw [← hdg];repeat (first|refine Yao (fun _ hS _ => ?_)|(refine Zae ?_;first|refine Yfl ?_)|(refine Zac ?_;first|refine Ycm ?_))
    exact Zbp _ ⟨rfl,rfl,rfl,rfl,rfl,rfl,rfl,rfl,trivial⟩ hS.took
  clear hS;rintro bm w hS
  repeat (first|refine Yae ?_)
  refine Zam (.s 0 (.s 1 (.s 2 (.s 3 (.s 4 (.s 5 (.s 6 (.s 7 (.s 8 (.s 10 (.s 11 (.s 13 (.s 14 (.h 9 (.h 12 (.h 15 (.h 16 (.h 17 (.h 18 (.s 19 .nil) .no) .no) .no) .no) .no) .no)))))))))))))) mixed (by kernel_rfl) rfl ?_
  have hS := hS.drew
  repeat (first|(refine Zae ?_;first|refine Ya3 ?_|refine Ybr ?_|refine Ybe ?_))
  refine Zat (fun w' => w'.cell? _ = some _) rfl rfl (Zql hm32 hS.has (j := 0) rfl) (fun _ hc => Zas rfl rfl hc) rfl rfl ?_
  repeat (first|(refine Zae ?_;first|refine Ya3 ?_|refine Ybr ?_|refine Ybe ?_|refine Yc8 ?_|refine Ybk ?_|refine Yd4 ?_))
  refine Zat (fun w' => Rd w' (bytes _ _)) rfl rfl (Z1c hS.has) (fun _ h => Zbk rfl rfl h hd32) rfl rfl ?_
  repeat (first|(refine Zae ?_;first|refine Yas ?_))
  refine Zaa _ rfl rfl rfl rfl rfl (Zt8 n (by omega) _ (hG.at_ hS)) ?_
  rintro _ w ⟨rfl,hS'⟩
  replace hS := hS.plus hS';clear hS';repeat (first|(refine Zae ?_;first|refine Yas ?_)|(refine Zac ?_;first|refine Ycm ?_))
  refine Zaa _ rfl rfl rfl rfl rfl (Zl2 y.s _) ?_
  rintro _ w ⟨u1,v1,Y1,rfl,hMa,hS'⟩
  replace hS := hS.plus hS';clear hS';repeat (first|(refine Zae ?_;first|refine Yas ?_)|(refine Zac ?_;first|refine Ycm ?_))
  refine Zaa _ rfl rfl rfl rfl rfl (Zl2 d _) ?_
  rintro _ w ⟨u2,v2,Y2,rfl,hMb,hS'⟩
  replace hS := hS.plus hS';clear hS';repeat (first|refine Ybn (fun _ _ hS _ => ?_)|(refine Zae ?_;first|refine Yas ?_)|(refine Zac ?_;first|refine Ycm ?_))
  rename_i pq _ _;have hMs : Mrds (RoR _ noF) [txM y.s,txM d] [[.int .i64 1,.int .i64 0,.slice u1 y.s.length v1,.slice none 0 0],[.int .i64 1,.int .i64 0,.slice u2 d.length v2,.slice none 0 0]] :=
   (Mrds.nil.snoc (hMa.mono fun _ _ h => (h.rd (hS.rd (r := bag Y1) (by simp))).ro)).snoc (hMb.mono fun _ _ h => (h.rd (hS.rd (r := bag Y2) (by simp))).ro)
  refine Zaa _ rfl rfl rfl rfl rfl (of_M (some ⟨pq,0,none⟩) [txM y.s,txM d] 2 [[.int .i64 1,.int .i64 0,.slice u1 y.s.length v1,.slice none 0 0],[.int .i64 1,.int .i64 0,.slice u2 d.length v2,.slice none 0 0]] _ (hS.rd (List.mem_cons_self ..)).own_row.ro hMs (by simp only [wMs,Zfs,List.length_nil]; omega)) ?_
  rintro _ w ⟨b3,q3,rows',Y3,rfl,hq3,hMr,hS'⟩
  replace hS := hS.plus hS';clear hS' hMs;have hcp : [txM y.s,txM d].map (Zdy 8) = [txM y.s,txM d] := by
   rw [List.map_cons,List.map_cons,List.map_nil,Zoh 8 _ (Zdz 8 _),Zoh 8 _ (Zdz 8 _)]
  rw [hcp] at hMr;repeat (first|(refine Zae ?_;first|refine Yas ?_)|(refine Zac ?_;first|refine Ycm ?_))
  have hS : St W F [chR c f b T (Nt (trV (Zbc rd fs li))) X1,pts x (.cells (endX n m [.pointer (some ⟨tb,0,none⟩),.slice ra1 n rc1]).toArray 157 (0,0)),own 35 1 ra1 rc1 (L1.map Bs.val),own 38 4 b3 q3 rows'.flatten,bag Y3] _ := hS.took
  have hlen5 := Znv hy4 hd32
  obtain ⟨F2,hcc,hr1,hw,hbk⟩ := hS.call [true]
  have hv : Mrd (RoR _ F2) (recV y.s d) [.int .i64 2,.int .i64 0,.slice none 0 0,.slice b3 2 q3] := .mk' rfl rfl (Nat.zero_le _) (Zfq _ _ _) (hr1 (own 38 4 b3 q3 rows'.flatten) (by simp)).own_row hMr.1 (fun j z cs h1 h2 => (hMr.2 j z cs h1 h2).mono fun _ _ h => h.ro (hr1 (bag Y3) (by simp)))
  refine Zaa _ rfl rfl rfl rfl rfl (Z4a ht tb logN (keyD n) (recV y.s d) _ _ _ (hT.mono hw) (hG.mono hw) (hw _ htb) hv (by rw [Z4p]; omega) (Zte (by omega) (by omega)) (by omega) hcc) ?_
  rintro _ w ⟨rfl,X2,hX2,hS⟩
  replace hS := hbk hS
  clear hbk hw hcc hr1 hv;have hput := Zni (vs := Zbc rd fs li) (v := recV y.s d) (by rw [Zbi]; omega) (Znw _ _) hlen5
  rw [Zbi,hlin] at hput;rw [hput] at hS ⊢;by_cases h7 : n < 7
  ·rw [if_pos h7] at hS ⊢
   have hsn : Zbc rd fs li ++ [recV y.s d] = Zbc rd fs (li ++ [y.s]) := by rw [Zl0,hlin,← hm,← hdg]
   rw [hsn] at hS;repeat (first|refine Yea ?_|refine Yaf ?_|refine Yau ?_|refine Yan ?_|refine Ya4 ?_|refine Yem ?_|refine Yab ?_|(refine Zae ?_;first|refine Ye6 ?_)|(refine Zac ?_;first|refine Ycm ?_))
   have hS : St W F [pts x (.cells (endX n m [.pointer (some ⟨tb,0,none⟩),.slice ra1 n rc1]).toArray 157 (0,0)),own 35 1 ra1 rc1 (L1.map Bs.val),chR c f b T (Nt (trV (Zbc rd fs (li ++ [y.s])))) X2] _ := hS.took
   obtain ⟨_,hcc,_,hw,hbk⟩ := hS.call [true]
   refine Zaa _ rfl rfl rfl rfl rfl (Z1q x n m _ _ y.a y.c y.s rd fs _ _ hm32 (by omega) (hD.mono hw) (hw _ hb) (by omega) hcc) ?_
   rintro _ w ⟨rfl,hS⟩
   replace hS := hbk hS
   clear hbk hw hcc;rw [← hdg] at hS ⊢;repeat (first|refine Yac ?_|refine Yab ?_)
   refine Zam (.s 0 (.s 1 (.s 2 (.s 3 (.s 4 (.s 5 (.h 6 (.h 7 (.h 8 (.s 9 (.s 10 (.h 11 .nil .no))) .no) .no) .no))))))) mixed (by kernel_rfl) rfl ?_
   have hS := hS.drew
   repeat (first|(refine Zae ?_;first|refine Ya3 ?_|refine Ybr ?_|refine Ybe ?_|refine Ybk ?_|refine Yas ?_))
   refine Zaa _ rfl rfl rfl rfl rfl (Zeo y.a y.s.length y.c y.s _ (hb.rd hS) rfl (by omega)) ?_
   rintro _ w ⟨a',q',rfl,_,hq',hS'⟩
   replace hS := hS.plus hS';clear hS';repeat (first|refine Ybn (fun _ _ hS _ => ?_)|(refine Zae ?_;first|refine Yas ?_)|(refine Zac ?_;first|refine Ycm ?_))
   have hnw := (hS.rd (List.mem_cons_self ..)).own_row
   refine Zar rfl rfl rfl rfl rfl hS (by rw [List.length_map,hL1,Nat.mul_one]) hrc1 hnw rfl (by simp [Value.oneCell']) (by omega) (by simp only [maxLen]; omega) (fun b' q'' w hS hq'' _ => ?_)
   repeat (first|refine Yea ?_|refine Yef ?_|refine Yao (fun _ hS _ => ?_)|refine Yad ?_|refine Yei ?_|(refine Zae ?_;first|refine Yay ?_|refine Ybr ?_|refine Ybe ?_|refine Yas ?_)|(refine Zac ?_;first|refine Ycm ?_))
   have hS : St W F [own 5 1 a' q' (bv y.s),chR c f b T (Nt (trV (Zbc rd fs (li ++ [y.s])))) X2,pts x (.cells (endX (n + 1) d [.pointer (some ⟨tb,0,none⟩),.slice b' (n + 1) q'']).toArray 157 (0,0)),own 35 1 b' q'' (L1.map Bs.val ++ [.slice a' y.s.length q'])] _ := hS.took
   have hS := (hS.toBag (a := a') (cs := bv y.s) fun _ h => own.row h).chAdd
   have hl1 : l ++ (Zax M).take (i + 1) = li ++ [y.s] := by rw [htk,← List.append_assoc,← hli]
   have hnx : Zaq rd fs (li ++ [y.s]) (n + 1) = d := by
    show digest rd fs [Zaq rd fs (li ++ [y.s]) n,be8 (n : Nat),(li ++ [y.s]).getD n []] = d
    rw [Ze6 rd fs li [y.s] (by omega),← hm,hdg,← hlin]
    simp
   refine Zaf (z := (i,ra1,rc1,L1,X1)) (i + 1,b',q'',L1 ++ [⟨a',q',y.s⟩],[(a',bv y.s)] ++ X2) ⟨rfl,rfl,rfl,rfl,rfl,trivial⟩ ⟨hlt,by dsimp only; omega,fun z hz => List.mem_append_right _ (hX2 z (hX1 z hz)),?_,hB1.snoc (fun z hz => List.mem_append_right _ (hX2 z hz)) (List.mem_append_left _ (List.mem_cons_self ..)) hq',by dsimp only; omega,by rw [List.length_append,hL1,hn]; rfl,?_⟩ (by dsimp only; omega)
   ·dsimp only
    rw [hl1,← hT1];simp [Zax]
   ·dsimp only
    rw [hl1,show l.length + (i + 1) = n + 1 by omega,hnx,List.map_append,show List.map Bs.val [(⟨a',q',y.s⟩ : Bs)] = [Value.slice a' y.s.length q'] from rfl]
    exact hS.took
  ·rw [if_neg h7] at hS ⊢
   have hki : i = 7 - l.length := by omega
   repeat (first|refine Yea ?_|refine Yaf ?_|refine Yag ?_|refine Ybj ?_|refine Yek ?_|refine Yfh ?_|(refine Zae ?_;first|refine Ye6 ?_)|(refine Zac ?_;first|refine Ycm ?_))
   refine ⟨li,ra1,rc1,L1,X2,i,hli,by omega,by rw [if_neg (by omega)],fun z hz => hX2 z (hX1 z hz),hT1,⟨fun z hz => hX2 _ (hB1.inn z hz),hB1.cap⟩,by omega,?_⟩
   rw [hlin,← hm];exact hS.took
 ·have hiz : i = M.length := by omega
  repeat (first|refine Yea ?_|refine Yaf ?_|refine Yag ?_|refine Yav ?_|refine Ya6 ?_|refine Yej ?_|refine Yfm ?_)
  subst hiz
  refine ⟨li,ra1,rc1,L1,X1,M.length,hli,by omega,by rw [if_pos (by omega)],hX1,hT1,hB1,by omega,?_⟩
  rw [hlin,← hm];exact hS
end
section
variable {c f tp : Nat} {b : Int} {T : Int → Option Nd}
theorem Z56 (rd fs : List Int) (ax x tb : Nat) (z : AuZ) (hz : z.Ok) (a : Option Addr) (M : List Rec) (mc : Nat) (hmc : M.length ≤ mc) (h7 : z.A.length + M.length ≤ 7) (W : World) (F : Nat → Prop) (hT : TreeRo W F f tp 10 b T) (hG : Lg W F) (hD : Gl W F rd fs) (hSp : Sp W F) (htb : Ro W F (pts tb (tbC c logN))) (hM : Ro W F (row a (Zdw M))) (hS : St W F (z.res rd fs ax x tb c f b T) W) :
  Calls Tryz.prog 20 #[.pointer (some ⟨ax,0,none⟩),.slice a M.length mc] W (Ret fun v w =>
   (badR M ≠ 0 ∧ v = .tuple #[.int .i64 0,.int .i64 (badR M : Nat)] ∧ St W F (z.res rd fs ax x tb c f b T) w) ∨
   (badR M = 0 ∧ v = .tuple #[.int .i64 (M.length : Nat),.int .i64 0] ∧ ∃ z' : AuZ,z'.Ok ∧ z'.A = z.A ++ M ∧ (∀ y ∈ z.X,y ∈ z'.X) ∧ St W F (z'.res rd fs ax x tb c f b T) w)) := by
 obtain ⟨A,la,lc,ra,rc,L,X⟩ := z
 obtain ⟨htL,hbL,hzA,hz7,hrc,hlc⟩ := hz
 simp only at htL hbL hzA hz7 hrc hlc h7
 simp only [AuZ.res] at hS
 refine Zab Tryz.func20 rfl Tryz.ntmps20 rfl ?_
 repeat (first|refine Yea ?_|refine Yaf ?_|refine Yag ?_|refine Yav ?_|refine Ybu ?_|refine Ye4 ?_|refine Yab ?_)
 have hS := (hS.bagNil).own_none 35 1 none
 refine Zal (α := Nat × Option Addr × Nat × List Bs × List RowD) (fun y => [(0,.pointer (some ⟨ax,0,none⟩)),(1,.slice a M.length mc),(6,.slice y.2.1 y.1 y.2.2.1),(15,.slice a M.length mc),(16,.int .i64 (M.length : Nat)),(17,.int .i64 (y.1 : Nat))])
  (fun y w => y.1 ≤ M.length ∧ y.1 ≤ y.2.2.1 ∧ Zax y.2.2.2.1 = Zc0 (M.take y.1) ∧ BsIn y.2.2.2.1 y.2.2.2.2 ∧ (∀ r ∈ M.take y.1,rchk r = 0) ∧ St W F [own 35 1 y.2.1 y.2.2.1 (y.2.2.2.1.map Bs.val),bag y.2.2.2.2,pts ax (audC x la A.length lc),own 62 5 la lc (Zdw A),pts x (chnC (Zc0 A).length (Zaq rd fs (Zc0 A) (Zc0 A).length) tb ra rc),own 35 1 ra rc (L.map Bs.val),chR c f b T (Nt (trV (Zbc rd fs (Zc0 A)))) X] w)
  (fun y => M.length - y.1) (0,none,0,[],[]) ⟨rfl,rfl,rfl,rfl,rfl,rfl,trivial⟩ ⟨Nat.zero_le _,Nat.le_refl _,rfl,⟨fun _ h => (List.not_mem_nil h).elim,fun _ h => (List.not_mem_nil h).elim⟩,fun _ h => (List.not_mem_nil h).elim,hS⟩ ?_
 clear hS;rintro ⟨i,a1,c1,L1,Y⟩ w ⟨hi,hc1,hT1,hB1,hok1,hS⟩
 simp only at hi hc1 hT1 hB1 hok1 hS ⊢
 have hL1 : L1.length = i := by
  have := congrArg List.length hT1
  rw [Zh5,List.length_take] at this;simp [Zax] at this; omega
 by_cases hlt : i < M.length
 ·have hx0 : M[i]? = some M[i] := List.getElem?_eq_getElem hlt
  have htk : M.take (i + 1) = M.take i ++ [M[i]] := List.take_succ_eq_append_getElem hlt
  have hdr : M.drop i = M[i] :: M.drop (i + 1) := List.drop_eq_getElem_cons hlt
  generalize M[i] = r at hx0 htk hdr;have hxs := Zps hx0
  have hr := hM
  obtain ⟨ab,ao,rfl⟩ := (hr.rd hS).base (by intro e; rw [e] at hxs; simp at hxs)
  by_cases hok : rchk r = 0
  ·repeat (first|refine Yea ?_|(refine X_id ?_;first|refine Ya2 ?_|refine Ybc ?_|refine Ybg ?_|refine Ybp ?_|refine Yao (fun _ hS _ => ?_)|refine Yar (fun _ _ hS _ => ?_))|refine Yee ?_|refine Yab ?_)
   refine Zaa _ rfl rfl rfl rfl rfl (Zuf r _ (hG.at_ hS) (hSp.at_ hS) hok) ?_
   rintro _ w ⟨b1,q1,rfl,hq1,hS'⟩
   replace hS := hS.plus hS';clear hS';have hel := Znx hok
   repeat (first|refine Yea ?_|refine Yff ?_|refine Ybn (fun _ _ hS _ => ?_)|refine Yem ?_|refine Yab ?_)
   have hnw := (hS.rd (List.mem_cons_self ..)).own_row
   refine Zar (T := 35) (a := a1) (m := 1) rfl rfl rfl rfl rfl hS (by rw [List.length_map,hL1,Nat.mul_one]) hc1 hnw rfl (by simp [Value.oneCell']) (by omega) (by simp only [maxLen]; omega) (fun b' q'' w hS hq'' _ => ?_)
   repeat (first|refine Yea ?_|refine Yes ?_|refine Yad ?_|refine Yei ?_)
   have hS : St W F [own 5 1 b1 q1 (bv (encM (recM r))),bag Y,own 35 1 b' q'' (L1.map Bs.val ++ [.slice b1 (encM (recM r)).length q1]),pts ax (audC x la A.length lc),own 62 5 la lc (Zdw A),pts x (chnC (Zc0 A).length (Zaq rd fs (Zc0 A) (Zc0 A).length) tb ra rc),own 35 1 ra rc (L.map Bs.val),chR c f b T (Nt (trV (Zbc rd fs (Zc0 A)))) X] _ := hS.took
   have hS := hS.bagAdd (a := b1) (cs := bv (encM (recM r))) fun _ h => h.row
   refine Zaf (z := (i,a1,c1,L1,Y)) (i + 1,b',q'',L1 ++ [⟨b1,q1,encM (recM r)⟩],(b1,bv (encM (recM r))) :: Y) ⟨rfl,rfl,rfl,rfl,rfl,rfl,trivial⟩ ⟨hlt,hq'',?_,⟨fun u hu => ?_,fun u hu => ?_⟩,fun u hu => ?_,?_⟩ (by dsimp only; omega)
   ·dsimp only
    rw [htk,Zqm,← hT1];simp [Zax,Zc0]
   ·rcases List.mem_append.1 hu with hu | hu
    ·exact List.mem_cons_of_mem _ (hB1.inn u hu)
    ·rw [List.mem_singleton] at hu; rw [hu]; exact List.mem_cons_self ..
   ·rcases List.mem_append.1 hu with hu | hu
    ·exact hB1.cap u hu
    ·rw [List.mem_singleton] at hu; rw [hu]; exact hq1
   ·rw [htk] at hu
    rcases List.mem_append.1 hu with hu | hu
    ·exact hok1 u hu
    ·rw [List.mem_singleton] at hu; rw [hu]; exact hok
   ·dsimp only
    rw [show (L1 ++ [(⟨b1,q1,encM (recM r)⟩ : Bs)]).map Bs.val = L1.map Bs.val ++ [.slice b1 (encM (recM r)).length q1] by rw [List.map_append]; rfl]
    exact hS.took
  ·have hbd : badR M = rchk r := by
    rw [← List.take_append_drop i M,Z0w hok1,hdr,badR,if_neg hok]
   rw [hbd];have hE := fun W h => Zsl r W h hok
   generalize rchk r = n at hE hok;repeat (first|refine Yea ?_|(refine X_id ?_;first|refine Ya2 ?_|refine Ybc ?_|refine Ybg ?_|refine Ybp ?_|refine Yao (fun _ hS _ => ?_)|refine Yar (fun _ _ hS _ => ?_))|refine Yee ?_|refine Yab ?_)
   refine Zaa _ rfl rfl rfl rfl rfl (hE _ (hSp.at_ hS)) ?_
   rintro _ w ⟨rfl,hS'⟩
   replace hS := hS.plus hS';clear hS';repeat (first|refine Yea ?_|refine Yfg ?_|refine Yek ?_|refine Yfh ?_)
   exact .inl ⟨hok,rfl,hS.took⟩
 ·obtain rfl : i = M.length := by omega
  rw [List.take_length] at hT1 hok1;have hel := Zh5 A
  have hs4 : ∀ y ∈ L1,y.s.length ≤ 400 := fun y hy => Zhb hok1 y.s (by rw [← hT1]; exact List.mem_map_of_mem hy)
  rw [← hL1];repeat (first|refine Yea ?_|(refine X_id ?_;first|refine Yaf ?_|refine Yau ?_|refine Yan ?_|refine Ya6 ?_|refine Yap ?_)|refine Yeq ?_|refine Yeg ?_)
  obtain ⟨_,hcc,hr1,hw,hbk⟩ := hS.call [false,false,false,false,true,true,true]
  refine Zaa _ rfl rfl rfl rfl rfl (Z7i rd fs (Zc0 A) (by omega) (Zhb hzA) tb x ra rc L a1 L1 c1 _ _ (hT.mono hw) (hG.mono hw) (hD.mono hw) (hw _ htb) (hB1.bss (hr1 (own 35 1 a1 c1 (L1.map Bs.val)) (by simp)) (hr1 (bag Y) (by simp))) (by omega) hs4 htL hbL (by omega) hcc) ?_
  rintro _ w ⟨l',ra',rc',L',X',k,hl',hk,rfl,hX',hTL',hBL',hrc',hS⟩
  replace hS := hbk hS
  clear hbk hw hcc hr1;have hkl : k = L1.length := by rw [hk,hel]; omega
  rw [if_pos (show (Zc0 A).length + L1.length ≤ 7 by omega),hkl]
  rw [hkl,List.take_of_length_le (by simp [Zax]),hT1,← Zqm] at hl'
  subst hl'
  repeat (first|refine Yea ?_|refine Yeo ?_|refine Yae ?_|refine Yab ?_)
  refine Zam (.s 0 (.s 1 (.s 2 (.s 3 (.s 4 (.s 5 (.s 6 (.s 7 (.h 8 (.s 9 (.s 10 (.h 11 .nil .no))) .no))))))))) mixed (by kernel_rfl) rfl ?_
  have hS := hS.drew
  repeat (first|(refine Zae ?_;first|refine Ya3 ?_|refine Ybr ?_|refine Ybe ?_|refine Ybk ?_))
  refine Zak rfl rfl (fun _ => Zap (l := 0) (h := L1.length) rfl rfl rfl rfl (.inr ⟨_,_,rfl,by omega,by omega,by omega⟩) (.inl ⟨rfl,rfl⟩)) rfl rfl ?_
  rw [sub_zero,Nat.sub_zero,Nat.sub_zero];repeat (first|(refine Zae ?_;first|refine Yas ?_))
  refine Zar (T := 62) (a := la) (m := L1.length) rfl rfl rfl rfl rfl hS (Zhq A) hlc (hM.rd hS) (by rw [Zhq,hL1]) (Zkm M) (by omega) (by simp only [maxLen]; omega) (fun la' lc' w hS hlc' _ => ?_)
  repeat (first|refine Yea ?_|refine Yen ?_|refine Yao (fun _ hS _ => ?_)|refine Ye1 ?_|refine Yex ?_|(refine Zae ?_;first|refine Yay ?_|refine Ybr ?_|refine Ybe ?_|refine Yas ?_)|(refine Zac ?_;first|refine Yaz ?_))
  refine .inr ⟨Zom hok1,rfl,⟨A ++ M,la',lc',ra',rc',L',X'⟩,⟨hTL',hBL',fun u hu => (List.mem_append.1 hu).elim (hzA u) (hok1 u),by simp only [List.length_append]; omega,by rw [Zh5] at hrc'; exact hrc',by simp only [List.length_append]; omega⟩,rfl,hX',?_⟩
  rw [← Zkn] at hS;simp only [AuZ.res]
  rw [List.length_append,← hL1];exact hS.took
end
def may : List UInt8 := [97,98,99,100,101,102,103,104,105,106,107,108,109,110,111,112,113,114,115,116,117,118,119,120,121,122,48,49,50,51,52,53,54,55,56,57,46,45,95]
theorem Z20 : ∀ n : Fin 256,(UInt8.ofNat n.val ∈ may ↔ okC (UInt8.ofNat n.val)) := by decide +kernel
theorem Z1e (x : UInt8) : x ∈ may ↔ okC x := by
 have h := Z20 ⟨x.toNat,x.toNat_lt⟩
 simpa using h
theorem Z1a (s : List UInt8) (W : World) : Calls Tryz.prog 68 #[.string (str s)] W (Ret fun v w => v = .bool (decide (nameOk s)) ∧ St W noF [] w) := by
 have hS := St.start W
 have hz := Zce s
 have hzm : (str may).size = 39 := rfl
 by_cases h1 : s.length < 1
 ·rw [Zdj (.inl h1)]
  refine Zab Tryz.func68 rfl Tryz.ntmps68 rfl ?_
  repeat (first|refine Yep ?_|(refine X_id ?_;first|refine Yaf ?_|refine Yag ?_|refine Ya8 ?_|refine Yb0 ?_|refine Ybi ?_)|refine Yek ?_|refine Yel ?_)
  exact ⟨rfl,hS⟩
 by_cases h2 : 24 < s.length
 ·rw [Zdj (.inr (.inl h2))]
  refine Zab Tryz.func68 rfl Tryz.ntmps68 rfl ?_
  repeat (first|refine Yeu ?_|(refine X_id ?_;first|refine Yaf ?_|refine Yag ?_|refine Ya8 ?_|refine Ya1 ?_|refine Yb0 ?_|refine Ybh ?_|refine Ybx ?_)|refine Yek ?_|refine Yel ?_)
  exact ⟨rfl,hS⟩
 by_cases h3 : s = [46]
 ·rw [Zdj (.inr (.inr (.inl h3)))]
  refine Zab Tryz.func68 rfl Tryz.ntmps68 rfl ?_
  repeat (first|refine Yeu ?_|(refine X_id ?_;first|refine Yaf ?_|refine Yag ?_|refine Ya8 ?_|refine Ya1 ?_|refine Yb0 ?_|refine Ybh ?_|refine Ybs ?_|refine Yci ?_)|refine Yek ?_|refine Yel ?_)
  exact ⟨rfl,hS⟩
 by_cases h4 : s = [46,46]
 ·rw [Zdj (.inr (.inr (.inr h4)))]
  refine Zab Tryz.func68 rfl Tryz.ntmps68 rfl ?_
  repeat (first|refine Yer ?_|(refine X_id ?_;first|refine Yaf ?_|refine Yag ?_|refine Ya1 ?_|refine Yb0 ?_|refine Ybh ?_|refine Ybs ?_|refine Yci ?_|refine Ycd ?_)|refine Yek ?_|refine Yel ?_)
  exact ⟨rfl,hS⟩
 refine Zab Tryz.func68 rfl Tryz.ntmps68 rfl ?_
 repeat (first|refine Yer ?_|(refine X_id ?_;first|refine Yaf ?_|refine Yag ?_|refine Ya1 ?_|refine Yb0 ?_|refine Ybh ?_|refine Ybs ?_|refine Ycd ?_)|refine Ye4 ?_|refine Yab ?_)
 refine Zbz (α := Unit) (fun _ => []) (fun _ w => (∀ c ∈ s,okC c) ∧ St W noF [] w) ?_ ?_
 ·refine Zal (α := Nat) (fun i => [(0,.string (str s)),(3,.string (str may)),(4,.int .i64 (i : Nat))]) (fun i w => i ≤ s.length ∧ (∀ c ∈ s.take i,okC c) ∧ St W noF [] w) (fun i => s.length - i) 0 ⟨rfl,rfl,rfl,trivial⟩ ⟨Nat.zero_le _,fun c hc => by simp at hc,hS⟩ ?_
  clear hS;rintro i w ⟨hi,hok,hS⟩
  by_cases hlt : i < s.length
  ·obtain ⟨x,hx0⟩ : ∃ x,s[i]? = some x := ⟨_,List.getElem?_eq_getElem hlt⟩
   have hx : s[((i : Nat) : Int).toNat]? = some x := hx0
   repeat (first|refine Yea ?_|refine Yaf ?_|refine Yag ?_|refine Yb0 ?_|refine Ya2 ?_|refine Yee ?_|refine Yab ?_)
   refine Zbz (α := Unit) (fun _ => [(0,.string (str s)),(3,.string (str may)),(4,.int .i64 (i : Nat)),(5,.bool (decide (x ∈ may)))]) (fun _ w => St W noF [] w) ?_ ?_
   ·refine Zal (α := Nat × Bool) (fun z => [(0,.string (str s)),(3,.string (str may)),(4,.int .i64 (i : Nat)),(5,.bool z.2),(6,.int .i64 (z.1 : Nat))]) (fun z w => z.1 ≤ 39 ∧ z.2 = decide (x ∈ may.take z.1) ∧ St W noF [] w) (fun z => 39 - z.1) (0,false) ⟨rfl,rfl,rfl,rfl,rfl,trivial⟩ ⟨Nat.zero_le _,by simp,hS⟩ ?_
    clear hS;rintro ⟨k,fd⟩ w ⟨hk,hfd,hS⟩
    simp only at hk hfd hS
    by_cases hkl : k < 39
    ·obtain ⟨m,hm0⟩ : ∃ m,may[k]? = some m := ⟨_,List.getElem?_eq_getElem hkl⟩
     have hm : may[((k : Nat) : Int).toNat]? = some m := hm0
     have hnext : decide (x ∈ may.take (k + 1)) = (fd || decide (m = x)) := by
      rw [hfd,List.take_add_one,hm0];by_cases e1 : x ∈ may.take k <;> by_cases e2 : m = x
      ·simp [e1]
      ·simp [e1]
      ·simp [e2]
      ·simp [e1,e2]; exact fun h => e2 h.symm
     cases fd with
     | true =>
      repeat (first|refine Yea ?_|refine Yaf ?_|refine Yb0 ?_|refine Ya2 ?_|refine Yee ?_|refine Yab ?_)
      refine Zam (.s 0 (.s 1 (.s 2 (.s 3 (.s 4 (.s 5 (.s 6 (.s 7 (.s 8 (.s 9 (.s 10 .nil))))))))))) mixed (by kernel_rfl) rfl ?_
      have hS := hS.drew
      repeat (first|refine Yea ?_|refine Yes ?_|refine Yad ?_|refine Yei ?_|(refine Zae ?_;first|refine Yay ?_|refine Ya3 ?_|refine Ybm ?_|refine Ycb ?_|refine Ycc ?_))
      exact Zaf (z := (k,true)) (k + 1,true) ⟨rfl,rfl,rfl,rfl,rfl,trivial⟩ ⟨hkl,by rw [hnext]; rfl,hS⟩ (by dsimp only; omega)
     | false =>
      by_cases he : m = x
      ·have he' : m.toNat = x.toNat := by rw [he]
       repeat (first|refine Yea ?_|refine Yaf ?_|refine Yb0 ?_|refine Ya2 ?_|refine Yee ?_|refine Yab ?_)
       refine Zam (.s 0 (.s 1 (.s 2 (.s 3 (.s 4 (.s 5 (.s 6 (.s 7 (.s 8 (.s 9 (.s 10 .nil))))))))))) mixed (by kernel_rfl) rfl ?_
       have hS := hS.drew
       repeat (first|refine Yea ?_|refine Yes ?_|refine Yad ?_|refine Yei ?_|(refine Zae ?_;first|refine Yay ?_|refine Ya3 ?_|refine Ybm ?_|refine Yb7 ?_|refine Yb6 ?_|refine Zbv rfl rfl rfl rfl (fun _ => Zot rfl rfl rfl (by omega)) rfl rfl ?_|refine Yd9 ?_))
       exact Zaf (z := (k,false)) (k + 1,true) ⟨rfl,rfl,rfl,rfl,rfl,trivial⟩ ⟨hkl,by rw [hnext,decide_eq_true he]; rfl,hS⟩ (by dsimp only; omega)
      ·have he' : ¬ m.toNat = x.toNat := fun h => he (UInt8.toNat_inj.1 h)
       repeat (first|refine Yea ?_|refine Yaf ?_|refine Yb0 ?_|refine Ya2 ?_|refine Yee ?_|refine Yab ?_)
       refine Zam (.s 0 (.s 1 (.s 2 (.s 3 (.s 4 (.s 5 (.s 6 (.s 7 (.s 8 (.s 9 (.s 10 .nil))))))))))) mixed (by kernel_rfl) rfl ?_
       have hS := hS.drew
       repeat (first|refine Yea ?_|refine Yes ?_|refine Yad ?_|refine Yei ?_|(refine Zae ?_;first|refine Yay ?_|refine Ya3 ?_|refine Ybm ?_|refine Yb7 ?_|refine Yb6 ?_|refine Zbv rfl rfl rfl rfl (fun _ => Zic rfl rfl rfl (by omega)) rfl rfl ?_|refine Yd9 ?_))
       exact Zaf (z := (k,false)) (k + 1,false) ⟨rfl,rfl,rfl,rfl,rfl,trivial⟩ ⟨hkl,by rw [hnext,decide_eq_false he]; rfl,hS⟩ (by dsimp only; omega)
    ·repeat (first|refine Yea ?_|refine Yaf ?_|refine Yb0 ?_|refine Ya6 ?_|refine Yeq ?_|refine Yeg ?_)
     have e : may.take k = may := List.take_of_length_le (by show 39 ≤ k; omega)
     rw [e] at hfd;subst hfd
     exact Zbp () ⟨rfl,rfl,rfl,rfl,trivial⟩ hS
   ·clear hS
    rintro _ w hS
    by_cases hc : okC x
    ·rw [decide_eq_true ((Z1e x).2 hc)]
     repeat (first|refine Yea ?_|refine Yaf ?_|refine Yag ?_|refine Ybd ?_|refine Ya0 ?_|refine Yem ?_|refine Yei ?_)
     refine Zaf (z := i) (i + 1) ⟨rfl,rfl,rfl,trivial⟩ ⟨hlt,fun c hc' => ?_,hS⟩ (by omega)
     rw [List.take_add_one,hx0] at hc';rcases List.mem_append.1 hc' with h | h
     ·exact hok c h
     ·obtain rfl : c = x := by simpa using h
      exact hc
    ·rw [decide_eq_false (fun h => hc ((Z1e x).1 h))]
     repeat (first|refine Yea ?_|refine Yaf ?_|refine Yag ?_|refine Ybq ?_|refine Yek ?_|refine Yey ?_)
     refine ⟨?_,hS⟩
     rw [decide_eq_false (fun q : nameOk s => hc (q.2.2.2.2 x (List.mem_of_getElem? hx0)))]
  ·repeat (first|refine Yea ?_|refine Yaf ?_|refine Yb0 ?_|refine Ya6 ?_|refine Yeq ?_|refine Yeg ?_)
   refine Zbp () trivial ⟨?_,hS⟩
   rwa [List.take_of_length_le (by omega)] at hok
 ·clear hS
  rintro _ w ⟨hok,hS⟩
  repeat (first|refine Yea ?_|refine Yag ?_|refine Ye1 ?_|refine Yec ?_)
  refine ⟨?_,hS⟩
  rw [decide_eq_true (show nameOk s from ⟨by omega,by omega,h3,h4,hok⟩)]
theorem Zvy {i : Nat} (h : i < 6) : ∃ s,words6[i]? = some s ∧ (words6.map sv)[i]? = some (.string (str s)) := by
 have h0 : words6[i]? = some words6[i] := List.getElem?_eq_getElem h
 exact ⟨_,h0,by rw [List.getElem?_map,h0]; rfl⟩
theorem Z2l (r : Rec) (W : World) : Calls Tryz.prog 27 #[.agg r.cells.toArray] W (Ret fun v w => v = .int .i64 (rchk r : Nat) ∧ St W noF [] w) := by
 have hS := St.start W
 have hN1 := Z1a r.pub
 have hN2 := Z1a r.pkg
 refine Zab Tryz.func27 rfl Tryz.ntmps27 rfl ?_
 repeat (first|refine Yea ?_|(refine X_id ?_;first|refine Yag ?_|refine Yao (fun _ hS _ => ?_)|refine Ya5 (fun _ _ hS _ => ?_)|refine Yar (fun _ _ hS _ => ?_)|refine X_yl (Zsp rfl rfl rfl rfl rfl) rfl rfl ?_)|refine Yed ?_|refine Yab ?_)
 rename_i b1 _ _ _ b3 _ _ _ _ _;replace hS : St W noF [pts b3 (.cells (words6.map sv).toArray 146 (0,0)),pts b1 (.cells r.cells.toArray 57 (0,0))] _ := hS
 replace hS := hS.head Ztb
 refine Zbz (α := Unit) (fun _ => [(1,.pointer (some ⟨b1,0,none⟩)),(4,.bool (decide (r.cmd ∈ words6)))]) (fun _ w => St W noF [pts b1 (.cells r.cells.toArray 57 (0,0))] w) ?_ ?_
 ·refine Zal (α := Nat × Bool) (fun z => [(1,.pointer (some ⟨b1,0,none⟩)),(3,.pointer (some ⟨b3,0,none⟩)),(4,.bool z.2),(5,.int .i64 (z.1 : Nat))])
   (fun z w => z.1 ≤ 6 ∧ z.2 = decide (r.cmd ∈ words6.take z.1) ∧ St W noF [row (some ⟨b3,0,none⟩) (words6.map sv),pts b1 (.cells r.cells.toArray 57 (0,0))] w) (fun z => 6 - z.1) (0,false) ⟨rfl,rfl,rfl,rfl,trivial⟩ ⟨Nat.zero_le _,by simp,hS⟩ ?_
  clear hS;rintro ⟨k,fd⟩ w ⟨hk,hfd,hS⟩
  simp only at hk hfd hS
  by_cases hkl : k < 6
  ·obtain ⟨m,hm,hx⟩ := Zvy hkl
   have hnext : decide (r.cmd ∈ words6.take (k + 1)) = (fd || decide (m = r.cmd)) := by
    rw [hfd,List.take_add_one,hm];by_cases e1 : r.cmd ∈ words6.take k <;> by_cases e2 : m = r.cmd
    ·simp [e1]
    ·simp [e1]
    ·simp [e2]
    ·simp [e1,e2]; exact fun h => e2 h.symm
   cases fd with
   | true =>
    repeat (first|refine Yea ?_|refine Yaf ?_|refine Ya2 ?_|refine Yee ?_|refine Yab ?_)
    refine Zam (.s 0 (.s 1 (.s 2 (.s 3 (.s 4 (.s 5 (.s 6 (.s 7 (.s 8 (.s 9 .nil)))))))))) mixed (by kernel_rfl) rfl ?_
    have hS := hS.drew
    repeat (first|refine Yea ?_|refine Yes ?_|refine Yad ?_|refine Yei ?_|(refine Zae ?_;first|refine Yay ?_|refine Ya3 ?_|refine Ybm ?_|refine Ycb ?_|refine Ycc ?_))
    exact Zaf (z := (k,true)) (k + 1,true) ⟨rfl,rfl,rfl,rfl,trivial⟩ ⟨hkl,by rw [hnext]; rfl,hS⟩ (by dsimp only; omega)
   | false =>
    by_cases he : m = r.cmd
    ·repeat (first|refine Yea ?_|refine Yaf ?_|refine Ya2 ?_|refine Yee ?_|refine Yab ?_)
     refine Zam (.s 0 (.s 1 (.s 2 (.s 3 (.s 4 (.s 5 (.s 6 (.s 7 (.s 8 (.s 9 .nil)))))))))) mixed (by kernel_rfl) rfl ?_
     have hS := hS.drew
     have hcell := (hS.rd (r := row (some ⟨b3,0,none⟩) (words6.map sv)) (by simp)).cellF (o' := 0 + ((k : Nat) : Int).toNat * 1) (by omega) hx
     repeat (first|refine Yea ?_|refine Yes ?_|refine Yad ?_|refine Yei ?_|(refine Zae ?_;first|refine Yay ?_|refine Ya3 ?_|refine Ybm ?_|refine Yb7 ?_|refine Yb6 ?_|refine Yck ?_|refine Yd7 ?_|refine Ycr ?_|refine Yd8 ?_|refine Zbv rfl rfl rfl rfl (fun _ => Zm2 rfl rfl rfl (by assumption)) rfl rfl ?_))
     exact Zaf (z := (k,false)) (k + 1,true) ⟨rfl,rfl,rfl,rfl,trivial⟩ ⟨hkl,by rw [hnext,decide_eq_true he]; rfl,hS⟩ (by dsimp only; omega)
    ·repeat (first|refine Yea ?_|refine Yaf ?_|refine Ya2 ?_|refine Yee ?_|refine Yab ?_)
     refine Zam (.s 0 (.s 1 (.s 2 (.s 3 (.s 4 (.s 5 (.s 6 (.s 7 (.s 8 (.s 9 .nil)))))))))) mixed (by kernel_rfl) rfl ?_
     have hS := hS.drew
     have hcell := (hS.rd (r := row (some ⟨b3,0,none⟩) (words6.map sv)) (by simp)).cellF (o' := 0 + ((k : Nat) : Int).toNat * 1) (by omega) hx
     repeat (first|refine Yea ?_|refine Yes ?_|refine Yad ?_|refine Yei ?_|(refine Zae ?_;first|refine Yay ?_|refine Ya3 ?_|refine Ybm ?_|refine Yb7 ?_|refine Yb6 ?_|refine Yck ?_|refine Yd7 ?_|refine Ycr ?_|refine Yd8 ?_|refine Zbv rfl rfl rfl rfl (fun _ => Zm3 rfl rfl rfl (by assumption)) rfl rfl ?_))
     exact Zaf (z := (k,false)) (k + 1,false) ⟨rfl,rfl,rfl,rfl,trivial⟩ ⟨hkl,by rw [hnext,decide_eq_false he]; rfl,hS⟩ (by dsimp only; omega)
  ·repeat (first|refine Yea ?_|refine Yaf ?_|refine Ya6 ?_|refine Yeq ?_|refine Yeg ?_)
   have e : words6.take k = words6 := List.take_of_length_le (by show 6 ≤ k; omega)
   rw [e] at hfd;subst hfd
   exact Zbp () ⟨rfl,rfl,trivial⟩ (hS.pick [1])
 ·clear hS
  rintro _ w hS
  by_cases h1 : r.cmd ∈ words6
  ·rw [decide_eq_true h1]
   have c1 : r.pub = [] ∨ (¬ r.pub = [] ∧ nameOk r.pub) ∨ (¬ r.pub = [] ∧ ¬ nameOk r.pub) := by
    by_cases a : r.pub = []
    ·exact .inl a
    ·by_cases b : nameOk r.pub
     ·exact .inr (.inl ⟨a,b⟩)
     ·exact .inr (.inr ⟨a,b⟩)
   have c2 : r.pkg = [] ∨ (¬ r.pkg = [] ∧ nameOk r.pkg) ∨ (¬ r.pkg = [] ∧ ¬ nameOk r.pkg) := by
    by_cases a : r.pkg = []
    ·exact .inl a
    ·by_cases b : nameOk r.pkg
     ·exact .inr (.inl ⟨a,b⟩)
     ·exact .inr (.inr ⟨a,b⟩)
   have e : Zdp r.pub → Zdp r.pkg → rchk r = if 0 ≤ r.rev ∧ r.rev ≤ 999999 ∧ 0 ≤ r.out ∧ r.out ≤ 19 then 0 else 2 := fun p1 p2 => by unfold rchk; rw [if_pos h1,if_pos ⟨p1,p2⟩]
   rcases c1 with n1 | ⟨n1,q1⟩ | ⟨n1,q1⟩
   case inr.inr =>
    rw [decide_eq_false q1] at hN1;rw [show rchk r = 10 by unfold rchk; rw [if_pos h1,if_neg (fun q => q.1.elim n1 q1)]]
    repeat (first|refine Yac ?_|refine Yaa ?_|refine Yax ?_|refine Ybf ?_|refine Yc6 ?_|(refine X_id ?_;first|(refine Zad 68 rfl rfl rfl rfl rfl hS (hN1 _) ?_;rintro _ _ rfl hS)|refine Yaf ?_|refine Yag ?_|refine Yan ?_|refine Ya8 ?_|refine Ybd ?_|refine Ybq ?_|refine Yap ?_|refine X_yl (Zgq rfl rfl rfl (by assumption)) rfl rfl ?_)|refine Yez ?_|refine Yel ?_)
    exact ⟨rfl,hS.drops⟩
   case' inl => replace e := e (.inl n1)
   case' inr.inl =>
    replace e := e (.inr q1)
    rw [decide_eq_true q1] at hN1
   all_goals
    rcases c2 with n2 | ⟨n2,q2⟩ | ⟨n2,q2⟩
    ·replace e := e (.inl n2)
     repeat' (first | (refine Zad 68 rfl rfl rfl rfl rfl hS (hN1 _) ?_; rintro _ _ rfl hS) | (refine G_id ?_; first | refine Zly ?_ | refine Zeq rfl rfl ?_ | refine Zvw rfl rfl rfl rfl ?_ | refine G_no rfl rfl rfl rfl rfl rfl ?_) | (refine X_id ?_; first | refine X_yl (Zby rfl rfl) rfl rfl ?_ | refine X_yl (Za1 rfl rfl) rfl rfl ?_ | refine X_yl (Zc5 rfl rfl rfl) rfl rfl ?_ | refine X_yl (Zgd rfl rfl rfl) rfl rfl ?_ | refine X_yl (Zfe rfl rfl rfl) rfl rfl ?_ | refine X_yl (Zgp rfl rfl) rfl rfl ?_ | refine X_yl (Zjj rfl rfl rfl) rfl rfl ?_ | refine X_yl (Zm1 rfl rfl rfl) rfl rfl ?_ | refine X_yl (Zas rfl rfl hS.cell) rfl rfl ?_ | refine X_yl (Zi2 rfl rfl rfl (by assumption)) rfl rfl ?_ | refine X_yl (Zgq rfl rfl rfl (by assumption)) rfl rfl ?_) | (refine C_id ?_; first | refine Zc1 ?_ | refine Zav ?_ | refine Zhf ?_ | refine Zes ?_ | refine Zbt rfl ?_ | refine Zbh rfl ?_) | (refine E_id ?_; first | refine Zcy ?_ | refine Zcg ?_ | refine Zg2 rfl (Za9 rfl) (Ret.mk ?_)) | (refine Zct (d := 45) rfl ?_ ?_ <;> intro hd) | (refine Zct (d := 50) rfl ?_ ?_ <;> intro hd) | (refine Zct (d := 55) rfl ?_ ?_ <;> intro hd) | (refine Zd2 rfl ?_ ?_ <;> intro hd))
     all_goals
      refine ⟨?_,hS.drops⟩
      rw [e]
      first | (rw [if_pos (by omega)]; rfl) | (rw [if_neg (by omega)]; rfl)
    ·replace e := e (.inr q2)
     rw [decide_eq_true q2] at hN2;repeat' (first | (refine Zad 68 rfl rfl rfl rfl rfl hS (hN1 _) ?_; rintro _ _ rfl hS) | (refine Zad 68 rfl rfl rfl rfl rfl hS (hN2 _) ?_; rintro _ _ rfl hS) | (refine G_id ?_; first | refine Zly ?_ | refine Zeq rfl rfl ?_ | refine Zvw rfl rfl rfl rfl ?_ | refine G_no rfl rfl rfl rfl rfl rfl ?_) | (refine X_id ?_; first | refine X_yl (Zby rfl rfl) rfl rfl ?_ | refine X_yl (Za1 rfl rfl) rfl rfl ?_ | refine X_yl (Zc5 rfl rfl rfl) rfl rfl ?_ | refine X_yl (Zgd rfl rfl rfl) rfl rfl ?_ | refine X_yl (Zfe rfl rfl rfl) rfl rfl ?_ | refine X_yl (Zgp rfl rfl) rfl rfl ?_ | refine X_yl (Zjj rfl rfl rfl) rfl rfl ?_ | refine X_yl (Zm1 rfl rfl rfl) rfl rfl ?_ | refine X_yl (Zas rfl rfl hS.cell) rfl rfl ?_ | refine X_yl (Zi2 rfl rfl rfl (by assumption)) rfl rfl ?_ | refine X_yl (Zgq rfl rfl rfl (by assumption)) rfl rfl ?_) | (refine C_id ?_; first | refine Zc1 ?_ | refine Zav ?_ | refine Zhf ?_ | refine Zes ?_ | refine Zbt rfl ?_ | refine Zbh rfl ?_) | (refine E_id ?_; first | refine Zcy ?_ | refine Zcg ?_ | refine Zg2 rfl (Za9 rfl) (Ret.mk ?_)) | (refine Zct (d := 45) rfl ?_ ?_ <;> intro hd) | (refine Zct (d := 50) rfl ?_ ?_ <;> intro hd) | (refine Zct (d := 55) rfl ?_ ?_ <;> intro hd) | (refine Zd2 rfl ?_ ?_ <;> intro hd))
     all_goals
      refine ⟨?_,hS.drops⟩
      rw [e]
      first | (rw [if_pos (by omega)]; rfl) | (rw [if_neg (by omega)]; rfl)
    ·rw [decide_eq_false q2] at hN2
     rw [show rchk r = 10 by unfold rchk; rw [if_pos h1,if_neg (fun q => q.2.elim n2 q2)]]
     repeat (first|refine Yeu ?_|(refine X_id ?_;first|(refine Zad 68 rfl rfl rfl rfl rfl hS (hN1 _) ?_;rintro _ _ rfl hS)|(refine Zad 68 rfl rfl rfl rfl rfl hS (hN2 _) ?_;rintro _ _ rfl hS)|refine Yaf ?_|refine Yag ?_|refine Yan ?_|refine Ya8 ?_|refine Ya1 ?_|refine Ybd ?_|refine Ybq ?_|refine Yap ?_|refine X_yl (Zi2 rfl rfl rfl (by assumption)) rfl rfl ?_|refine X_yl (Zgq rfl rfl rfl (by assumption)) rfl rfl ?_)|refine Yez ?_|refine Yel ?_)
     exact ⟨rfl,hS.drops⟩
  ·rw [decide_eq_false h1]
   rw [show rchk r = 1 from if_neg h1];repeat (first|refine Yea ?_|refine Yaf ?_|refine Yag ?_|refine Ybq ?_|refine Yek ?_|refine Yel ?_)
   exact ⟨rfl,hS.drops⟩
theorem Z61 (r : Rec) (W : World) : Calls Tryz.prog 28 #[.agg r.cells.toArray] W (Ret fun v w => v = .agg r.cells.toArray ∧ St W noF [] w) := by
 have hS := St.start W
 refine Zab Tryz.func28 rfl Tryz.ntmps28 rfl ?_
 repeat (first|refine Yea ?_|(refine X_id ?_;first|refine Yan ?_|refine Ybl ?_|refine Yap ?_|refine Yao (fun _ hS _ => ?_)|refine Ya5 (fun _ _ hS _ => ?_)|refine Yar (fun _ _ hS _ => ?_))|refine Ye1 ?_|refine Yab ?_|refine Ybw ?_)
 exact ⟨rfl,hS.drops⟩
section
variable {P : Program} {o : Oper} {σ : Env} {w : World} {x y : Operand} {t ty : TypeId}
theorem Zvt {a b : Bool} (ho : o.op = .binOp .neq t x y ty) (hx : ev σ x = some (.bool a)) (hy : ev σ y = some (.bool b)) [h : Und P t .bool] : Yl P o σ w (.bool (!(a == b))) := ⟨fun N ds f ha => by
 have h2 := run_neq_bool (P := P) w t a b h.und
 simp [execOp,ho,ha.eval hx,ha.eval hy,eqGuard,h2]⟩
end
def ARes (W : World) (r : Option Rec) (v : Value) (w : World) : Prop :=
 match r with
 | some r => v = .tuple #[.agg r.cells.toArray,.int .i64 0] ∧ St W noF [] w
 | none => v = .tuple #[.agg zRec.cells.toArray,.int .i64 3] ∧ St W noF [] w
def Ziq (i : Nat) (y : Mv) : Prop := if i < 3 then ∃ b,y = txM b else ∃ n,y = nuM n
theorem Zwm {x : List Mv} {i : Nat} {y : Mv} (h : x[i]? = some y) (hi : i < 5) (hk : ¬ Ziq i y) : Zg5 (liM x) = none := by
 unfold Zg5
 split
 ·exfalso
  apply hk
  rename_i e;injection e with _ _ _ e
  subst e
  have hc : i = 0 ∨ i = 1 ∨ i = 2 ∨ i = 3 ∨ i = 4 := by omega
  rcases hc with rfl | rfl | rfl | rfl | rfl
  ·exact ⟨_,(Option.some.inj h).symm⟩
  ·exact ⟨_,(Option.some.inj h).symm⟩
  ·exact ⟨_,(Option.some.inj h).symm⟩
  ·exact ⟨_,(Option.some.inj h).symm⟩
  ·exact ⟨_,(Option.some.inj h).symm⟩
 ·rfl
theorem Zu0 {x : List Mv} (h : x.length ≠ 5) : Zg5 (liM x) = none := by
 unfold Zg5
 split
 ·rename_i e
  injection e with _ _ _ e
  subst e
  exact absurd rfl h
 ·rfl
theorem Zzq {x : List Mv} (h5 : x.length = 5) (h : ∀ i y,i < 5 → x[i]? = some y → Ziq i y) : ∃ c p k n o,x = [txM c,txM p,txM k,nuM n,nuM o] := by
 match x,h5,h with
 | [y0,y1,y2,y3,y4],_,h =>
  obtain ⟨c,rfl⟩ := h 0 _ (by omega) rfl
  obtain ⟨p,rfl⟩ := h 1 _ (by omega) rfl
  obtain ⟨k,rfl⟩ := h 2 _ (by omega) rfl
  obtain ⟨n,rfl⟩ := h 3 _ (by omega) rfl
  obtain ⟨o,rfl⟩ := h 4 _ (by omega) rfl
  exact ⟨_,_,_,_,_,rfl⟩
theorem Z64 {α : Type} {l : List α} (h : l.length = 5) : ∃ a b c d e,l = [a,b,c,d,e] := by
 match l,h with
 | [a,b,c,d,e],_ => exact ⟨a,b,c,d,e,rfl⟩
theorem Z3p (a : Option Addr) (s : List UInt8) (c : Nat) (hsc : s.length ≤ c) (hl : s.length ≤ 65536) (W : World) (hG : Lg W noF) (hT : Sp W noF) (hb : Ro W noF (bytes a s)) :
  Calls Tryz.prog 110 #[.slice a s.length c] W (Ret fun v w => ARes W ((decM s).bind Zg5) v w) := by
 have hS := St.start W
 have hD := Zj0 a s c hsc (by omega)
 have hck : ∀ t,decM s = some t → chkM 8 t = 0 := fun t h => (Ziy h).2.1
 generalize decM s = res at hD hck ⊢;refine Zab Tryz.func110 rfl Tryz.ntmps110 rfl ?_
 repeat (first|refine Yea ?_|refine Yen ?_|refine Yar (fun _ _ hS _ => ?_)|refine Yeb ?_|refine Yab ?_)
 rename_i b2 _ _;refine Zaa _ rfl rfl rfl rfl rfl (hD _ (hG.at_ hS) (hb.rd hS).ro) ?_
 rintro v w hV
 cases res with
 | none =>
  obtain ⟨e,rfl,he,hS'⟩ := hV
  replace hS := hS.plus hS';clear hS';repeat (first|refine Yep ?_|(refine X_id ?_;first|refine Yaf ?_|refine Yag ?_|refine Yat ?_|refine Ya8 ?_|refine Ybj ?_|refine Ybl ?_|refine Yao (fun _ hS _ => ?_)|refine Yar (fun _ _ hS _ => ?_))|refine Yek ?_|refine Yab ?_|refine Yaq ?_|refine Ybv ?_)
  exact ⟨rfl,hS.drops⟩
 | some t =>
  obtain ⟨cs,X,rfl,hM,hS'⟩ := hV
  replace hS := hS.plus hS';clear hS';simp only [Option.bind_some]
  rcases Za8 (hck t rfl) with ⟨n,rfl⟩ | ⟨d,rfl⟩ | ⟨x,m',rfl,_,hxc⟩
  ·obtain ⟨a1,c1,a2,c2,rows,rfl,_⟩ := hM.lit
   simp only [Mv.kind,Mv.num,Mv.txt,Mv.lst,List.length_nil]
   repeat (first|refine Yeu ?_|(refine X_id ?_;first|refine Yaf ?_|refine Yag ?_|refine Yan ?_|refine Yat ?_|refine Ya8 ?_|refine Ya1 ?_|refine Ybj ?_|refine Ya4 ?_|refine Ybl ?_|refine Yap ?_|refine Yao (fun _ hS _ => ?_)|refine Yar (fun _ _ hS _ => ?_))|refine Yek ?_|refine Yab ?_|refine Yaq ?_|refine Ybv ?_)
   exact ⟨rfl,hS.drops⟩
  ·obtain ⟨a1,c1,a2,c2,rows,rfl,_⟩ := hM.lit
   simp only [Mv.kind,Mv.num,Mv.txt,Mv.lst,List.length_nil]
   repeat (first|refine Yeu ?_|(refine X_id ?_;first|refine Yaf ?_|refine Yag ?_|refine Yan ?_|refine Yat ?_|refine Ya8 ?_|refine Ya1 ?_|refine Ybj ?_|refine Ya4 ?_|refine Ybl ?_|refine Yap ?_|refine Yao (fun _ hS _ => ?_)|refine Yar (fun _ _ hS _ => ?_))|refine Yek ?_|refine Yab ?_|refine Yaq ?_|refine Ybv ?_)
   exact ⟨rfl,hS.drops⟩
  ·obtain ⟨a1,c1,a2,c2,rows,rfl,_,_,hr0,hL0⟩ := hM.lit
   simp only [Mv.kind,Mv.num,Mv.txt,Mv.lst,List.length_nil] at hr0 hL0 ⊢
   by_cases h5 : x.length = 5
   case neg =>
    rw [Zu0 h5];repeat (first|refine Yer ?_|(refine X_id ?_;first|refine Yaf ?_|refine Yag ?_|refine Yan ?_|refine Yat ?_|refine Ya1 ?_|refine Yav ?_|refine Ybj ?_|refine Ya4 ?_|refine Ybl ?_|refine Yap ?_|refine Yao (fun _ hS _ => ?_)|refine Yar (fun _ _ hS _ => ?_))|refine Yek ?_|refine Yab ?_|refine Yaq ?_|refine Ybv ?_)
    exact ⟨rfl,hS.drops⟩
   case pos =>
    rw [h5];repeat (first|refine Yer ?_|(refine X_id ?_;first|refine Yaf ?_|refine Yag ?_|refine Yan ?_|refine Yat ?_|refine Ya1 ?_|refine Yav ?_|refine Ya4 ?_|refine Yap ?_|refine Yao (fun _ hS _ => ?_)|refine Yar (fun _ _ hS _ => ?_))|refine Ye4 ?_|refine Yab ?_)
    clear hD hck hM;rename_i b4 _ _ _ w1 _;obtain ⟨F2,hS2,hro,hw,hbk⟩ := hS.call [true,false,true]
    replace hT : Sp w1 F2 := hw _ hT
    have hr : Ro w1 F2 (row a2 rows.flatten) := hr0.ro (hro (bag X) (by simp))
    have hL : Mrds (RoR w1 F2) x rows := hL0.mono fun _ _ h => h.ro (hro (bag X) (by simp))
    clear hro hS hr0 hL0;have hS := hS2
    clear hS2;refine Zbz (α := Unit) (fun _ => [(2,.pointer (some ⟨b2,0,none⟩)),(4,.pointer (some ⟨b4,0,none⟩))]) (fun _ w => (∀ i y,i < 5 → x[i]? = some y → Ziq i y) ∧ St w1 F2 [pts b4 (.cells (List.toArray [.int .i64 2,.int .i64 0,.slice a1 0 c1,.slice a2 5 c2]) 38 (0,0)),pts b2 (.cells (List.toArray [.string (str []),.string (str []),.string (str []),.int .i64 0,.int .i64 0]) 62 (0,0))] w) ?_ ?_
    ·refine Zal (α := Nat) (fun i => [(2,.pointer (some ⟨b2,0,none⟩)),(4,.pointer (some ⟨b4,0,none⟩)),(29,.slice a2 5 c2),(30,.int .i64 (5 : Nat)),(31,.int .i64 (i : Nat))])
      (fun i w => i ≤ 5 ∧ (∀ j y,j < i → x[j]? = some y → Ziq j y) ∧ St w1 F2 [pts b4 (.cells (List.toArray [.int .i64 2,.int .i64 0,.slice a1 0 c1,.slice a2 5 c2]) 38 (0,0)),pts b2 (.cells (List.toArray [.string (str []),.string (str []),.string (str []),.int .i64 0,.int .i64 0]) 62 (0,0))] w)
      (fun i => 5 - i) 0 ⟨rfl,rfl,rfl,rfl,rfl,trivial⟩ ⟨Nat.zero_le _,fun j y hj => by omega,hS⟩ ?_
     clear hS;rintro i w ⟨hi,hok,hS⟩
     by_cases hlt : i < 5
     ·obtain ⟨y,hy0⟩ : ∃ y,x[i]? = some y := ⟨_,List.getElem?_eq_getElem (by omega)⟩
      obtain ⟨cs,hxs,hy⟩ := hL.at_ hy0
      have hnext : Ziq i y → ∀ j z,j < i + 1 → x[j]? = some z → Ziq j z := fun hk j z hj hz => by
       rcases Nat.lt_or_ge j i with h | h
       ·exact hok j z h hz
       ·obtain rfl : j = i := by omega
        rw [hy0] at hz;obtain rfl := Option.some.inj hz
        exact hk
      have hbad : ¬ Ziq i y → Zg5 (liM x) = none := fun hk => Zwm hy0 hlt hk
      have hym := hxc y (List.mem_of_getElem? hy0)
      obtain ⟨d1,e1,d2,e2,rows2,rfl,_⟩ := hy.lit
      obtain ⟨ab,ao,rfl⟩ := hr.start.base (by
       intro e
       rw [e] at hxs;simp at hxs)
      by_cases h3 : i < 3
      ·rcases Za8 hym with ⟨n,rfl⟩ | ⟨d,rfl⟩ | ⟨l,_,rfl,_⟩
       ·simp only [Mv.kind,Mv.num,Mv.txt,Mv.lst,List.length_nil] at hxs
        rw [hbad (by unfold Ziq; rw [if_pos h3]; rintro ⟨_,h⟩; cases h)]
        repeat (first|refine Yep ?_|(refine X_id ?_;first|refine Yaf ?_|refine Yag ?_|refine Yan ?_|refine Ya8 ?_|refine Ybh ?_|refine Ya2 ?_|refine Ybl ?_|refine Ybc ?_|refine Yap ?_|refine Ybp ?_|refine Yao (fun _ hS _ => ?_)|refine Yar (fun _ _ hS _ => ?_)|refine Ydb ?_)|refine Yfs ?_|refine Yfn ?_)
        exact ⟨rfl,(hbk hS).drops⟩
       ·simp only [Mv.kind,Mv.num,Mv.txt,Mv.lst,List.length_nil] at hxs
        repeat (first|refine Yer ?_|(refine X_id ?_;first|refine Yaf ?_|refine Yag ?_|refine Yan ?_|refine Ya1 ?_|refine Ybi ?_|refine Ybh ?_|refine Ya2 ?_|refine Ybs ?_|refine Ybc ?_|refine Ya0 ?_|refine Yap ?_|refine Ybp ?_|refine Yao (fun _ hS _ => ?_)|refine Yar (fun _ _ hS _ => ?_)|refine Ydb ?_)|refine Yeh ?_|refine Yei ?_)
        exact Zaf (z := i) (i + 1) ⟨rfl,rfl,rfl,rfl,rfl,trivial⟩ ⟨hlt,hnext (by unfold Ziq; rw [if_pos h3]; exact ⟨_,rfl⟩),hS.took⟩ (by omega)
       ·simp only [Mv.kind,Mv.num,Mv.txt,Mv.lst,List.length_nil] at hxs
        rw [hbad (by unfold Ziq; rw [if_pos h3]; rintro ⟨_,h⟩; cases h)]
        repeat (first|refine Yep ?_|(refine X_id ?_;first|refine Yaf ?_|refine Yag ?_|refine Yan ?_|refine Ya8 ?_|refine Ybh ?_|refine Ya2 ?_|refine Ybl ?_|refine Ybc ?_|refine Yap ?_|refine Ybp ?_|refine Yao (fun _ hS _ => ?_)|refine Yar (fun _ _ hS _ => ?_)|refine Ydb ?_)|refine Yfs ?_|refine Yfn ?_)
        exact ⟨rfl,(hbk hS).drops⟩
      ·rcases Za8 hym with ⟨n,rfl⟩ | ⟨d,rfl⟩ | ⟨l,_,rfl,_⟩
       ·simp only [Mv.kind,Mv.num,Mv.txt,Mv.lst,List.length_nil] at hxs
        repeat (first|refine Yer ?_|(refine X_id ?_;first|refine Yaf ?_|refine Yag ?_|refine Yan ?_|refine Ya1 ?_|refine Ybi ?_|refine Ybh ?_|refine Ya2 ?_|refine Ya6 ?_|refine Ybx ?_|refine Ybc ?_|refine Ya0 ?_|refine Yap ?_|refine Ybp ?_|refine Yao (fun _ hS _ => ?_)|refine Yar (fun _ _ hS _ => ?_)|refine Ydb ?_)|refine Yeh ?_|refine Yei ?_)
        exact Zaf (z := i) (i + 1) ⟨rfl,rfl,rfl,rfl,rfl,trivial⟩ ⟨hlt,hnext (by unfold Ziq; rw [if_neg h3]; exact ⟨_,rfl⟩),hS.took⟩ (by omega)
       ·simp only [Mv.kind,Mv.num,Mv.txt,Mv.lst,List.length_nil] at hxs
        rw [hbad (by unfold Ziq; rw [if_neg h3]; rintro ⟨_,h⟩; cases h)]
        repeat (first|refine Yep ?_|(refine X_id ?_;first|refine Yaf ?_|refine Yag ?_|refine Yan ?_|refine Ya8 ?_|refine Ybi ?_|refine Ya2 ?_|refine Ya6 ?_|refine Ybl ?_|refine Ybc ?_|refine Yap ?_|refine Ybp ?_|refine Yao (fun _ hS _ => ?_)|refine Yar (fun _ _ hS _ => ?_)|refine Ydb ?_)|refine Yfs ?_|refine Yfn ?_)
        exact ⟨rfl,(hbk hS).drops⟩
       ·simp only [Mv.kind,Mv.num,Mv.txt,Mv.lst,List.length_nil] at hxs
        rw [hbad (by unfold Ziq; rw [if_neg h3]; rintro ⟨_,h⟩; cases h)]
        repeat (first|refine Yer ?_|(refine X_id ?_;first|refine Yaf ?_|refine Yag ?_|refine Yan ?_|refine Ya1 ?_|refine Ybh ?_|refine Ya2 ?_|refine Ya6 ?_|refine Ybx ?_|refine Ybl ?_|refine Ybc ?_|refine Yap ?_|refine Ybp ?_|refine Yao (fun _ hS _ => ?_)|refine Yar (fun _ _ hS _ => ?_)|refine Ydb ?_)|refine Yfs ?_|refine Yfn ?_)
        exact ⟨rfl,(hbk hS).drops⟩
     ·obtain rfl : i = 5 := by omega
      repeat (first|refine Yea ?_|refine Ya6 ?_|refine Yeq ?_|refine Yeg ?_)
      exact Zbp () ⟨rfl,rfl,trivial⟩ ⟨hok,hS⟩
    ·clear hS
     rintro _ w ⟨hok,hSn⟩
     obtain ⟨d0,d1,d2,n3,n4,rfl⟩ := Zzq h5 hok
     obtain ⟨hrl,hL⟩ := hL
     obtain ⟨r0,r1,r2,r3,r4,rfl⟩ := Z64 hrl
     obtain ⟨f0,g0,f0',g0',_,rfl,_,hb0,_⟩ := (hL 0 _ _ rfl rfl).lit
     obtain ⟨f1,g1,f1',g1',_,rfl,_,hb1,_⟩ := (hL 1 _ _ rfl rfl).lit
     obtain ⟨f2,g2,f2',g2',_,rfl,_,hb2,_⟩ := (hL 2 _ _ rfl rfl).lit
     obtain ⟨f3,g3,f3',g3',_,rfl,_⟩ := (hL 3 _ _ rfl rfl).lit
     obtain ⟨f4,g4,f4',g4',_,rfl,_⟩ := (hL 4 _ _ rfl rfl).lit
     obtain ⟨ab,ao,rfl⟩ := hr.start.base (by simp)
     clear hL hrl hok;simp only [Mv.kind,Mv.num,Mv.txt,Mv.lst,List.length_nil] at hr hb0 hb1 hb2
     replace hb0 : Ro w1 F2 (bytes f0 d0) := hb0
     replace hb1 : Ro w1 F2 (bytes f1 d1) := hb1
     replace hb2 : Ro w1 F2 (bytes f2 d2) := hb2
     replace hr : Ro w1 F2 (row (some ⟨ab,ao,none⟩) [.int .i64 1,.int .i64 0,.slice f0 d0.length g0,.slice f0' 0 g0',.int .i64 1,.int .i64 0,.slice f1 d1.length g1,.slice f1' 0 g1',.int .i64 1,.int .i64 0,.slice f2 d2.length g2,.slice f2' 0 g2',.int .i64 0,.int .i64 n3,.slice f3 0 g3,.slice f3' 0 g3',.int .i64 0,.int .i64 n4,.slice f4 0 g4,.slice f4' 0 g4']) := hr
     have hck := fun W h => Zsk ⟨d0,d1,d2,n3,n4⟩ W h
     have hres : Zg5 (liM [txM d0,txM d1,txM d2,nuM n3,nuM n4]) = if rchk ⟨d0,d1,d2,n3,n4⟩ = 0 then some ⟨d0,d1,d2,n3,n4⟩ else none := rfl
     rw [hres];have hS := hSn
     clear hSn;repeat (first|refine Yae ?_)
     refine Zam (.s 0 (.s 1 (.s 2 (.s 3 (.s 4 (.s 5 (.s 6 (.s 7 (.s 8 (.s 9 (.s 10 (.s 11 (.s 12 (.s 13 (.s 14 (.s 15 (.s 16 (.s 17 (.s 18 (.s 19 (.s 20 (.s 21 (.s 22 (.s 23 (.s 24 (.s 25 (.s 26 (.s 27 (.s 28 (.h 29 (.h 30 .nil .no) .no)))))))))))))))))))))))))))))) mixed (by kernel_rfl) rfl ?_
     have hS := hS.drew
     repeat' (first|(refine Zat (fun w' => w'.cell? _ = some _) rfl rfl ((hr.rd hS).cellF (i := 2) (by first|omega|(dsimp only;omega)) rfl) (fun _ hc => Zas rfl rfl hc) rfl rfl ?_)|(refine Zat (fun w' => w'.cell? _ = some _) rfl rfl ((hr.rd hS).cellF (i := 6) (by first|omega|(dsimp only;omega)) rfl) (fun _ hc => Zas rfl rfl hc) rfl rfl ?_)|(refine Zat (fun w' => w'.cell? _ = some _) rfl rfl ((hr.rd hS).cellF (i := 10) (by first|omega|(dsimp only;omega)) rfl) (fun _ hc => Zas rfl rfl hc) rfl rfl ?_)|(refine Zat (fun w' => w'.cell? _ = some _) rfl rfl ((hr.rd hS).cellF (i := 13) (by first|omega|(dsimp only;omega)) rfl) (fun _ hc => Zas rfl rfl hc) rfl rfl ?_)|(refine Zat (fun w' => w'.cell? _ = some _) rfl rfl ((hr.rd hS).cellF (i := 17) (by first|omega|(dsimp only;omega)) rfl) (fun _ hc => Zas rfl rfl hc) rfl rfl ?_)|(refine Zat (fun w' => Rd w' (bytes _ _)) rfl rfl (hb0.rd hS) (fun _ h => Zbk rfl rfl h rfl) rfl rfl ?_)|(refine Zat (fun w' => Rd w' (bytes _ _)) rfl rfl (hb1.rd hS) (fun _ h => Zbk rfl rfl h rfl) rfl rfl ?_)|(refine Zat (fun w' => Rd w' (bytes _ _)) rfl rfl (hb2.rd hS) (fun _ h => Zbk rfl rfl h rfl) rfl rfl ?_)|(refine And.intro (by repeat (first|exact trivial|refine And.intro (.inl (by decide +kernel)) ?_|refine And.intro (.inr (by first|exact hS.cell|exact (hr.rd hS).cellF (i := 2) (by first|omega|(dsimp only;omega)) rfl|exact (hr.rd hS).cellF (i := 6) (by first|omega|(dsimp only;omega)) rfl|exact (hr.rd hS).cellF (i := 10) (by first|omega|(dsimp only;omega)) rfl|exact (hr.rd hS).cellF (i := 13) (by first|omega|(dsimp only;omega)) rfl|exact (hr.rd hS).cellF (i := 17) (by first|omega|(dsimp only;omega)) rfl|exact hb0.rd hS|exact hb1.rd hS|exact hb2.rd hS)) ?_)) ?_)|refine Zfg ?_ ?_|refine Yaa ?_|refine Ybg ?_|refine Yao (fun _ hS _ => ?_)|refine Yar (fun _ _ hS _ => ?_)|refine Yeb ?_|refine Yab ?_|(refine Zae ?_;first|refine Yay ?_|refine Ybe ?_|refine Yc9 ?_|refine Yb8 ?_|refine Yb3 ?_|refine Ybk ?_|refine Yas ?_))
     refine Zad 112 rfl rfl rfl rfl rfl hS (hck _ (hT.at_ hS)) ?_
     rintro _ w3 rfl hS
     by_cases hok : rchk ⟨d0,d1,d2,n3,n4⟩ = 0
     ·rw [hok,if_pos rfl]
      repeat (first|refine Yea ?_|refine Yag ?_|refine Ya4 ?_|refine Ybg ?_|refine Yao (fun _ hS _ => ?_)|refine Yfa ?_|refine Yab ?_|refine Ybv ?_)
      exact ⟨rfl,(hbk hS).drops⟩
     ·rw [if_neg hok]
      generalize rchk ⟨d0,d1,d2,n3,n4⟩ = q at hok;repeat (first|refine Yea ?_|refine Yag ?_|refine Ybj ?_|refine Ybl ?_|refine Yao (fun _ hS _ => ?_)|refine Yek ?_|refine Yab ?_|refine Yaq ?_|refine Ybv ?_)
      exact ⟨rfl,(hbk hS).drops⟩
theorem Z0j (rd fs : List Int) (W : World) (hG : Gl W noF rd fs) (hL : Lg W noF) : Calls Tryz.prog 19 #[] W (Ret fun v w => ∃ (lp tp p f c : Nat),v = .pointer (some ⟨c,0,none⟩) ∧
  St W noF [chR c f 0 (atT (Zc3 10)) (Nt t0) [],pts f (.cells (List.toArray [.pointer (some ⟨tp,0,none⟩),.int .i64 0]) 100 (0,0)),itab rd fs tp lp p 60 2 10 40 (Zc3 10)] w) := by
 have hS := St.start W
 refine Zab Tryz.func19 rfl Tryz.ntmps19 rfl ?_
 repeat (first|refine Yea ?_|refine Yag ?_|refine Yeb ?_|refine Yab ?_)
 refine Zaa _ rfl rfl rfl rfl rfl (Z3b rd fs _ (hG.mono fun _ hr => (hr.rd hS).ro) (hL.at_ hS)) ?_
 rintro _ w ⟨q,lp,tp,f,r,rfl,hS'⟩
 replace hS := hS.plus hS';clear hS';repeat (first|refine Yea ?_|refine Yeo ?_|refine Yeb ?_|refine Yab ?_)
 refine Zaa _ rfl rfl rfl rfl rfl (Z2b (T := atT (Zc3 10)) _ (hS.rd (r := pts f (.cells (List.toArray [.pointer (some ⟨tp,0,none⟩),.int .i64 0]) 100 (0,0))) (by simp))) ?_
 rintro _ w ⟨c,rfl,hS'⟩
 replace hS := hS.plus hS';clear hS';repeat (first|refine Yea ?_|refine Yag ?_|refine Yah ?_|refine Yec ?_)
 have hN : Nt t0 = atT (Zc3 10) := funext Z7o
 rw [hN];exact ⟨lp,tp,q,f,c,rfl,hS.took⟩
theorem Z3q (a : Option Addr) (q : Nat) (W : World) : Calls Tryz.prog 60 #[.slice a 0 q] W (Ret fun v w => v = .tuple #[.slice none 0 0,.int .i64 0] ∧ St W noF [] w) := by
 have hS := St.start W
 refine Zab Tryz.func60 rfl Tryz.ntmps60 rfl ?_
 repeat (first|refine Yea ?_|refine Yfj ?_|refine Yed ?_|refine Yab ?_)
 refine Zal (α := Unit) (fun _ => [(4,.slice none 0 0),(9,.slice a 0 q),(10,.int .i64 (0 : Nat)),(11,.int .i64 (0 : Nat))]) (fun _ w => St W noF [] w) (fun _ => 0) () ⟨rfl,rfl,rfl,rfl,trivial⟩ hS ?_
 clear hS;rintro ⟨⟩ w hS
 repeat (first|refine Yea ?_|refine Yfi ?_|refine Yej ?_|refine Yfm ?_)
 exact ⟨rfl,hS⟩
section
variable {c f tp : Nat} {b : Int} {T : Int → Option Nd} {X : List RowD}
end
section
variable {c f tp : Nat} {b : Int} {T : Int → Option Nd} {X : List RowD}
end
def Zet : List (List UInt8) → Option (List Rec)
 | [] => some []
 | s :: l => match (decM s).bind Zg5 with
  | some r => (Zet l).map (r :: ·)
  | none => none
theorem Zko : ∀ l m : List (List UInt8),Zet (l ++ m) = match Zet l with
  | some A => (Zet m).map (A ++ ·)
  | none => none
 | [],m => by simp [Zet]
 | s :: l,m => by
  rw [List.cons_append,Zet,Zet,Zko l m];cases (decM s).bind Zg5 with
  | none => rfl
  | some r =>
   cases Zet l with
   | none => rfl
   | some A => cases Zet m <;> simp
theorem Zwn (s : List UInt8) : Zet [s] = ((decM s).bind Zg5).map fun r => [r] := by
 rw [Zet];cases (decM s).bind Zg5 <;> rfl
def Z7w (W : World) (r : Option (List Rec)) (v : Value) (w : World) : Prop :=
 match r with
 | some A => ∃ la lc,v = .tuple #[.slice la A.length lc,.int .i64 0] ∧ A.length ≤ lc ∧ St W noF [own 62 5 la lc (Zdw A)] w
 | none => v = .tuple #[.slice none 0 0,.int .i64 3] ∧ St W noF [] w
theorem Zx3 (a : Option Addr) (q : Nat) (L : List Bs) (W : World) (hG : Lg W noF) (hT : Sp W noF) (hB : Bss W noF a L) (hk : ∀ y ∈ L,y.s.length ≤ y.c) (hl : ∀ y ∈ L,y.s.length ≤ 65536) (hn : L.length ≤ 1000) :
  Calls Tryz.prog 60 #[.slice a L.length q] W (Ret fun v w => Z7w W (Zet (Zax L)) v w) := by
 have hS := St.start W
 refine Zab Tryz.func60 rfl Tryz.ntmps60 rfl ?_
 repeat (first|refine Yea ?_|refine Yfj ?_|refine Yed ?_|refine Yab ?_)
 have hS := hS.own_none 62 5 none
 refine Zal (α := Nat × Option Addr × Nat × List Rec) (fun z => [(4,.slice z.2.1 z.1 z.2.2.1),(9,.slice a L.length q),(10,.int .i64 (L.length : Nat)),(11,.int .i64 (z.1 : Nat))])
  (fun z w => z.1 ≤ L.length ∧ z.1 ≤ z.2.2.1 ∧ z.2.2.2.length = z.1 ∧ Zet (Zax (L.take z.1)) = some z.2.2.2 ∧ St W noF [own 62 5 z.2.1 z.2.2.1 (Zdw z.2.2.2)] w) (fun z => L.length - z.1) (0,none,0,[]) ⟨rfl,rfl,rfl,rfl,trivial⟩ ⟨Nat.zero_le _,Nat.le_refl _,rfl,rfl,hS⟩ ?_
 clear hS;rintro ⟨i,a1,c1,A⟩ w ⟨hi,hc1,hA,hrl,hS⟩
 simp only at hi hc1 hA hrl hS ⊢
 by_cases hlt : i < L.length
 ·have hx0 : L[i]? = some L[i] := List.getElem?_eq_getElem hlt
  have htk : L.take (i + 1) = L.take i ++ [L[i]] := List.take_succ_eq_append_getElem hlt
  have hdr : L.drop i = L[i] :: L.drop (i + 1) := List.drop_eq_getElem_cons hlt
  generalize L[i] = y at hx0 htk hdr;have hym := List.mem_of_getElem? hx0
  have hyl := hl y hym
  have hyk := hk y hym
  have hr := hB.row
  have hb := hB.all y hym
  have hx : (L.map Bs.val)[i]? = some (.slice y.a y.s.length y.c) := by simp [hx0,Bs.val]
  obtain ⟨ab,ao,hab⟩ := (hr.rd hS).base (by intro e; rw [e] at hx; simp at hx)
  rw [hab] at hr ⊢;have hD := Z3p y.a y.s y.c hyk hyl
  have hnx : Zet (Zax (L.take (i + 1))) = ((decM y.s).bind Zg5).map fun r => A ++ [r] := by
   rw [htk];show Zet (List.map Bs.s (L.take i ++ [y])) = _
   rw [List.map_append,Zko,show Zet (List.map Bs.s (L.take i)) = some A from hrl];show (Zet [y.s]).map _ = _
   rw [Zwn];cases (decM y.s).bind Zg5 <;> rfl
  have hno : (decM y.s).bind Zg5 = none → Zet (Zax L) = none := fun e => by
   have h2 : Zax L = List.map Bs.s (L.take (i + 1)) ++ List.map Bs.s (L.drop (i + 1)) := by
    rw [← List.map_append,List.take_append_drop]; rfl
   rw [h2,Zko,show Zet (List.map Bs.s (L.take (i + 1))) = none by rw [show List.map Bs.s (L.take (i + 1)) = Zax (L.take (i + 1)) from rfl,hnx,e]; rfl]
  generalize (decM y.s).bind Zg5 = res at hD hnx hno;repeat (first|refine Yea ?_|refine Yfk ?_|refine Yee ?_|refine Yab ?_)
  refine Zaa _ rfl rfl rfl rfl rfl (hD _ (hG.at_ hS) (hT.at_ hS) (hb.rd hS).ro) ?_
  rintro v w hV
  cases res with
  | none =>
   obtain ⟨rfl,hS'⟩ := hV
   replace hS := hS.plus hS';clear hS';rw [hno rfl];repeat (first|refine Yea ?_|refine Yfg ?_|refine Yao (fun _ hS _ => ?_)|refine Yar (fun _ _ hS _ => ?_)|refine Yek ?_|refine Yfh ?_)
   exact ⟨rfl,hS.drops⟩
  | some r =>
   obtain ⟨rfl,hS'⟩ := hV
   replace hS := hS.plus hS';clear hS';repeat (first|refine Yea ?_|refine Yfp ?_|refine Yao (fun _ hS _ => ?_)|refine Yar (fun _ _ hS _ => ?_)|refine Ybn (fun _ _ hS _ => ?_)|refine Yem ?_|refine Yab ?_)
   have hnw := (hS.rd (List.mem_cons_self ..)).own_row
   refine Zar (T := 62) (a := a1) (m := 1) rfl rfl rfl rfl rfl hS (by rw [Zhq,hA]) hc1 hnw rfl (Zkm [r]) (by omega) (by simp only [maxLen]; omega) (fun b' q'' w hS hq'' _ => ?_)
   repeat (first|refine Yea ?_|refine Yes ?_|refine Yad ?_|refine Yei ?_)
   refine Zaf (z := (i,a1,c1,A)) (i + 1,b',q'',A ++ [r]) ⟨rfl,rfl,rfl,rfl,trivial⟩ ⟨hlt,hq'',by dsimp only; rw [List.length_append,hA]; rfl,hnx,?_⟩ (by dsimp only; omega)
   dsimp only
   rw [show Zdw (A ++ [r]) = Zdw A ++ r.cells by rw [Zkn]; simp]
   exact hS.took
 ·obtain rfl : i = L.length := by omega
  rw [List.take_length] at hrl;repeat (first|refine Yea ?_|refine Yfi ?_|refine Yej ?_|refine Yfm ?_)
  rw [hrl];exact ⟨a1,c1,by rw [hA],by rw [hA]; exact hc1,hS.took⟩
section
variable {c f tp : Nat} {b : Int} {T : Int → Option Nd} {X : List RowD}
end
end Cr
namespace Cr
open Go Go.Proofs
set_option maxRecDepth 100000
set_option maxHeartbeats 64000000

def Zlp : Mv → Option (List UInt8 × List UInt8)
 | .mk 2 0 [] [.mk 1 0 s [],.mk 1 0 d []] => if s.length ≤ 400 ∧ d.length = 32 then some (s,d) else none
 | _ => none
theorem Zin {s d : List UInt8} (h : s.length ≤ 400) (hd : d.length = 32) : Zlp (recV s d) = some (s,d) := if_pos ⟨h,hd⟩
theorem Zim {v : Mv} {s d : List UInt8} (h : Zlp v = some (s,d)) : v = recV s d ∧ s.length ≤ 400 ∧ d.length = 32 := by
 unfold Zlp at h
 split at h
 ·split at h
  ·rename_i hc
   injection h with h
   injection h with h1 h2
   subst h1; subst h2
   exact ⟨rfl,hc⟩
  ·cases h
 ·cases h
def runC (rd fs : List Int) : Nat → List UInt8 → List Mv → List (List UInt8) × Bool
 | _,_,[] => ([],true)
 | i,m,v :: l => match Zlp v with
  | some (s,d) => if digest rd fs [m,be8 (i : Nat),s] = d then (s :: (runC rd fs (i + 1) d l).1,(runC rd fs (i + 1) d l).2) else ([],false)
  | none => ([],false)
theorem Zjq (rd fs : List Int) : ∀ (l : List Mv) (i : Nat) (m : List UInt8),(runC rd fs i m l).1.length ≤ l.length ∧ ((runC rd fs i m l).2 = true → (runC rd fs i m l).1.length = l.length)
 | [],_,_ => ⟨Nat.le_refl _,fun _ => rfl⟩
 | v :: l,i,m => by
  rw [runC];cases hv : Zlp v with
  | none => exact ⟨Nat.zero_le _,fun h => by cases h⟩
  | some p =>
   obtain ⟨s,d⟩ := p
   simp only
   have ih := Zjq rd fs l (i + 1) d
   by_cases hd : digest rd fs [m,be8 (i : Nat),s] = d
   ·rw [if_pos hd]
    exact ⟨by simp only [List.length_cons]; omega,fun h => by simp only [List.length_cons]; rw [ih.2 h]⟩
   ·rw [if_neg hd]
    exact ⟨Nat.zero_le _,fun h => by cases h⟩
theorem Zil (rd fs : List Int) : ∀ (l : List Mv) (i : Nat) (m : List UInt8),∀ s ∈ (runC rd fs i m l).1,s.length ≤ 400
 | [],_,_ => fun _ h => (List.not_mem_nil h).elim
 | v :: l,i,m => by
  rw [runC];cases hv : Zlp v with
  | none => exact fun _ h => (List.not_mem_nil h).elim
  | some p =>
   obtain ⟨s,d⟩ := p
   simp only
   by_cases hd : digest rd fs [m,be8 (i : Nat),s] = d
   ·rw [if_pos hd]
    intro x hx
    rcases List.mem_cons.1 hx with rfl | hx
    ·exact (Zim hv).2.1
    ·exact Zil rd fs l (i + 1) d x hx
   ·rw [if_neg hd]
    exact fun _ h => (List.not_mem_nil h).elim
theorem Znr (rd fs : List Int) (l : List (List UInt8)) (h4 : ∀ s ∈ l,s.length ≤ 400) (rest : List Mv) : ∀ (d j : Nat),j + d ≤ l.length →
  runC rd fs j (Zaq rd fs l j) (((Zbc rd fs l).drop j).take d ++ rest) = ((l.drop j).take d ++ (runC rd fs (j + d) (Zaq rd fs l (j + d)) rest).1,(runC rd fs (j + d) (Zaq rd fs l (j + d)) rest).2)
 | 0,j,_ => by simp
 | d + 1,j,h => by
  have hj : j < l.length := by omega
  have hv := Znd (rd := rd) (fs := fs) hj
  obtain ⟨hjv,hje⟩ := List.getElem?_eq_some_iff.1 hv
  have hs : l.getD j [] = l[j] := by rw [List.getD_eq_getElem?_getD,List.getElem?_eq_getElem hj]; rfl
  have ih := Znr rd fs l h4 rest d (j + 1) (by omega)
  rw [List.drop_eq_getElem_cons hjv,hje,List.take_succ_cons,List.cons_append,runC,Zin (by rw [hs]; exact h4 _ (List.getElem_mem hj)) (Zbo _ _ _ _)]
  simp only
  have hm : digest rd fs [Zaq rd fs l j,be8 (j : Nat),l.getD j []] = Zaq rd fs l (j + 1) := rfl
  rw [if_pos hm,ih,List.drop_eq_getElem_cons hj,List.take_succ_cons,List.cons_append,hs,show j + 1 + d = j + (d + 1) by omega]
theorem Zwe (rd fs : List Int) (l : List (List UInt8)) (h4 : ∀ s ∈ l,s.length ≤ 400) {j : Nat} (hj : j ≤ l.length) : runC rd fs j (Zaq rd fs l j) ((Zbc rd fs l).drop j) = (l.drop j,true) := by
 have h := Znr rd fs l h4 [] (l.length - j) j (by omega)
 rw [List.append_nil,List.take_of_length_le (by rw [List.length_drop,Zbi]; omega),List.take_of_length_le (by rw [List.length_drop]; omega)] at h
 rw [h];simp [runC]
theorem Zwf (rd fs : List Int) (l : List (List UInt8)) (h4 : ∀ s ∈ l,s.length ≤ 400) {k : Nat} (hk : k < l.length) (v : Mv) (hno : (runC rd fs 0 (Zaq rd fs l 0) ((Zbc rd fs l).set k v)).2 = false) : (runC rd fs 0 (Zaq rd fs l 0) ((Zbc rd fs l).set k v)).1.length ≤ k + 1 := by
 have hset : (Zbc rd fs l).set k v = ((Zbc rd fs l).drop 0).take k ++ v :: (Zbc rd fs l).drop (k + 1) := by
  rw [List.drop_zero,List.set_eq_take_append_cons_drop,if_pos (by rw [Zbi]; exact hk)]
 have hp := Znr rd fs l h4 (v :: (Zbc rd fs l).drop (k + 1)) k 0 (by omega)
 rw [Nat.zero_add,← hset] at hp;rw [hp] at hno ⊢;simp only at hno ⊢
 have hlk : ((l.drop 0).take k).length ≤ k := by rw [List.length_take]; omega
 rw [List.length_append]
 suffices h : (runC rd fs k (Zaq rd fs l k) (v :: (Zbc rd fs l).drop (k + 1))).1.length ≤ 1 by omega
 rw [runC] at hno ⊢;cases hv : Zlp v with
 | none => exact Nat.zero_le _
 | some p =>
  obtain ⟨s,d⟩ := p
  rw [hv] at hno;simp only at hno ⊢
  by_cases hd : digest rd fs [Zaq rd fs l k,be8 (k : Nat),s] = d
  case neg => rw [if_neg hd]; exact Nat.zero_le _
  rw [if_pos hd] at hno ⊢;simp only [List.length_cons] at hno ⊢
  suffices h : (runC rd fs (k + 1) d ((Zbc rd fs l).drop (k + 1))).1.length ≤ 0 by omega
  by_cases hk1 : k + 1 < l.length
  case neg =>
   rw [List.drop_of_length_le (by rw [Zbi]; omega)]
   exact Nat.le_refl _
  have hv1 := Znd (rd := rd) (fs := fs) hk1
  obtain ⟨hjv,hje⟩ := List.getElem?_eq_some_iff.1 hv1
  have hs : l.getD (k + 1) [] = l[k + 1] := by rw [List.getD_eq_getElem?_getD,List.getElem?_eq_getElem hk1]; rfl
  rw [List.drop_eq_getElem_cons hjv,hje,runC,Zin (by rw [hs]; exact h4 _ (List.getElem_mem hk1)) (Zbo _ _ _ _)] at hno ⊢
  simp only at hno ⊢
  by_cases hd2 : digest rd fs [d,be8 ((k + 1 : Nat) : Nat),l.getD (k + 1) []] = Zaq rd fs l (k + 1 + 1)
  ·rw [if_pos hd2,Zwe rd fs l h4 (by omega)] at hno
   cases hno
  ·rw [if_neg hd2]; exact Nat.le_refl _
/-! ### a value put where one stands -/
theorem Zmm (f : Tn → Tn) : ∀ (l : List Mv) (i k : Nat),i + l.length ≤ 10 → k < 10 → (k < i ∨ i + l.length ≤ k) → (Zb2 i l).map (fun t => if t.nm = keyD k then f t else t) = Zb2 i l
 | [],_,_,_,_,_ => rfl
 | x :: l,i,k,h,hk,ho => by
  rw [List.length_cons] at h ho;have hne : ¬ (Zfm i x).nm = keyD k := fun e => by have := Zjt (by omega) hk e; omega
  rw [Zb2,List.map_cons,if_neg hne,Zmm f l (i + 1) k (by omega) hk (by omega)]
theorem Zp5 {v : Mv} : ∀ (l : List Mv) (i k : Nat),i + l.length ≤ 10 → k < l.length → (Zb2 i l).map (fun t => if t.nm = keyD (i + k) then datF (encM v) t else t) = Zb2 i (l.set k v)
 | [],_,k,_,hk => by cases hk
 | x :: l,i,0,h,_ => by
  rw [List.length_cons] at h;rw [Zb2,List.map_cons,List.set_cons_zero,Zb2,Nat.add_zero,if_pos (show (Zfm i x).nm = keyD i from rfl),Zmm _ l (i + 1) i (by omega) (by omega) (.inl (by omega))]
  rfl
 | x :: l,i,k + 1,h,hk => by
  rw [List.length_cons] at h hk;have hne : ¬ (Zfm i x).nm = keyD (i + (k + 1)) := fun e => by have := Zjt (by omega) (by omega) e; omega
  have ih := Zp5 (v := v) l (i + 1) k (by omega) (by omega)
  rw [show i + 1 + k = i + (k + 1) by omega] at ih
  rw [Zb2,List.map_cons,List.set_cons_succ,Zb2,if_neg hne,ih]
theorem Z14 {vs : List Mv} {k : Nat} (h7 : vs.length ≤ 7) (hk : k < vs.length) (v : Mv) : updT [keyD k] (datF (encM v)) (logT vs) = logT (vs.set k v) := by
 have h := Zp5 (v := v) vs 0 k (by omega) hk
 rw [Nat.zero_add] at h;unfold logT
 rw [updT];show Tn.mk _ _ _ _ ((Zb2 0 vs).map fun t => if t.nm = keyD k then datF (encM v) t else t) = _
 rw [h]
theorem Zy3 {vs : List Mv} {k : Nat} (h7 : vs.length ≤ 7) (hk : k < vs.length) (v : Mv) : updT [dbN,logN,keyD k] (datF (encM v)) (Zb6 vs) = Zb6 (vs.set k v) := by
 unfold Zb6
 rw [updT,List.map_cons,List.map_nil,if_pos (show (Tn.mk dbN 1 ⟨1,448,0,0⟩ [] [logT vs]).nm = dbN from rfl),updT,List.map_cons,List.map_nil,if_pos (show (logT vs).nm = logN from rfl),Z14 h7 hk]
theorem Zy4 {vs : List Mv} {k : Nat} {v : Mv} (h7 : vs.length ≤ 7) (hk : k < vs.length) (hc : chkM 8 v = 0) (hl : (encM v).length ≤ 512) : Znj 10 (trV vs) logN (keyD k) v = (0,trV (vs.set k v)) := by
 have hv0 : vs[k]? = some vs[k] := List.getElem?_eq_getElem hk
 have hkd : Zb5 (trV vs) [dbN,logN,keyD k] = 0 := by
  unfold Zb5
  rw [Zw8 h7 hv0]
 unfold Znj
 rw [if_neg (fun e => e (Zn3 (by omega))),if_neg (fun e => e hc),if_neg (by omega),hkd];cases vs with
 | nil => cases hk
 | cons x l =>
  have hgo : goR (Zb6 (x :: l)) [dbN,logN,keyD k] = .ok ((Zfm k (x :: l)[k]).no,(Zfm k (x :: l)[k]).nd) := by
   unfold goR
   rw [if_pos (Zea (by omega)),Zty,Zjv];have h := Zir (x :: l) 0 k _ (by omega) hv0
   rw [Nat.zero_add] at h;rw [h]
  rw [show trV (x :: l) = Zb6 (x :: l) from rfl,Zo9];simp only
  rw [if_pos trivial];unfold Zrw
  rw [hgo];simp only
  rw [if_neg (show ¬ (Zfm k (x :: l)[k]).nd.st.kind = 1 by show ¬ (0 : Int) = 1; decide),if_neg (by omega),Zy3 h7 hk]
  cases k <;> rfl
theorem Z05 : ∀ (k : Nat) (vs : List Mv),vs.length = k → k ≤ 7 → (∀ v ∈ vs,chkM 8 v = 0 ∧ (encM v).length ≤ 512) → TreeOk 10 (trV vs)
 | 0,l,hl,_,_ => by
  obtain rfl := List.eq_nil_of_length_eq_zero hl
  exact Z4d
 | k + 1,l,hl,hk,h4 => by
  rcases List.eq_nil_or_concat l with rfl | ⟨l,s,rfl⟩
  ·cases hl
  rw [List.concat_eq_append] at hl h4 ⊢;rw [List.length_append,List.length_singleton] at hl;have ih := Z05 k l (by omega) (by omega) fun x hx => h4 x (List.mem_append_left _ hx)
  obtain ⟨h1,h2⟩ := h4 s (by simp)
  have hp := Zni (vs := l) (v := s) (by omega) h1 h2
  rw [if_pos (by omega)] at hp;have := Zs3 ih logN (keyD l.length) s
  rw [hp] at this;exact this
end Cr
