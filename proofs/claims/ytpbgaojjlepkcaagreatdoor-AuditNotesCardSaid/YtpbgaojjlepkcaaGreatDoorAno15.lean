/-
  Layer 11 (chain) in plain words,2: one more record put into the table; a record's value told.
  Layer 11 (chain): a record's value read.
  Layer 11 (chain): all records read.
  Layer 11 (chain): Open.
  The laws of layer 11: what few has made,marks in their row.
  Package audit: records copied; All,Len; what a chain's audit holds.
  Package audit: Matches,Ask.
  Layer 11 (chain): Add.
  Package audit: Note.
  audit.Read,over values with lists in lists: the record that bytes say.
  Package audit: Of,of a change whose audit is empty; layer 27's fresh change.
  Layer 11 (chain): Whole; the laws' known answers,off the contracts.
  Package audit: all records of some bytes; Of and Verify of a change that holds so many; Head.
-/
import Derived.Test.YtpbgaojjlepkcaaGreatDoorAno14
import Derived.Test.YtpbgaojjlepkcaaGreatDoorAno5
import Derived.Test.YtpbgaojjlepkcaaGreatDoorAno7
import Derived.Test.YtpbgaojjlepkcaaGreatDoorAno13
import Derived.Test.YtpbgaojjlepkcaaGreatDoorAno6
import Derived.Test.YtpbgaojjlepkcaaGreatDoorAno10
namespace Cr
open Go Go.Proofs
set_option maxRecDepth 100000
set_option maxHeartbeats 64000000
attribute [local irreducible] Calls

theorem Z21 (vs : List Mv) : goT (Zcr vs) [dbN,logN] = .ok (logT vs) := rfl
theorem Zup : ∀ k,k < 10 → Zcc [dbN,logN,keyD k] := by decide +kernel
theorem Ze7 {k : Nat} (h : k < 10) : Zcc [dbN,logN,keyD k] := Zup k h
theorem Zpu (vs : List Mv) {k : Nat} (hk : k < 10) : Zfn (Zcr vs) [dbN,logN,keyD k] = .ok (logT vs,keyD k) := by
 unfold Zfn
 rw [if_pos (Ze7 hk)]
 rfl
theorem Zwx {vs : List Mv} (k : Nat) : goT (Zcr vs) [dbN,logN,keyD k] = Zcy (logT vs) (keyD k) := by
 have := Zjw [dbN,logN] (Zcr vs) (keyD k)
 rw [Z21] at this;exact this
theorem Znx (vs : List Mv) (s : List UInt8) : Zcy (logT vs) s = match kidT s (Zc8 0 vs) with | some k => .ok k | none => .error 7 := by
 unfold Zcy
 rw [if_pos (show (logT vs).st.kind = 1 from rfl)] <;> rfl
theorem Zem {n : Nat} {t t' : Tn} {d : List (List (List UInt8))} {nd : Nd} {p : List (List UInt8)} {e : Int} (h : Zdx n t nd p = (e,t')) : Zcb n (0,t,d) nd p = if e = 0 then (0,t',d ++ [p]) else (e,t',d) := by
 unfold Zcb
 show (if (0 : Int) = 0 then if (Zdx n t nd p).1 = 0 then (0,(Zdx n t nd p).2,d ++ [p]) else ((Zdx n t nd p).1,(Zdx n t nd p).2,d) else _) = _
 rw [if_pos rfl,h]
theorem Zmd {b : List UInt8} (h : b.length ≤ 512) : Zkt (Zc7 b) = 0 := by
 unfold Zkt
 rw [if_neg (by simp [Zc7]),if_neg (by simp only [Zc7]; decide),if_neg (by simp only [Zc7]; omega)]
theorem Zme (vs : List Mv) : (logT vs).names = (List.range' 0 vs.length).map fun j => (keyD j,((3 + j : Nat) : Int)) := Zrw vs 0
theorem Z3n (vs : List Mv) (v : Mv) (h : vs.length < 10) : addF (Zis vs.length v) (logT vs) = logT (vs ++ [v]) := by
 have h1 := Zpv v vs 0 vs.length (by omega) h
 have h2 := Zmi v vs 0
 rw [Nat.zero_add] at h2;show Tn.mk logN 2 ⟨1,448,0,0⟩ [] (insT (Zis vs.length v) (Zc8 0 vs)) = Tn.mk logN 2 ⟨1,448,0,0⟩ [] (Zc8 0 (vs ++ [v]))
 rw [h1,h2]
theorem Ztg {vs : List Mv} {v : Mv} (h : vs.length < 7) (hl : (encM v).length ≤ 512) : Zdx 10 (Zcr vs) (Zc7 (encM v)) [dbN,logN,keyD vs.length] = (0,Zcr (vs ++ [v])) := by
 unfold Zdx
 rw [if_neg (fun e => e.elim (fun e => e (Ze7 (by omega))) (fun e => by cases e)),if_neg (fun e => e (Zmd hl)),Zpu vs (by omega)]
 simp only
 have hn : kidT (keyD vs.length) (logT vs).kids = none := Ze8 vs 0 vs.length (by omega) (by omega)
 rw [hn,if_neg (by simp),Zu3 h];simp only
 rw [if_neg (Zj5 (l := insN (keyD vs.length,((3 + vs.length : Nat) : Int)) (logT vs).names) ?_ ?_)]
 ·have := Z3n vs v (by omega)
  show ((0 : Int),Tn.mk [] 0 ⟨1,493,0,0⟩ [] [.mk dbN 1 ⟨1,448,0,0⟩ [] [addF (Zis vs.length v) (logT vs)]]) = _
  rw [this]
  rfl
 ·intro x hx
  rcases List.mem_cons.1 ((Zf7 _ _).mem_iff.1 hx) with rfl | hx
  ·exact ⟨by simp [keyD],by simp only; omega,by simp only; omega⟩
  ·rw [Zme] at hx
   obtain ⟨j,hj,rfl⟩ := List.mem_map.1 hx
   rw [List.mem_range'_1] at hj;exact ⟨by simp [keyD],by simp only; omega,by simp only; omega⟩
 ·rw [(Zf7 _ _).length_eq,List.length_cons,Zme,List.length_map,List.length_range']; omega
theorem Zwp {vs : List Mv} {v : Mv} (h : vs.length = 7) (hl : (encM v).length ≤ 512) : Zdx 10 (Zcr vs) (Zc7 (encM v)) [dbN,logN,keyD vs.length] = (6,Zcr vs) := by
 unfold Zdx
 rw [if_neg (fun e => e.elim (fun e => e (Ze7 (by omega))) (fun e => by cases e)),if_neg (fun e => e (Zmd hl)),Zpu vs (by omega)]
 simp only
 have hn : kidT (keyD vs.length) (logT vs).kids = none := Ze8 vs 0 vs.length (by omega) (by omega)
 rw [hn,if_neg (by simp),Zu2 h]
def t1 : Tn := .mk [] 0 ⟨1,493,0,0⟩ [] [.mk dbN 1 ⟨1,448,0,0⟩ [] []]
theorem Zpq : Zkt Zqe = 0 := by decide
theorem Z2s : Zdx 10 t0 Zqe [dbN] = (0,t1) := by
 unfold Zdx
 rw [if_neg (by decide),if_neg (fun e => e Zpq)];have h1 : Zfn t0 [dbN] = .ok (t0,dbN) := by
  unfold Zfn
  rw [if_pos (by decide)]; rfl
 rw [h1];simp only
 have hn : kidT dbN t0.kids = none := rfl
 have hf : Zir 10 (Nt t0) = some 1 := Zgr (by omega) rfl fun j hj e => by
  obtain rfl : j = 0 := by omega
  cases e
 rw [hn,if_neg (by simp),hf];simp only
 rw [if_neg (Zj5 (fun x hx => by
  rw [show t0.names = [] from rfl,insN,List.mem_singleton] at hx
  subst hx; decide) (by decide))]
 rfl
theorem Zzn : Zdx 10 t1 Zqe [dbN,logN] = (0,Zcr []) := by
 unfold Zdx
 rw [if_neg (by decide),if_neg (fun e => e Zpq)];have h1 : Zfn t1 [dbN,logN] = .ok (.mk dbN 1 ⟨1,448,0,0⟩ [] [],logN) := by
  unfold Zfn
  rw [if_pos (by decide)]; rfl
 rw [h1];simp only
 have hn : kidT logN (Tn.mk dbN 1 ⟨1,448,0,0⟩ [] []).kids = none := rfl
 have hf : Zir 10 (Nt t1) = some 2 := Zgr (by omega) rfl fun j hj e => by
  rcases j with _ | _ | j
  ·cases e
  ·cases e
  ·omega
 rw [hn,if_neg (by simp),hf];simp only
 rw [if_neg (Zj5 (fun x hx => by
  rw [show (Tn.mk dbN 1 ⟨1,448,0,0⟩ [] []).names = [] from rfl,insN,List.mem_singleton] at hx
  subst hx; decide) (by decide))]
 rfl
theorem Zvp : Zd4 t0 (wayL logN) = some [[dbN],[dbN,logN]] := by
 have h1 : Zce t0 [dbN] = -1 := by
  unfold Zce getR goR
  rw [if_pos (by decide)]; rfl
 have h2 : Zce t0 [dbN,logN] = -1 := by
  unfold Zce getR goR
  rw [if_pos (by decide)]; rfl
 unfold wayL
 rw [Zd4,if_neg (by rw [h1]; decide),if_pos h1,Zd4,if_neg (by rw [h2]; decide),if_pos h2,Zd4]
 rfl
theorem Zvq (vs : List Mv) : Zd4 (Zcr vs) (wayL logN) = some [] := by
 have h1 : Zce (Zcr vs) [dbN] = 1 := by
  unfold Zce getR goR
  rw [if_pos (by decide)]; rfl
 have h2 : Zce (Zcr vs) [dbN,logN] = 1 := by
  unfold Zce getR goR
  rw [if_pos (by decide)]; rfl
 unfold wayL
 rw [Zd4,if_pos h1,Zd4,if_pos h2,Zd4]
theorem Zvc : Zch 10 t0 [[dbN],[dbN,logN]] = (0,Zcr [],[[dbN],[dbN,logN]]) := by
 unfold Zch
 simp only [List.foldl_cons,List.foldl_nil]
 rw [Zem Z2s,if_pos rfl,Zem Zzn,if_pos rfl]
 rfl
theorem Ztj {vs : List Mv} {k : Nat} (h : vs.length ≤ k) (hk : k < 10) : Zce (trV vs) [dbN,logN,keyD k] = -1 := by
 unfold Zce getR goR
 rw [if_pos (Ze7 hk)];cases vs with
 | nil => rfl
 | cons v l =>
  show (match (match (match goT (Zcr (v :: l)) [dbN,logN,keyD k] with | .ok u => Except.ok (u.no,u.nd) | .error e => .error e) with | .ok x => Except.ok (shN x.2) | .error e => .error e) with | .error _ => -1 | .ok nd => nd.st.kind : Int) = -1
  rw [Zwx,Znx,Ze8 (v :: l) 0 k (by omega) hk]
theorem Zst {vs : List Mv} {v : Mv} (hk : vs.length ≤ 7) (hc : chkM 8 v = 0) (hl : (encM v).length ≤ 512) :
  Zq8 10 (trV vs) logN (keyD vs.length) v = if vs.length < 7 then (0,trV (vs ++ [v])) else (6,trV vs) := by
 unfold Zq8
 rw [if_neg (fun e => e (Zrx (by omega))),if_neg (fun e => e hc),if_neg (by omega),Ztj (Nat.le_refl _) (by omega)];cases vs with
 | nil =>
  rw [show trV [] = t0 from rfl,Zvp]
  simp only
  rw [if_neg (by decide),if_neg (by decide),Zvc];have := Ztg (vs := []) (v := v) (by decide) hl
  rw [show ([] : List Mv).length = 0 from rfl] at *
  rw [Zem this,if_pos rfl]
  rfl
 | cons x l =>
  rw [show trV (x :: l) = Zcr (x :: l) from rfl,Zvq];simp only
  rw [if_neg (by decide),if_neg (by decide),show Zch 10 (Zcr (x :: l)) [] = (0,Zcr (x :: l),[]) from rfl]
  by_cases h7 : (x :: l).length < 7
  ·rw [Zem (Ztg h7 hl),if_pos rfl,if_pos rfl,if_pos h7]
   rfl
  ·rw [Zem (Zwp (by omega) hl),if_neg (show ¬ (6 : Int) = 0 by decide)]
   show (if (6 : Int) = 0 then _ else (6,Zo5 (Zcr (x :: l)) [])) = _
   rw [if_neg (by decide),if_neg h7]
   rfl
theorem Z22 {vs : List Mv} {k : Nat} {v : Mv} (hk : vs.length ≤ 7) (hv : vs[k]? = some v) : getR (trV vs) [dbN,logN,keyD k] = .ok ⟨⟨0,384,0,0⟩,encM v⟩ := by
 have h := (List.getElem?_eq_some_iff.1 hv).1
 unfold getR goR
 rw [if_pos (Ze7 (by omega))];cases vs with
 | nil => cases hv
 | cons x l =>
  rw [show trV (x :: l) = Zcr (x :: l) from rfl,Zwx,Znx];have := Zmh (x :: l) 0 k v (by omega) hv
  rw [Nat.zero_add] at this;rw [this]
  rfl
theorem Zyx {vs : List Mv} {k : Nat} {v : Mv} (hk : vs.length ≤ 7) (hv : vs[k]? = some v) (hc : chkM 8 v = 0) (hf : fitM v) : Zug (trV vs) logN (keyD k) = .ok v := by
 have h := (List.getElem?_eq_some_iff.1 hv).1
 unfold Zug
 rw [if_pos (Zrx (by omega)),Z22 hk hv];simp only
 rw [if_pos trivial,Zn9 hc hf]
theorem Zvx {vs : List Mv} {k : Nat} (h : vs.length ≤ k) (hk : k < 10) : Zug (trV vs) logN (keyD k) = .error 7 := by
 unfold Zug
 rw [if_pos (Zrx hk)];have hg : ∃ e,getR (trV vs) [dbN,logN,keyD k] = .error e := by
  have hq := Ztj h hk
  unfold Zce at hq
  unfold getR goR at hq ⊢
  rw [if_pos (Ze7 hk)] at hq ⊢;cases vs with
  | nil => exact ⟨_,rfl⟩
  | cons v l =>
   rw [show trV (v :: l) = Zcr (v :: l) from rfl,Zwx,Znx,Ze8 (v :: l) 0 k (by omega) hk];exact ⟨_,rfl⟩
 obtain ⟨e,hg⟩ := hg
 rw [hg]
theorem Z2a {R : Option Addr → List Value → Prop} (W : World) (hR : ∀ a cs,R a cs → Ro W noF (row a cs)) (r m : List UInt8) (hr4 : r.length ≤ 400) (hm : m.length = 32) (cs : List Value) (hv : Mrd R (recV r m) cs) :
  Calls Tryz.prog 125 #[.agg (List.toArray cs)] W (Ret fun v w => ∃ a c,v = .tuple #[.slice a r.length c,.agg (bv m).toArray,.bool true] ∧ r.length ≤ c ∧ R a (bv r) ∧ St W noF [] w) := by
 have hS := St.start W
 obtain ⟨a1,c1,a2,c2,rows,rfl,hc1,_,hrow,hM⟩ := hv.lit
 have hM' : Mrds R [txM r,txM m] rows := hM
 obtain ⟨cs0,hxs0,hy0⟩ := hM'.at_ (i := 0) (y := txM r) rfl
 obtain ⟨cs1,hxs1,hy1⟩ := hM'.at_ (i := 1) (y := txM m) rfl
 obtain ⟨d1,e1,d2,e2,_,rfl,he1,hb0,_,_⟩ := hy0.lit
 obtain ⟨d3,e3,d4,e4,_,rfl,he3,hb1,_,_⟩ := hy1.lit
 clear hM hy0 hy1;simp only [recV,Mv.kind,Mv.num,Mv.txt,Mv.lst,List.length_nil,List.length_cons,Nat.zero_add,Nat.reduceAdd] at *
 have hr := hR _ _ hrow
 have hbm := hR _ _ hb1
 obtain ⟨xb,xo,rfl⟩ := hr.start.base (by intro e; rw [e] at hxs0; simp at hxs0)
 obtain ⟨mb,mo,rfl⟩ := hbm.start.base (by intro e; have := congrArg List.length e; rw [Zah,hm] at this; cases this)
 have hm32 : LenO (bv m) 32 := ⟨by rw [Zah]; exact hm⟩
 refine Zab Tryz.func125 rfl Tryz.ntmps125 rfl ?_
 repeat (first|refine Yes ?_|(refine X_id ?_;first|refine Yaf ?_|refine Yag ?_|refine Yan ?_|refine Yaz ?_|refine Yav ?_|refine Ya6 ?_|refine Yap ?_|refine Ya5 (fun _ _ hS _ => ?_)|refine Yar (fun _ _ hS _ => ?_))|refine Yeq ?_|refine Yab ?_)
 refine Zam (.s 0 (.s 1 (.s 2 (.s 3 (.s 4 (.s 5 (.s 6 (.s 7 (.h 8 (.h 9 (.h 10 (.h 11 .nil .no) .no) .no) (.h 9 (.h 8 (.h 10 (.h 11 .nil .no) .no) .no) .no)))))))))) mixed (by kernel_rfl) rfl ?_
 have hS := hS.drew
 repeat (first|(refine Zae ?_;first|refine Ybg ?_|refine Ycb ?_|refine Ybn ?_))
 refine Za0 (fun w' => Zb5 w' _ _ _) rfl rfl ((hr.rd hS).cellsX (by omega) hxs0 rfl) (fun _ hc => Za2 rfl rfl hc) rfl rfl ?_
 repeat (first|(refine Zae ?_;first|refine Ybg ?_|refine Ycb ?_|refine Ybn ?_))
 refine Za0 (fun w' => Zb5 w' _ _ _) rfl rfl ((hr.rd hS).cellsX (by omega) hxs1 rfl) (fun _ hc => Za2 rfl rfl hc) rfl rfl ?_
 repeat' (first|refine Zie ?_ ?_|refine Yes ?_|(refine X_id ?_;first|refine Yaf ?_|refine Yan ?_|refine Yaz ?_|refine Yav ?_|refine Ya6 ?_|refine Ybt ?_|refine Yap ?_|refine Yao (fun _ hS _ => ?_)|refine Yar (fun _ _ hS _ => ?_))|refine Yeq ?_|refine Yab ?_|(refine Zae ?_;first|refine Yay ?_|refine Yas ?_)|(refine Zac ?_;first|refine Yd9 ?_))
 all_goals
  refine Zam (.s 0 (.s 1 (.s 2 (.s 3 (.s 4 (.s 5 (.s 6 (.h 7 (.s 8 .nil) .no)))))))) mixed (by kernel_rfl) rfl ?_
  have hS := hS.drew
  repeat (first|(refine Zae ?_;first|refine Ybg ?_|refine Zal rfl rfl (fun _ => Zm3 rfl rfl (by omega)) rfl rfl ?_|refine Ybn ?_))
  refine Za0 (fun w' => Zb5 w' _ _ _) rfl rfl ⟨(hbm.rd hS).cellsAt rfl,by rw [Zah]; exact hm⟩ (fun _ hc => Za2 rfl rfl hc) rfl rfl ?_
  repeat (first|refine Yao (fun _ hS _ => ?_)|refine Yah ?_|refine Yab ?_|refine Yd4 ?_|(refine Zae ?_;first|refine Yay ?_|refine Ybl ?_|refine Yas ?_)|(refine Zac ?_;first|refine Yd9 ?_))
  exact ⟨_,_,rfl,he1,hb0,hS.drops⟩
theorem Zgp (rd fs : List Int) (l m : List (List UInt8)) : ∀ {n : Nat},n ≤ l.length → Zat rd fs (l ++ m) n = Zat rd fs l n
 | 0,_ => rfl
 | n + 1,h => by
  show digest rd fs [Zat rd fs (l ++ m) n,_,_] = digest rd fs [Zat rd fs l n,_,_]
  rw [Zgp rd fs l m (by omega),List.getD_eq_getElem?_getD,List.getElem?_append_left (by omega),List.getD_eq_getElem?_getD]
theorem Zlw (rd fs : List Int) (l : List (List UInt8)) (s : List UInt8) : Za5 rd fs (l ++ [s]) = Za5 rd fs l ++ [recV s (digest rd fs [Zat rd fs l l.length,be8 (l.length : Nat),s])] := by
 unfold Za5
 rw [List.length_append,List.length_singleton,List.range_succ,List.map_append,List.map_singleton]
 congr 1
 ·refine List.map_congr_left fun i hi => ?_
  rw [List.mem_range] at hi;rw [Zgp rd fs l [s] (by omega),List.getD_eq_getElem?_getD,List.getElem?_append_left hi,List.getD_eq_getElem?_getD]
 ·have e : (l ++ [s]).getD l.length [] = s := by simp
  rw [e];show [recV s (digest rd fs [Zat rd fs (l ++ [s]) l.length,be8 (l.length : Nat),(l ++ [s]).getD l.length []])] = _
  rw [e,Zgp rd fs l [s] (Nat.le_refl _)]
theorem Zhl (rd fs : List Int) : ∀ (k : Nat) (l : List (List UInt8)),l.length = k → k ≤ 7 → (∀ s ∈ l,s.length ≤ 400) → TreeOk 10 (trV (Za5 rd fs l))
 | 0,l,hl,_,_ => by
  obtain rfl := List.eq_nil_of_length_eq_zero hl
  exact Z6m
 | k + 1,l,hl,hk,h4 => by
  rcases List.eq_nil_or_concat l with rfl | ⟨l,s,rfl⟩
  ·cases hl
  rw [List.concat_eq_append] at hl h4 ⊢;rw [List.length_append,List.length_singleton] at hl;have ih := Zhl rd fs k l (by omega) (by omega) fun x hx => h4 x (List.mem_append_left _ hx)
  rw [Zlw];have hp := Zst (vs := Za5 rd fs l) (v := recV s (digest rd fs [Zat rd fs l l.length,be8 (l.length : Nat),s])) (by rw [Zct]; omega) (Zno _ _) (Zs3 (h4 s (by simp)) (Zau _ _ _))
  rw [if_pos (by rw [Zct]; omega)] at hp
  have := Zyv ih logN (keyD (Za5 rd fs l).length) (recV s (digest rd fs [Zat rd fs l l.length,be8 (l.length : Nat),s]))
  rw [hp] at this;exact this
theorem Zy5 {m : List UInt8} (h : m.length = 32) (z : Value) (r : List Value) : Spl (List.replicate 32 z ++ r) 0 (bv m) (bv m ++ r) := by
 have h2 : (bv m).length = 32 := by rw [Zah]; exact h
 refine ⟨by rw [h2,List.length_append,List.length_replicate]; omega,?_⟩
 rw [h2]; rfl
theorem Zy4 {m : List UInt8} (h : m.length = 32) (u v : Value) (r : List Value) : Spl (bv m ++ (u :: r)) 32 [v] (bv m ++ (v :: r)) := by
 have h2 : (bv m).length = 32 := by rw [Zah]; exact h
 refine ⟨by simp only [List.length_cons,List.length_append,List.length_nil]; omega,?_⟩
 have e1 : (bv m ++ u :: r).take 32 = bv m := by
  have := List.take_left (l₁ := bv m) (l₂ := u :: r)
  rwa [h2] at this
 have e2 : (bv m ++ u :: r).drop (32 + [v].length) = r := by
  rw [show 32 + [v].length = (bv m).length + 1 by rw [h2]; rfl,List.drop_length_add_append]; rfl
 rw [e1,e2]; simp
section
variable {c f tp : Nat} {b : Int} {T : Int → Option Nd} {X : List RowD}
theorem St.chRX {W : World} {F : Nat → Prop} {N : Int → Option Nd} {rs : List Res} {w : World} {a : Option Addr} {cs : List Value} (hS : St W F (chR c f b T N X :: rs) w) (hx : RX X a cs) : ∃ X',(∀ y ∈ X,y ∈ X') ∧ (a,cs) ∈ X' ∧ St W F (chR c f b T N X' :: rs) w := by
 rcases hx with rfl | hx
 ·exact ⟨[(a,[])] ++ X,fun y hy => List.mem_append_right _ hy,List.mem_cons_self ..,((hS.own_none 0 1 a).toBag fun _ h => own.row h).chAdd⟩
 ·exact ⟨X,fun _ h => h,hx,hS⟩
theorem BsIn.snoc {L : List Bs} {X X' : List RowD} (h : BsIn L X) (hX : ∀ y ∈ X,y ∈ X') {x : Bs} (hx : (x.a,bv x.s) ∈ X') (hc : x.s.length ≤ x.c) : BsIn (L ++ [x]) X' :=
 ⟨fun y hy => by
  rcases List.mem_append.1 hy with hy | hy
  ·exact hX _ (h.inn y hy)
  ·obtain rfl := List.mem_singleton.1 hy
   exact hx,fun y hy => by
  rcases List.mem_append.1 hy with hy | hy
  ·exact h.cap y hy
  ·obtain rfl := List.mem_singleton.1 hy
   exact hc⟩
theorem Z1i (i : Nat) (hi : i < 10) (W : World) (hG : Lg W noF) : Calls Tryz.prog 30 #[.int .i64 (i : Nat)] W (Ret fun v w => v = .string (str (keyD i)) ∧ St W noF [] w) := by
 have := Z7a i W hG (by omega) (by rw [Zev,Lib.decDigits_one hi]; simp)
 rwa [Z4y hi] at this
theorem Z1f (rd fs : List Int) (l : List (List UInt8)) (hl7 : l.length ≤ 7) (h4 : ∀ s ∈ l,s.length ≤ 400) (tb : Nat) (W : World) (F : Nat → Prop) (hT : TreeRo W F f tp 10 b T) (hG : Lg W F) (hD : Gl W F rd fs) (htb : Ro W F (pts tb (tbC c logN))) (hS : St W F [chR c f b T (Nt (trV (Za5 rd fs l))) X] W) :
  Calls Tryz.prog 73 #[.pointer (some ⟨tb,0,none⟩)] W (Ret fun v w => ∃ (x : Nat) (ra : Option Addr) (rc : Nat) (L : List Bs) (X' : List RowD),v = .tuple #[.pointer (some ⟨x,0,none⟩),.bool true] ∧ (∀ y ∈ X,y ∈ X') ∧ Zay L = l ∧ BsIn L X' ∧ l.length ≤ rc ∧
   St W F [pts x (chnC l.length (Zat rd fs l l.length) tb ra rc),own 35 1 ra rc (L.map Bs.val),chR c f b T (Nt (trV (Za5 rd fs l))) X'] w) := by
 have ht := Zhl rd fs _ l rfl hl7 h4
 have hl33 : LenO (endV 0 (Zds rd fs Zex)) 33 := ⟨by rw [List.length_cons,Zah,Zcn]⟩
 refine Zab Tryz.func73 rfl Tryz.ntmps73 rfl ?_
 repeat (first|refine Yed ?_|refine Yag ?_|refine Yae ?_|refine Yci ?_|refine Yad ?_|refine Yab ?_)
 refine Zaa _ rfl rfl rfl rfl rfl (Z5s rd fs _ (hD.mono fun r hr => (hr.rd hS).ro)) ?_
 rintro _ w ⟨rfl,hS'⟩
 replace hS := hS.plus hS';clear hS';have hm0 : (Zds rd fs Zex).length = 32 := Zcn _ _ _
 have hs1 := fun z r => Zy5 hm0 z r
 have hs2 := fun u v r => Zy4 hm0 u v r
 repeat (first|refine Yed ?_|refine Yaf ?_|refine Yag ?_|refine Ybk ?_|refine Ya5 (fun _ _ hS _ => ?_)|refine Yae ?_|refine Zgj ?_|refine Yal ?_|refine Yab ?_)
 rename_i xb _ _;have hS := hS.own_none 35 1 none
 refine Zak (α := Nat × Option Addr × Nat × List Bs × List RowD) (fun z => [(0,.pointer (some ⟨tb,0,none⟩)),(4,.pointer (some ⟨xb,0,none⟩))])
  (fun z w => z.1 ≤ l.length ∧ (∀ y ∈ X,y ∈ z.2.2.2.2) ∧ Zay z.2.2.2.1 = l.take z.1 ∧ BsIn z.2.2.2.1 z.2.2.2.2 ∧ z.1 ≤ z.2.2.1 ∧ z.2.2.2.1.length = z.1 ∧
   St W F [pts xb (.cells (endX z.1 (Zat rd fs l z.1) [.pointer (some ⟨tb,0,none⟩),.slice z.2.1 z.1 z.2.2.1]).toArray 157 (0,0)),own 35 1 z.2.1 z.2.2.1 (z.2.2.2.1.map Bs.val),chR c f b T (Nt (trV (Za5 rd fs l))) z.2.2.2.2] w)
  (fun z => l.length - z.1) (0,none,0,[],X) ⟨rfl,rfl,trivial⟩ ⟨Nat.zero_le _,fun _ h => h,rfl,⟨fun _ h => (List.not_mem_nil h).elim,fun _ h => (List.not_mem_nil h).elim⟩,Nat.le_refl _,rfl,hS.pick [1,0,0]⟩ ?_
 clear hS;rintro ⟨i,ra,rc,L,X1⟩ w ⟨hi,hX1,hT1,hB1,hrc,hL1,hS⟩
 simp only at hi hX1 hT1 hB1 hrc hL1 hS ⊢
 obtain ⟨m,hm⟩ : ∃ m,m = Zat rd fs l i := ⟨_,rfl⟩
 have hm32 : m.length = 32 := by rw [hm]; exact Zby _ _ _ _
 rw [← hm] at hS;repeat (first|refine Yaa ?_|refine Yaf ?_|refine Yau ?_|refine Yan ?_|refine Yap ?_|refine Yeg ?_)
 refine Zaa _ rfl rfl rfl rfl rfl (Z1i i (by omega) _ (hG.at_ hS)) ?_
 rintro _ w ⟨rfl,hS'⟩
 replace hS := hS.plus hS';clear hS';repeat (first|refine Yed ?_|refine Yer ?_|refine Yee ?_|refine Yab ?_)
 obtain ⟨_,hcc,hr1,hw,hbk⟩ := hS.call [false,false,true]
 refine Zaa _ rfl rfl rfl rfl rfl (Z6j ht tb logN (keyD i) _ _ (hT.mono hw) (hG.mono hw) (hw _ htb) hcc) ?_
 rintro v w ⟨X2,hX2,hS,hv⟩
 replace hS := hbk hS
 clear hbk hw hcc hr1;have hX12 : ∀ y ∈ X,y ∈ X2 := fun y hy => hX2 y (hX1 y hy)
 by_cases hlt : i < l.length
 ·have hv0 := Zyu (rd := rd) (fs := fs) hlt
  obtain ⟨s,hs⟩ : ∃ s,s = l.getD i [] := ⟨_,rfl⟩
  have hsi : l[i]? = some s := by rw [hs,List.getD_eq_getElem?_getD]; simp [hlt]
  have hs4 := h4 s (List.mem_of_getElem? hsi)
  have hnx : Zat rd fs l (i + 1) = digest rd fs [m,be8 (i : Nat),s] := by rw [hm,hs]; rfl
  have hd32 : (digest rd fs [m,be8 (i : Nat),s]).length = 32 := Zau _ _ _
  rw [← hs,hnx] at hv0;rw [Zyx (by rw [Zct]; omega) hv0 (Zno _ _) (Zs4 (by omega) (by omega))] at hv
  obtain ⟨cs,rfl,hM⟩ := hv
  obtain ⟨e1,e2,e3,e4,e5,rfl,_⟩ := hM.lit
  have hm2 : LenO (bv (digest rd fs [m,be8 (i : Nat),s])) 32 := ⟨by rw [Zah]; exact hd32⟩
  generalize hdg : digest rd fs [m,be8 (i : Nat),s] = d at *;repeat (first|refine Yes ?_|(refine X_id ?_;first|refine Yaf ?_|refine Yag ?_|refine Yax ?_|refine Yaz ?_|refine Ybh ?_|refine Ya6 ?_|refine Ybf ?_|refine Yao (fun _ hS _ => ?_)|refine Yar (fun _ _ hS _ => ?_)|refine Ydm ?_)|refine Yet ?_|refine Yel ?_)
  refine Zaa _ rfl rfl rfl rfl rfl (Z2a (R := RX X2) _ (fun a cs h => (h.rd (hS.rd (r := chR c f b T (Nt (trV (Za5 rd fs l))) X2) (by simp)).ch).ro) s d hs4 hd32 _ hM) ?_
  rintro _ w ⟨a,q,rfl,hq,hrow,hS'⟩
  replace hS := hS.plus hS';clear hS';repeat (first|refine Yed ?_|refine Yex ?_|refine Yao (fun _ hS _ => ?_)|refine Yar (fun _ _ hS _ => ?_)|refine Yae ?_|refine Yab ?_)
  refine Zam (.s 0 (.s 1 (.s 2 (.s 3 (.s 4 (.s 5 (.s 6 (.s 7 (.s 8 (.s 9 (.s 10 (.s 11 (.s 12 (.s 13 (.s 15 (.h 14 (.s 16 (.s 17 .nil)) .no)))))))))))))))) mixed (by kernel_rfl) rfl ?_
  have hS := hS.drew
  repeat (first|(refine Zae ?_;first|refine Ya4 ?_|refine Yc7 ?_|refine Yb2 ?_|refine Ycx ?_|refine Ycn ?_))
  have hqE := (hS.rd (r := pts xb (.cells (endX i m [.pointer (some ⟨tb,0,none⟩),.slice ra i rc]).toArray 157 (0,0))) (by simp)).pts
  refine Za4 (fun w' => Zb5 w' _ _ _) rfl rfl rfl rfl (Zh7 hm32 hqE) (fun _ hc => Za2 rfl rfl hc) rfl rfl ?_
  repeat (first|(refine Zae ?_;first|refine Yb2 ?_|refine Ycx ?_|refine Ycn ?_|refine Ych ?_|refine Ycw ?_|refine Yd7 ?_))
  refine Zad 113 rfl rfl rfl rfl rfl hS (Zzm m (i : Nat) a q s rd fs _ hm32 (hD.mono fun r hr => (hr.rd hS).ro) (hrow.rd (hS.rd (r := chR c f b T (Nt (trV (Za5 rd fs l))) X2) (by simp)).ch).ro (by omega)) ?_
  rintro _ w rfl hS
  rw [hdg];repeat (first|(refine Zac ?_;first|refine Ya0 ?_))
  refine Zbt rfl rfl rfl rfl (fun _ => Zfh rfl rfl rfl hd32 hd32) rfl rfl ?_
  rw [decide_eq_false (fun h => h rfl)];repeat (first|refine Yaa ?_|refine Yaf ?_|refine Yau ?_|refine Yan ?_|refine Yeq ?_|refine Yab ?_|(refine Zae ?_;first|refine Yay ?_|refine Yb6 ?_))
  have hS : St W F [pts xb (.cells (endX i m [.pointer (some ⟨tb,0,none⟩),.slice ra i rc]).toArray 157 (0,0)),own 35 1 ra rc (L.map Bs.val),chR c f b T (Nt (trV (Za5 rd fs l))) X2] _ := hS.took
  obtain ⟨_,hcc,hr1,hw,hbk⟩ := hS.call [true]
  refine Zaa _ rfl rfl rfl rfl rfl (Z1h xb i m _ _ a q s rd fs _ _ hm32 (by omega) (hD.mono hw) (hrow.ro (hr1 (chR c f b T (Nt (trV (Za5 rd fs l))) X2) (by simp)).ch) (by omega) hcc) ?_
  rintro _ w ⟨rfl,hS⟩
  replace hS := hbk hS
  clear hbk hw hcc hr1;rw [hdg] at hS ⊢;repeat (first|refine Yed ?_|(refine X_id ?_;first|refine Yaf ?_|refine Yau ?_|refine Yan ?_|refine Yap ?_|refine Ybi (fun _ _ hS _ => ?_))|refine Yad ?_|refine Yab ?_)
  have hnw := (hS.rd (List.mem_cons_self ..)).own_row
  refine Zao rfl rfl rfl rfl rfl hS (by rw [List.length_map,hL1,Nat.mul_one]) hrc hnw rfl (by simp [Value.oneCell']) (by omega) (by simp only [maxLen]; omega) (fun b' q' w hS hq' _ => ?_)
  repeat (first|refine Yed ?_|refine Yau ?_|refine Yan ?_|refine Yao (fun _ hS _ => ?_)|refine Yaw ?_)
  have hS : St W F [chR c f b T (Nt (trV (Za5 rd fs l))) X2,pts xb (.cells (endX (i + 1) d [.pointer (some ⟨tb,0,none⟩),.slice b' (i + 1) q']).toArray 157 (0,0)),own 35 1 b' q' (L.map Bs.val ++ [.slice a s.length q])] _ := hS.took
  obtain ⟨X3,hX3,hin,hS⟩ := hS.chRX hrow
  refine Zaf (z := (i,ra,rc,L,X1)) (i + 1,b',q',L ++ [⟨a,q,s⟩],X3) ⟨rfl,rfl,trivial⟩ ⟨hlt,fun y hy => hX3 y (hX12 y hy),?_,hB1.snoc (fun y hy => hX3 y (hX2 y hy)) hin hq,hq',by rw [List.length_append,hL1]; rfl,?_⟩ (by dsimp only; omega)
  ·rw [List.take_succ_eq_append_getElem hlt,Zay,List.map_append]
   have : l[i] = s := by rw [List.getElem?_eq_getElem hlt] at hsi; injection hsi
   rw [this];have hT1' : L.map (·.s) = l.take i := hT1
   simp [hT1']
  ·dsimp only
   rw [hnx,List.map_append,show List.map Bs.val [(⟨a,q,s⟩ : Bs)] = [Value.slice a s.length q] from rfl]
   exact hS.took
 ·have hiz : i = l.length := by omega
  subst hiz
  rw [Zvx (by rw [Zct]; omega) (by omega)] at hv
  obtain ⟨_,rfl⟩ := hv
  repeat (first|refine Yev ?_|(refine X_id ?_;first|refine Yaf ?_|refine Yag ?_|refine Yax ?_|refine Ya7 ?_|refine Ybj ?_|refine Yao (fun _ hS _ => ?_)|refine Yar (fun _ _ hS _ => ?_))|refine Yfe ?_|refine Yab ?_|refine Yaq ?_|refine Yb9 ?_|refine Ya8 ?_|refine Ybo ?_)
  exact ⟨xb,ra,rc,L,X2,rfl,hX12,by rw [hT1,List.take_length],⟨fun x hx => hX2 _ (hB1.inn x hx),hB1.cap⟩,hrc,by rw [hm] at hS; exact hS.took⟩
end
theorem Zzr : ∀ (vs : List Mv),Zce (trV vs) [dbN,logN] = if vs = [] then -1 else 1
 | [] => by
  unfold Zce getR goR
  rw [if_pos (by decide)]; rfl
 | v :: l => by
  unfold Zce getR goR
  rw [if_pos (by decide)]; rfl
theorem Zpn (vs : List Mv) : (Zf4 (trV vs) [dbN,logN] 0).2 = 0 := by
 unfold Zf4
 rw [Zzr];cases vs with
 | nil => rfl
 | cons v l =>
  have h2 : (lstR (trV (v :: l)) [dbN,logN]).2 = 0 := by
   unfold lstR goR
   rw [if_pos (by decide)]; rfl
  rw [if_neg (List.cons_ne_nil v l),if_neg (by decide),if_neg (by decide),if_neg (fun e => e h2)]
section
variable {c f tp : Nat} {b : Int} {T : Int → Option Nd} {X : List RowD}
theorem Zxi (rd fs : List Int) (l : List (List UInt8)) (hl7 : l.length ≤ 7) (h4 : ∀ s ∈ l,s.length ≤ 400) (tb : Nat) (W : World) (F : Nat → Prop) (hT : TreeRo W F f tp 10 b T) (hG : Lg W F) (hD : Gl W F rd fs) (htb : Ro W F (pts tb (tbC c logN))) (hS : St W F [chR c f b T (Nt (trV (Za5 rd fs l))) X] W) :
  Calls Tryz.prog 59 #[.pointer (some ⟨tb,0,none⟩)] W (Ret fun v w => ∃ (x : Nat) (ra : Option Addr) (rc : Nat) (L : List Bs) (X' : List RowD),v = .tuple #[.pointer (some ⟨x,0,none⟩),.int .i64 0] ∧ (∀ y ∈ X,y ∈ X') ∧ Zay L = l ∧ BsIn L X' ∧ l.length ≤ rc ∧
   St W F [pts x (chnC l.length (Zat rd fs l l.length) tb ra rc),own 35 1 ra rc (L.map Bs.val),chR c f b T (Nt (trV (Za5 rd fs l))) X'] w) := by
 have ht := Zhl rd fs _ l rfl hl7 h4
 refine Zab Tryz.func59 rfl Tryz.ntmps59 rfl ?_
 repeat (first|refine Yed ?_|refine Yer ?_|refine Yee ?_|refine Yab ?_)
 obtain ⟨_,hcc,_,hw,hbk⟩ := hS.call [true]
 refine Zaa _ rfl rfl rfl rfl rfl (Z0v ht tb logN _ _ (hT.mono hw) (hG.mono hw) (hw _ htb) hcc) ?_
 rintro _ w ⟨X1,a,q,hX1,rfl,_,hS⟩
 replace hS := hbk hS
 clear hbk hw hcc;rw [Zpn];repeat (first|refine Yed ?_|refine Yfs ?_|refine Yeq ?_|refine Yab ?_)
 obtain ⟨_,hcc,_,hw,hbk⟩ := hS.call [false,true]
 refine Zaa _ rfl rfl rfl rfl rfl (Z1f rd fs l hl7 h4 tb _ _ (hT.mono hw) (hG.mono hw) (hD.mono hw) (hw _ htb) hcc) ?_
 rintro _ w ⟨x,ra,rc,L,X2,rfl,hX2,hT2,hB2,hrc,hS⟩
 replace hS := hbk hS
 clear hbk hw hcc;repeat (first|refine Yed ?_|refine Yaf ?_|refine Yag ?_|refine Yax ?_|refine Ybe ?_|refine Yfd ?_|refine Yey ?_)
 exact ⟨x,ra,rc,L,X2,rfl,fun y hy => hX2 y (hX1 y hy),hT2,hB2,hrc,hS.took⟩
end
end Cr
namespace Cr
open Go Go.Proofs
set_option maxRecDepth 100000
set_option maxHeartbeats 64000000

theorem BsIn.bss {L : List Bs} {X : List RowD} {W : World} {F : Nat → Prop} {a : Option Addr} {c : Nat} (h : BsIn L X) (h1 : Ro W F (own 35 1 a c (L.map Bs.val))) (h2 : Ro W F (bag X)) : Bss W F a L := ⟨h1.own_row,fun x hx => h2.bag (h.inn x hx)⟩
theorem Rd.cellsC {w : World} {b off o' i n : Nat} {cs seg : List Value} (H : Rd w (row (some ⟨b,off,none⟩) cs)) (hi : o' = off + i) (h : (cs.drop i).take n = seg) (hn : seg.length = n) : Zb5 w ⟨b,o',none⟩ n seg := by
 subst hi; subst h
 exact ⟨H.seg _ _,hn⟩
end Cr
namespace Cr
open Go Go.Proofs
set_option maxRecDepth 100000
set_option maxHeartbeats 64000000
attribute [local irreducible] Calls

theorem Z2b (a : Option Addr) (l : List Rec) (c : Nat) (W : World) (hs : Rd W (row a (Zbk l))) (hlim : l.length ≤ 1048576) :
  Calls Tryz.prog 67 #[.slice a l.length c] W (Ret fun v w => ∃ a' c',v = .slice a' l.length c' ∧ l.length ≤ c' ∧ St W noF [own 62 5 a' c' (Zbk l)] w) := by
 have hS := St.start W
 have hlen := Zc1 l
 cases a with
 | none =>
  have h0 : Zbk l = [] := hs.none_nil
  obtain rfl : l = [] := by
   rw [h0] at hlen;exact List.eq_nil_of_length_eq_zero (by simp at hlen; omega)
  refine Zab Tryz.func67 rfl Tryz.ntmps67 rfl ?_
  repeat (first|refine Yed ?_|refine Yen ?_|refine Yeo ?_|refine Yep ?_)
  exact ⟨none,0,rfl,Nat.le_refl _,hS.own_none _ _ _⟩
 | some ad =>
  refine Zab Tryz.func67 rfl Tryz.ntmps67 rfl ?_
  repeat (first|refine Yed ?_|refine Yen ?_|refine Ybi (fun _ _ hS _ => ?_)|refine Yeq ?_|refine Yab ?_)
  rename_i b w hb;have hs := hs.below hb
  refine Zao rfl rfl rfl rfl rfl hS rfl (by omega) hs hlen (Zf0 l) (by omega) (by simp only [maxLen]; omega) (fun a' c' w hS hc hnil => ?_)
  repeat (first|refine Yed ?_|refine Yag ?_|refine Yah ?_|refine Yef ?_)
  exact ⟨a',c',by rw [Nat.zero_add],by omega,hS⟩
abbrev audC (x : Nat) (la : Option Addr) (n lc : Nat) : Obj := .cells (List.toArray [.pointer (some ⟨x,0,none⟩),.slice la n lc]) 141 (0,0)
structure AuZ where
 A : List Rec
 la : Option Addr
 lc : Nat
 ra : Option Addr
 rc : Nat
 L : List Bs
 X : List RowD
structure AuZ.Ok (z : AuZ) : Prop where
 tL : Zay z.L = Zar z.A
 bL : BsIn z.L z.X
 ok : ∀ r ∈ z.A,rchk r = 0
 l7 : z.A.length ≤ 7
 rc : z.A.length ≤ z.rc
 lc : z.A.length ≤ z.lc
abbrev AuZ.res (rd fs : List Int) (ax x tb c f : Nat) (b : Int) (T : Int → Option Nd) (z : AuZ) : List Res := [pts ax (audC x z.la z.A.length z.lc),own 62 5 z.la z.lc (Zbk z.A),pts x (chnC (Zar z.A).length (Zat rd fs (Zar z.A) (Zar z.A).length) tb z.ra z.rc),own 35 1 z.ra z.rc (z.L.map Bs.val),chR c f b T (Nt (trV (Za5 rd fs (Zar z.A)))) z.X]
theorem Z0n (ax x : Nat) (la : Option Addr) (lc : Nat) (l : List Rec) (W : World) (hx : Ro W noF (pts ax (audC x la l.length lc))) (hs : Ro W noF (row la (Zbk l))) (hlim : l.length ≤ 1048576) :
  Calls Tryz.prog 25 #[.pointer (some ⟨ax,0,none⟩)] W (Ret fun v w => ∃ a' c',v = .slice a' l.length c' ∧ l.length ≤ c' ∧ St W noF [own 62 5 a' c' (Zbk l)] w) := by
 have hc := hx
 have hS := St.start W
 refine Zab Tryz.func25 rfl Tryz.ntmps25 rfl ?_
 repeat (first|refine Yed ?_|(refine X_id ?_;first|refine Yaf ?_|refine Yag ?_|refine Yau ?_|refine Yan ?_|refine Ybs ?_|refine Yca ?_)|refine Yeq ?_|refine Yab ?_)
 refine Zaa _ rfl rfl rfl rfl rfl (Z2b la l lc _ (hs.rd hS) hlim) ?_
 rintro _ w ⟨a',c',rfl,hc',hS'⟩
 replace hS := hS.plus hS';clear hS';repeat (first|refine Yed ?_|refine Yag ?_|refine Yah ?_|refine Yef ?_)
 exact ⟨a',c',rfl,hc',hS.took⟩
theorem Z3m (ax x : Nat) (la : Option Addr) (n lc m : Nat) (h : List UInt8) (tb : Nat) (ra : Option Addr) (rc : Nat) (W : World) (hx : Ro W noF (pts ax (audC x la n lc))) (hh : Rd W (pts x (chnC m h tb ra rc))) :
  Calls Tryz.prog 23 #[.pointer (some ⟨ax,0,none⟩)] W (Ret fun v w => v = .int .i64 (m : Nat) ∧ W = w) := by
 have hc := hx
 have hS := St.start W
 refine Zab Tryz.func23 rfl Tryz.ntmps23 rfl ?_
 repeat (first|refine Yed ?_|(refine X_id ?_;first|refine Yaf ?_|refine Yag ?_|refine Yau ?_|refine Yan ?_|refine Ybs ?_|refine Yca ?_)|refine Yeq ?_|refine Yab ?_)
 refine Zaa _ rfl rfl rfl rfl rfl (Z5l x m h tb ra rc _ hh) ?_
 rintro _ _ ⟨rfl,rfl⟩
 repeat (first|refine Yed ?_|refine Yag ?_|refine Yah ?_|refine Yef ?_)
 exact ⟨rfl,rfl⟩
abbrev ansV (l : List Nat) : List Value := l.map fun n => Value.int .i64 (n : Nat)
theorem Zxu (l : List Nat) (i : Nat) : ansV (l ++ [i]) = ansV l ++ [.int .i64 (i : Nat)] := List.map_append
theorem Ziy (q : Rec) : ∀ (l : List Rec) (i : Nat),(askF q i l).length ≤ l.length
 | [],_ => Nat.le_refl _
 | x :: l,i => by
  have ih := Ziy q l (i + 1)
  rw [askF]
  split
  ·simp only [List.length_cons]; omega
  ·simp only [List.length_cons]; omega
theorem Zxx (s t : List UInt8) (W : World) : Calls Tryz.prog 66 #[.string (str s),.string (str t)] W (Ret fun v w => v = .bool (decide (s = []) || decide (s = t)) ∧ St W noF [] w) := by
 have hS := St.start W
 by_cases h : s = []
 ·rw [decide_eq_true h]
  refine Zab Tryz.func66 rfl Tryz.ntmps66 rfl ?_
  repeat (first|refine Yev ?_|refine Yaf ?_|refine Yag ?_|refine Ya7 ?_|refine Yb7 ?_|refine Ye3 ?_|refine Yef ?_)
  exact ⟨rfl,hS⟩
 ·rw [decide_eq_false h]
  refine Zab Tryz.func66 rfl Tryz.ntmps66 rfl ?_
  repeat (first|refine Yes ?_|(refine X_id ?_;first|refine Yaf ?_|refine Yag ?_|refine Yaz ?_|refine Yb8 ?_|refine Ydm ?_)|refine Ye3 ?_|refine Yef ?_)
  exact ⟨rfl,hS⟩
theorem Zxv (q r : Rec) (W : World) : Calls Tryz.prog 24 #[.agg q.cells.toArray,.agg r.cells.toArray] W (Ret fun v w => v = .bool (Zdk q r) ∧ St W noF [] w) := by
 have hS := St.start W
 have C1 := fun W => Zxx q.cmd r.cmd W
 have C2 := fun W => Zxx q.pub r.pub W
 have C3 := fun W => Zxx q.pkg r.pkg W
 unfold Zdk
 generalize (decide (q.cmd = []) || decide (q.cmd = r.cmd)) = b1 at *;generalize (decide (q.pub = []) || decide (q.pub = r.pub)) = b2 at *;generalize (decide (q.pkg = []) || decide (q.pkg = r.pkg)) = b3 at *;cases b1 with
 | false =>
  refine Zab Tryz.func24 rfl Tryz.ntmps24 rfl ?_
  repeat (first|refine Yac ?_|refine Yaa ?_|refine Ybd ?_|refine Ycm ?_|(refine X_id ?_;first|(refine Zad 66 rfl rfl rfl rfl rfl hS (C1 _) ?_;rintro _ _ rfl hS)|refine Yaf ?_|refine Yag ?_|refine Yan ?_|refine Yaz ?_|refine Yap ?_|refine Ya5 (fun _ _ hS _ => ?_))|refine Ye3 ?_|refine Yef ?_)
  exact ⟨rfl,hS.drops⟩
 | true =>
  cases b2 with
  | false =>
   refine Zab Tryz.func24 rfl Tryz.ntmps24 rfl ?_
   repeat (first|refine Ye6 ?_|(refine X_id ?_;first|(refine Zad 66 rfl rfl rfl rfl rfl hS (C1 _) ?_;rintro _ _ rfl hS)|(refine Zad 66 rfl rfl rfl rfl rfl hS (C2 _) ?_;rintro _ _ rfl hS)|refine Yaf ?_|refine Yag ?_|refine Yan ?_|refine Ya7 ?_|refine Yaz ?_|refine Yap ?_|refine Ya5 (fun _ _ hS _ => ?_))|refine Ye3 ?_|refine Yef ?_)
   exact ⟨rfl,hS.drops⟩
  | true =>
   cases b3 with
   | false =>
    refine Zab Tryz.func24 rfl Tryz.ntmps24 rfl ?_
    repeat (first|refine Ye6 ?_|(refine X_id ?_;first|(refine Zad 66 rfl rfl rfl rfl rfl hS (C1 _) ?_;rintro _ _ rfl hS)|(refine Zad 66 rfl rfl rfl rfl rfl hS (C2 _) ?_;rintro _ _ rfl hS)|(refine Zad 66 rfl rfl rfl rfl rfl hS (C3 _) ?_;rintro _ _ rfl hS)|refine Yaf ?_|refine Yag ?_|refine Yan ?_|refine Ya7 ?_|refine Yaz ?_|refine Yap ?_|refine Ya5 (fun _ _ hS _ => ?_))|refine Ye3 ?_|refine Yef ?_)
    exact ⟨rfl,hS.drops⟩
   | true =>
    by_cases h1 : q.out < 0
    ·rw [decide_eq_true h1]
     refine Zab Tryz.func24 rfl Tryz.ntmps24 rfl ?_
     repeat (first|refine Ye0 ?_|(refine X_id ?_;first|(refine Zad 66 rfl rfl rfl rfl rfl hS (C1 _) ?_;rintro _ _ rfl hS)|(refine Zad 66 rfl rfl rfl rfl rfl hS (C2 _) ?_;rintro _ _ rfl hS)|(refine Zad 66 rfl rfl rfl rfl rfl hS (C3 _) ?_;rintro _ _ rfl hS)|refine Yaf ?_|refine Yag ?_|refine Yan ?_|refine Ya7 ?_|refine Ya2 ?_|refine Yap ?_|refine Ya5 (fun _ _ hS _ => ?_))|refine Ye3 ?_|refine Yef ?_)
     exact ⟨rfl,hS.drops⟩
    ·rw [decide_eq_false h1]
     by_cases h2 : q.out = r.out
     ·rw [decide_eq_true h2]
      refine Zab Tryz.func24 rfl Tryz.ntmps24 rfl ?_
      repeat (first|refine Yes ?_|(refine X_id ?_;first|(refine Zad 66 rfl rfl rfl rfl rfl hS (C1 _) ?_;rintro _ _ rfl hS)|(refine Zad 66 rfl rfl rfl rfl rfl hS (C2 _) ?_;rintro _ _ rfl hS)|(refine Zad 66 rfl rfl rfl rfl rfl hS (C3 _) ?_;rintro _ _ rfl hS)|refine Yaf ?_|refine Yag ?_|refine Yan ?_|refine Ya7 ?_|refine Yaz ?_|refine Ybj ?_|refine Ya3 ?_|refine Yap ?_|refine Ya5 (fun _ _ hS _ => ?_))|refine Ye3 ?_|refine Yef ?_)
      exact ⟨rfl,hS.drops⟩
     ·rw [decide_eq_false h2]
      refine Zab Tryz.func24 rfl Tryz.ntmps24 rfl ?_
      repeat (first|refine Yes ?_|(refine X_id ?_;first|(refine Zad 66 rfl rfl rfl rfl rfl hS (C1 _) ?_;rintro _ _ rfl hS)|(refine Zad 66 rfl rfl rfl rfl rfl hS (C2 _) ?_;rintro _ _ rfl hS)|(refine Zad 66 rfl rfl rfl rfl rfl hS (C3 _) ?_;rintro _ _ rfl hS)|refine Yaf ?_|refine Yag ?_|refine Yan ?_|refine Ya7 ?_|refine Yaz ?_|refine Ybh ?_|refine Ya3 ?_|refine Yap ?_|refine Ya5 (fun _ _ hS _ => ?_))|refine Ye3 ?_|refine Yef ?_)
      exact ⟨rfl,hS.drops⟩
theorem Z7e (q : Rec) (ax x : Nat) (la : Option Addr) (lc : Nat) (l : List Rec) (W : World) (hx : Ro W noF (pts ax (audC x la l.length lc))) (hs : Ro W noF (row la (Zbk l))) (hlim : l.length ≤ 1000) :
  Calls Tryz.prog 22 #[.pointer (some ⟨ax,0,none⟩),.agg q.cells.toArray] W (Ret fun v w => ∃ a' c',v = .slice a' (askF q 0 l).length c' ∧ (askF q 0 l).length ≤ c' ∧ St W noF [own 3 1 a' c' (ansV (askF q 0 l))] w) := by
 have hS := St.start W
 refine Zab Tryz.func22 rfl Tryz.ntmps22 rfl ?_
 repeat (first|refine Yed ?_|refine Yer ?_|refine Ya5 (fun _ _ hS _ => ?_)|refine Yae ?_|refine Zgj ?_|refine Yci ?_|refine Yad ?_|refine Yab ?_)
 rename_i bq _ _;refine Zaa _ rfl rfl rfl rfl rfl (Z0n ax x la lc l _ (hx.rd hS).ro (hs.rd hS).ro (by omega)) ?_
 rintro _ w ⟨a1,c1,rfl,hc1,hS'⟩
 replace hS := hS.plus hS';clear hS';repeat (first|refine Yed ?_|refine Yaf ?_|refine Yav ?_|refine Yal ?_|refine Yab ?_)
 have hS := hS.own_none 3 1 none
 refine Zak (α := Nat × Option Addr × Nat) (fun z => [(3,.pointer (some ⟨bq,0,none⟩)),(5,.slice z.2.1 (askF q 0 (l.take z.1)).length z.2.2),(9,.slice a1 l.length c1),(10,.int .i64 (l.length : Nat)),(11,.int .i64 (z.1 : Nat))])
  (fun z w => z.1 ≤ l.length ∧ (askF q 0 (l.take z.1)).length ≤ z.2.2 ∧ St W noF [own 3 1 z.2.1 z.2.2 (ansV (askF q 0 (l.take z.1))),own 62 5 a1 c1 (Zbk l),pts bq (.cells q.cells.toArray 62 (0,0))] w) (fun z => l.length - z.1) (0,none,0) ⟨rfl,rfl,rfl,rfl,rfl,trivial⟩ ⟨Nat.zero_le _,Nat.le_refl _,hS⟩ ?_
 clear hS;rintro ⟨i,a2,c2⟩ w ⟨hi,hc2,hS⟩
 simp only at hi hc2 hS ⊢
 by_cases hlt : i < l.length
 ·have hx0 : l[i]? = some l[i] := List.getElem?_eq_getElem hlt
  have htk : askF q 0 (l.take (i + 1)) = askF q 0 (l.take i) ++ (if Zdk q l[i] = true then [i] else []) := by
   rw [List.take_succ_eq_append_getElem hlt,Zia,List.length_take,Nat.min_eq_left hi,Nat.zero_add]
  generalize l[i] = r at hx0 htk;have hxs := Zhs hx0
  have hlr := Zc1 l
  obtain ⟨bb,hbb⟩ := St.ownBase (hS.pick [1]) (by intro e; rw [e] at hxs; simp at hxs)
  rw [hbb] at hS ⊢;have hM := fun W => Zxv q r W
  have hal : (askF q 0 (l.take i)).length ≤ i := Nat.le_trans (Ziy q _ 0) (by rw [List.length_take]; omega)
  generalize askF q 0 (l.take i) = out at htk hc2 hS hal ⊢;repeat (first|refine Yed ?_|refine Yaf ?_|refine Ya2 ?_|refine Ybc ?_|refine Yeh ?_|refine Yab ?_)
  refine X_yl (Za2 rfl rfl ((hS.ownRd (a := some ⟨bb,0,none⟩)).cellsC (by first | omega | (dsimp only; omega)) hxs rfl)) rfl rfl ?_
  repeat (first|refine Yed ?_|refine Yag ?_|refine Ybf ?_|refine Yao (fun _ hS _ => ?_)|refine Yar (fun _ _ hS _ => ?_)|refine Yee ?_|refine Yab ?_)
  refine Zaa _ rfl rfl rfl rfl rfl (hM _) ?_
  rintro _ w ⟨rfl,hS'⟩
  replace hS := hS.plus hS';clear hS';rcases Bool.eq_false_or_eq_true (Zdk q r) with hm | hm
  ·rw [hm]
   rw [if_pos hm] at htk;repeat (first|refine Yed ?_|refine Yaf ?_|refine Ybe ?_|refine Ybi (fun _ _ hS _ => ?_)|refine Yfi ?_|refine Yab ?_)
   have hnw := (hS.rd (List.mem_cons_self ..)).own_row
   refine Zao (T := 3) (a := a2) (m := 1) rfl rfl rfl rfl rfl hS (by rw [List.length_map,Nat.mul_one]) hc2 hnw rfl (by simp [Value.oneCell']) (by omega) (by simp only [maxLen]; omega) (fun b' q'' w hS hq'' _ => ?_)
   repeat (first|refine Yed ?_|refine Yew ?_|refine Yad ?_|refine Yel ?_)
   refine Zaf (z := (i,a2,c2)) (i + 1,b',q'') ⟨rfl,by dsimp only; rw [htk,List.length_append]; rfl,rfl,rfl,rfl,trivial⟩ ⟨hlt,by dsimp only; rw [htk,List.length_append]; exact hq'',?_⟩ (by dsimp only; omega)
   dsimp only
   rw [htk];have hS := hS.pick [0,2,2]
   rw [← Zxu] at hS;exact hS
  ·rw [hm]
   rw [if_neg (by rw [hm]; decide),List.append_nil] at htk
   repeat (first|refine Yed ?_|refine Yaf ?_|refine Ybq ?_|refine Ya1 ?_|refine Yad ?_|refine Ya9 ?_|refine Yaj ?_|refine Yej ?_)
   refine Zaf (z := (i,a2,c2)) (i + 1,a2,c2) ⟨rfl,by dsimp only; rw [htk]; rfl,rfl,rfl,rfl,trivial⟩ ⟨hlt,by dsimp only; rw [htk]; exact hc2,?_⟩ (by dsimp only; omega)
   dsimp only
   rw [htk];exact hS.took
 ·obtain rfl : i = l.length := by omega
  rw [List.take_length] at *
  repeat (first|refine Yed ?_|refine Yfj ?_|refine Yem ?_|refine Yab ?_|refine Yb9 ?_|refine Yba ?_|refine Ybb ?_|refine Yam ?_)
  exact ⟨a2,c2,rfl,hc2,hS.took⟩
theorem Z02 {w : World} {b : Nat} {T : TypeId} {s : List UInt8} (h : w.heap[b]? = some (.cells (bv s).toArray T (0,0))) : Rd w (bytes (some ⟨b,0,none⟩) s) :=
 ⟨Zck b _,.inr ⟨b,0,(bv s).toArray,T,_,rfl,rfl,fun i v hv => by simpa using hv⟩,fun k o hk => by
  unfold Zck at hk
  split at hk
  ·rename_i e
   cases hk
   rw [e]; exact h
  ·cases hk⟩

section
variable {c f tp : Nat} {b : Int} {T : Int → Option Nd} {X : List RowD}
theorem Z7b (rd fs : List Int) (l : List (List UInt8)) (hl7 : l.length ≤ 7) (h4 : ∀ s ∈ l,s.length ≤ 400) (tb x : Nat) (ra : Option Addr) (rc : Nat) (L : List Bs) (a : Option Addr) (M : List Bs) (mc : Nat) (W : World) (F : Nat → Prop) (hT : TreeRo W F f tp 10 b T) (hG : Lg W F) (hD : Gl W F rd fs) (htb : Ro W F (pts tb (tbC c logN)))
  (hB : Bss W F a M) (hM : M.length ≤ 1000) (hM4 : ∀ y ∈ M,y.s.length ≤ 400) (hTL : Zay L = l) (hBL : BsIn L X) (hrc : l.length ≤ rc) (hS : St W F [pts x (chnC l.length (Zat rd fs l l.length) tb ra rc),own 35 1 ra rc (L.map Bs.val),chR c f b T (Nt (trV (Za5 rd fs l))) X] W) :
  Calls Tryz.prog 63 #[.pointer (some ⟨x,0,none⟩),.slice a M.length mc] W (Ret fun v w => ∃ (l' : List (List UInt8)) (ra' : Option Addr) (rc' : Nat) (L' : List Bs) (X' : List RowD) (k : Nat),l' = l ++ (Zay M).take k ∧ k = min M.length (7 - l.length) ∧ v = .tuple #[.int .i64 (k : Nat),.int .i64 (if l.length + M.length ≤ 7 then 0 else 6)] ∧ (∀ y ∈ X,y ∈ X') ∧ Zay L' = l' ∧ BsIn L' X' ∧ l'.length ≤ rc' ∧
   St W F [pts x (chnC l'.length (Zat rd fs l' l'.length) tb ra' rc'),own 35 1 ra' rc' (L'.map Bs.val),chR c f b T (Nt (trV (Za5 rd fs l'))) X'] w) := by
 refine Zab Tryz.func63 rfl Tryz.ntmps63 rfl ?_
 repeat (first|refine Yed ?_|refine Yaf ?_|refine Yag ?_|refine Yav ?_|refine Ybs ?_|refine Yet ?_|refine Yab ?_)
 refine Zbw (α := Unit) (fun _ => [(0,.pointer (some ⟨x,0,none⟩)),(1,.slice a M.length mc)]) (fun _ w => St W F [pts x (chnC l.length (Zat rd fs l l.length) tb ra rc),own 35 1 ra rc (L.map Bs.val),chR c f b T (Nt (trV (Za5 rd fs l))) X] w) ?_ ?_
 ·refine Zak (α := Nat) (fun i => [(0,.pointer (some ⟨x,0,none⟩)),(1,.slice a M.length mc),(14,.slice a M.length mc),(15,.int .i64 (M.length : Nat)),(16,.int .i64 (i : Nat))])
   (fun i w => i ≤ M.length ∧ St W F [pts x (chnC l.length (Zat rd fs l l.length) tb ra rc),own 35 1 ra rc (L.map Bs.val),chR c f b T (Nt (trV (Za5 rd fs l))) X] w) (fun i => M.length - i) 0 ⟨rfl,rfl,rfl,rfl,rfl,trivial⟩ ⟨Nat.zero_le _,hS⟩ ?_
  clear hS;rintro i w ⟨hi,hS⟩
  by_cases hlt : i < M.length
  ·have hx0 : M[i]? = some M[i] := List.getElem?_eq_getElem hlt
   generalize M[i] = y at hx0;have hy4 := hM4 y (List.mem_of_getElem? hx0)
   have hr := hB.row
   have hx : (M.map Bs.val)[i]? = some (.slice y.a y.s.length y.c) := by simp [hx0,Bs.val]
   obtain ⟨ab,ao,rfl⟩ := (hr.rd hS).base (by intro e; rw [e] at hx; simp at hx)
   repeat (first|refine Yed ?_|(refine X_id ?_;first|refine Yaf ?_|refine Yag ?_|refine Yav ?_|refine Ya2 ?_|refine Ybt ?_|refine Ybc ?_|refine Ya1 ?_|refine Ybz ?_)|refine Yek ?_|refine Yel ?_)
   refine Zaf (i + 1) ⟨rfl,rfl,rfl,rfl,rfl,trivial⟩ ⟨hlt,hS⟩ (by omega)
  ·repeat (first|refine Yed ?_|refine Ya3 ?_|refine Yeu ?_|refine Yej ?_)
   exact Za7 () ⟨rfl,rfl,trivial⟩ hS
 clear hS;rintro ⟨⟩ w hS
 repeat (first|refine Yed ?_|refine Yaf ?_|refine Yav ?_|refine Yeg ?_|refine Yab ?_)
 have hLl : L.length = l.length := by rw [← hTL]; simp [Zay]
 refine Zak (α := Nat × Option Addr × Nat × List Bs × List RowD) (fun z => [(0,.pointer (some ⟨x,0,none⟩)),(1,.slice a M.length mc),(24,.slice a M.length mc),(25,.int .i64 (M.length : Nat)),(26,.int .i64 (z.1 : Nat))])
  (fun z w => z.1 ≤ M.length ∧ l.length + z.1 ≤ 7 ∧ (∀ y ∈ X,y ∈ z.2.2.2.2) ∧ Zay z.2.2.2.1 = l ++ (Zay M).take z.1 ∧ BsIn z.2.2.2.1 z.2.2.2.2 ∧ l.length + z.1 ≤ z.2.2.1 ∧ z.2.2.2.1.length = l.length + z.1 ∧
   St W F [pts x (.cells (endX (l.length + z.1) (Zat rd fs (l ++ (Zay M).take z.1) (l.length + z.1)) [.pointer (some ⟨tb,0,none⟩),.slice z.2.1 (l.length + z.1) z.2.2.1]).toArray 157 (0,0)),own 35 1 z.2.1 z.2.2.1 (z.2.2.2.1.map Bs.val),chR c f b T (Nt (trV (Za5 rd fs (l ++ (Zay M).take z.1)))) z.2.2.2.2] w)
  (fun z => M.length - z.1) (0,ra,rc,L,X) ⟨rfl,rfl,rfl,rfl,rfl,trivial⟩ ⟨Nat.zero_le _,hl7,fun _ h => h,by simp [hTL],hBL,hrc,hLl,by simpa using hS⟩ ?_
 clear hS;rintro ⟨i,ra1,rc1,L1,X1⟩ w ⟨hi,hi7,hX1,hT1,hB1,hrc1,hL1,hS⟩
 simp only at hi hi7 hX1 hT1 hB1 hrc1 hL1 hS ⊢
 obtain ⟨li,hli⟩ : ∃ li,li = l ++ (Zay M).take i := ⟨_,rfl⟩
 obtain ⟨n,hn⟩ : ∃ n,n = l.length + i := ⟨_,rfl⟩
 have hlin : li.length = n := by rw [hli,hn]; simp [Zay,hi]
 have hli4 : ∀ s ∈ li,s.length ≤ 400 := fun s hs => by
  rw [hli] at hs;rcases List.mem_append.1 hs with hs | hs
  ·exact h4 s hs
  ·obtain ⟨y,hy,rfl⟩ := List.mem_map.1 (List.mem_of_mem_take hs)
   exact hM4 y hy
 rw [← hli] at hT1 hS;rw [← hn] at hi7 hrc1 hL1 hS;obtain ⟨m,hm⟩ : ∃ m,m = Zat rd fs li n := ⟨_,rfl⟩
 have hm32 : m.length = 32 := by rw [hm]; exact Zby _ _ _ _
 rw [← hm] at hS;have ht := Zhl rd fs _ li rfl (by omega) hli4
 by_cases hlt : i < M.length
 ·have hx0 : M[i]? = some M[i] := List.getElem?_eq_getElem hlt
  have htk : (Zay M).take (i + 1) = (Zay M).take i ++ [M[i].s] := by
   have := List.take_succ_eq_append_getElem (l := Zay M) (i := i) (by simp [Zay,hlt])
   rw [this]; simp [Zay]
  generalize M[i] = y at hx0 htk;have hym := List.mem_of_getElem? hx0
  have hy4 := hM4 y hym
  have hr := hB.row
  have hb := hB.all y hym
  have hx : (M.map Bs.val)[i]? = some (.slice y.a y.s.length y.c) := by simp [hx0,Bs.val]
  obtain ⟨ab,ao,rfl⟩ := (hr.rd hS).base (by intro e; rw [e] at hx; simp at hx)
  repeat (first|refine Yed ?_|refine Yfl ?_|refine Yeh ?_|refine Yab ?_)
  obtain ⟨d,hdg⟩ : ∃ d,d = digest rd fs [m,be8 (n : Nat),y.s] := ⟨_,rfl⟩
  have hd32 : d.length = 32 := by rw [hdg]; exact Zau _ _ _
  have hd32L : LenO (bv d) 32 := ⟨by rw [Zah]; exact hd32⟩
  refine Zlq (α := Nat) (fun bm => [(0,.pointer (some ⟨x,0,none⟩)),(1,.slice (some ⟨ab,ao,none⟩) M.length mc),(24,.slice (some ⟨ab,ao,none⟩) M.length mc),(25,.int .i64 (M.length : Nat)),(26,.int .i64 (i : Nat)),(8,.int .i64 (i : Nat)),(9,.slice y.a y.s.length y.c),(10,.pointer (some ⟨bm,0,none⟩))])
   (fun bm w => St W F [pts bm (.cells (bv d).toArray 79),pts x (.cells (endX n m [.pointer (some ⟨tb,0,none⟩),.slice ra1 n rc1]).toArray 157 (0,0)),own 35 1 ra1 rc1 (L1.map Bs.val),chR c f b T (Nt (trV (Za5 rd fs li))) X1] w) ?_ ?_
  ·skip
   refine Zam (.s 0 (.s 1 (.s 2 (.s 3 (.s 4 (.s 5 (.s 6 (.s 7 (.s 8 (.s 9 (.s 10 (.h 11 (.h 12 (.h 13 .nil .no) .no) (.h 12 (.h 11 (.h 13 .nil .no) .no) .no))))))))))))) mixed (by kernel_rfl) rfl ?_
   have hS := hS.drew
   have hqE := (hS.rd (r := pts x (.cells (endX n m [.pointer (some ⟨tb,0,none⟩),.slice ra1 n rc1]).toArray 157 (0,0))) (List.mem_cons_self ..)).pts
   repeat (first|(refine Zae ?_;first|refine Ya4 ?_|refine Ybr ?_|refine Ybg ?_))
   refine Za0 (fun w' => Zb5 w' _ _ _) rfl rfl (Zh7 hm32 hqE) (fun _ hc => Za2 rfl rfl hc) rfl rfl ?_
   repeat' (first|refine Zie ?_ ?_|refine Yar (fun _ _ hS _ => ?_)|(refine Zae ?_;first|refine Ya4 ?_|refine Ybr ?_|refine Ybg ?_|refine Ybn ?_|refine Yas ?_)|(refine Zac ?_;first|refine Ycp ?_))
   ·refine Zad 113 rfl rfl rfl rfl rfl hS (Zzm m (n : Nat) y.a y.c y.s rd fs _ hm32 (hD.mono fun r hr => (hr.rd hS).ro) (hb.rd hS).ro (by omega)) ?_
    rintro _ w rfl hS
    rw [← hdg];repeat (first|refine Yao (fun _ hS _ => ?_)|refine Yar (fun _ _ hS _ => ?_)|(refine Zae ?_;first|refine Yay ?_|refine Yas ?_)|(refine Zac ?_;first|refine Ycp ?_))
    exact Za7 _ ⟨rfl,rfl,rfl,rfl,rfl,rfl,rfl,rfl,trivial⟩ hS.took
   ·refine Zad 113 rfl rfl rfl rfl rfl hS (Zzm m (n : Nat) y.a y.c y.s rd fs _ hm32 (hD.mono fun r hr => (hr.rd hS).ro) (hb.rd hS).ro (by omega)) ?_
    rintro _ w rfl hS
    rw [← hdg];repeat (first|refine Yao (fun _ hS _ => ?_)|(refine Zae ?_;first|refine Yay ?_|refine Yas ?_)|(refine Zac ?_;first|refine Ycp ?_))
    exact Za7 _ ⟨rfl,rfl,rfl,rfl,rfl,rfl,rfl,rfl,trivial⟩ hS.took
  clear hS;rintro bm w hS
  repeat (first|refine Yae ?_)
  refine Zam (.s 0 (.s 1 (.s 2 (.s 3 (.s 4 (.s 5 (.s 6 (.s 7 (.s 8 (.s 10 (.s 11 (.s 13 (.s 14 (.h 9 (.h 12 (.h 15 (.h 16 (.h 17 (.h 18 (.s 19 .nil) .no) .no) .no) .no) .no) .no)))))))))))))) mixed (by kernel_rfl) rfl ?_
  have hS := hS.drew
  repeat (first|(refine Zae ?_;first|refine Ya4 ?_|refine Ybr ?_|refine Ybg ?_))
  refine Za0 (fun w' => w'.cell? _ = some _) rfl rfl (Zqa hm32 hS.has (j := 0) rfl) (fun _ hc => Zas rfl rfl hc) rfl rfl ?_
  repeat (first|(refine Zae ?_;first|refine Ya4 ?_|refine Ybr ?_|refine Ybg ?_|refine Yda ?_|refine Ybn ?_|refine Yd6 ?_))
  refine Za0 (fun w' => Rd w' (bytes _ _)) rfl rfl (Z02 hS.has) (fun _ h => Zbl rfl rfl h hd32) rfl rfl ?_
  repeat (first|(refine Zae ?_;first|refine Yas ?_))
  refine Zaa _ rfl rfl rfl rfl rfl (Z1i n (by omega) _ (hG.at_ hS)) ?_
  rintro _ w ⟨rfl,hS'⟩
  replace hS := hS.plus hS';clear hS';repeat (first|(refine Zae ?_;first|refine Yas ?_)|(refine Zac ?_;first|refine Ycp ?_))
  refine Zaa _ rfl rfl rfl rfl rfl (Zly y.s _) ?_
  rintro _ w ⟨u1,v1,Y1,rfl,hMa,hS'⟩
  replace hS := hS.plus hS';clear hS';repeat (first|(refine Zae ?_;first|refine Yas ?_)|(refine Zac ?_;first|refine Ycp ?_))
  refine Zaa _ rfl rfl rfl rfl rfl (Zly d _) ?_
  rintro _ w ⟨u2,v2,Y2,rfl,hMb,hS'⟩
  replace hS := hS.plus hS';clear hS';repeat (first|refine Ybi (fun _ _ hS _ => ?_)|(refine Zae ?_;first|refine Yas ?_)|(refine Zac ?_;first|refine Ycp ?_))
  rename_i pq _ _;have hMs : Mrds (RoR _ noF) [txM y.s,txM d] [[.int .i64 1,.int .i64 0,.slice u1 y.s.length v1,.slice none 0 0],[.int .i64 1,.int .i64 0,.slice u2 d.length v2,.slice none 0 0]] :=
   (Mrds.nil.snoc (hMa.mono fun _ _ h => (h.rd (hS.rd (r := bag Y1) (by simp))).ro)).snoc (hMb.mono fun _ _ h => (h.rd (hS.rd (r := bag Y2) (by simp))).ro)
  refine Zaa _ rfl rfl rfl rfl rfl (of_M (some ⟨pq,0,none⟩) [txM y.s,txM d] 2 [[.int .i64 1,.int .i64 0,.slice u1 y.s.length v1,.slice none 0 0],[.int .i64 1,.int .i64 0,.slice u2 d.length v2,.slice none 0 0]] _ (hS.rd (List.mem_cons_self ..)).own_row.ro hMs (by simp only [wMs,Zjj,List.length_nil]; omega)) ?_
  rintro _ w ⟨b3,q3,rows',Y3,rfl,hq3,hMr,hS'⟩
  replace hS := hS.plus hS';clear hS' hMs;have hcp : [txM y.s,txM d].map (Zdy 8) = [txM y.s,txM d] := by
   rw [List.map_cons,List.map_cons,List.map_nil,Zoa 8 _ (Zdz 8 _),Zoa 8 _ (Zdz 8 _)]
  rw [hcp] at hMr;repeat (first|(refine Zae ?_;first|refine Yas ?_)|(refine Zac ?_;first|refine Ycp ?_))
  have hS : St W F [chR c f b T (Nt (trV (Za5 rd fs li))) X1,pts x (.cells (endX n m [.pointer (some ⟨tb,0,none⟩),.slice ra1 n rc1]).toArray 157 (0,0)),own 35 1 ra1 rc1 (L1.map Bs.val),own 38 4 b3 q3 rows'.flatten,bag Y3] _ := hS.took
  have hlen5 := Zs3 hy4 hd32
  obtain ⟨F2,hcc,hr1,hw,hbk⟩ := hS.call [true]
  have hv : Mrd (RoR _ F2) (recV y.s d) [.int .i64 2,.int .i64 0,.slice none 0 0,.slice b3 2 q3] := .mk' rfl rfl (Nat.zero_le _) (Zfs _ _ _) (hr1 (own 38 4 b3 q3 rows'.flatten) (by simp)).own_row hMr.1 (fun j z cs h1 h2 => (hMr.2 j z cs h1 h2).mono fun _ _ h => h.ro (hr1 (bag Y3) (by simp)))
  refine Zaa _ rfl rfl rfl rfl rfl (Z6i ht tb logN (keyD n) (recV y.s d) _ _ _ (hT.mono hw) (hG.mono hw) (hw _ htb) hv (by rw [Z4f]; omega) (Zs4 (by omega) (by omega)) (by omega) hcc) ?_
  rintro _ w ⟨rfl,X2,hX2,hS⟩
  replace hS := hbk hS
  clear hbk hw hcc hr1 hv;have hput := Zst (vs := Za5 rd fs li) (v := recV y.s d) (by rw [Zct]; omega) (Zno _ _) hlen5
  rw [Zct,hlin] at hput;rw [hput] at hS ⊢;by_cases h7 : n < 7
  ·rw [if_pos h7] at hS ⊢
   have hsn : Za5 rd fs li ++ [recV y.s d] = Za5 rd fs (li ++ [y.s]) := by rw [Zlw,hlin,← hm,← hdg]
   rw [hsn] at hS;repeat (first|refine Yed ?_|refine Yaf ?_|refine Yau ?_|refine Yan ?_|refine Ya6 ?_|refine Yeq ?_|refine Yab ?_|(refine Zae ?_;first|refine Ye9 ?_)|(refine Zac ?_;first|refine Ycp ?_))
   have hS : St W F [pts x (.cells (endX n m [.pointer (some ⟨tb,0,none⟩),.slice ra1 n rc1]).toArray 157 (0,0)),own 35 1 ra1 rc1 (L1.map Bs.val),chR c f b T (Nt (trV (Za5 rd fs (li ++ [y.s])))) X2] _ := hS.took
   obtain ⟨_,hcc,_,hw,hbk⟩ := hS.call [true]
   refine Zaa _ rfl rfl rfl rfl rfl (Z1h x n m _ _ y.a y.c y.s rd fs _ _ hm32 (by omega) (hD.mono hw) (hw _ hb) (by omega) hcc) ?_
   rintro _ w ⟨rfl,hS⟩
   replace hS := hbk hS
   clear hbk hw hcc;rw [← hdg] at hS ⊢;repeat (first|refine Yac ?_|refine Yab ?_)
   refine Zam (.s 0 (.s 1 (.s 2 (.s 3 (.s 4 (.s 5 (.h 6 (.h 7 (.h 8 (.s 9 (.s 10 (.h 11 .nil .no))) .no) .no) .no))))))) mixed (by kernel_rfl) rfl ?_
   have hS := hS.drew
   repeat (first|(refine Zae ?_;first|refine Ya4 ?_|refine Ybr ?_|refine Ybg ?_|refine Ybn ?_|refine Yas ?_))
   refine Zaa _ rfl rfl rfl rfl rfl (Zen y.a y.s.length y.c y.s _ (hb.rd hS) rfl (by omega)) ?_
   rintro _ w ⟨a',q',rfl,_,hq',hS'⟩
   replace hS := hS.plus hS';clear hS';repeat (first|refine Ybi (fun _ _ hS _ => ?_)|(refine Zae ?_;first|refine Yas ?_)|(refine Zac ?_;first|refine Ycp ?_))
   have hnw := (hS.rd (List.mem_cons_self ..)).own_row
   refine Zao rfl rfl rfl rfl rfl hS (by rw [List.length_map,hL1,Nat.mul_one]) hrc1 hnw rfl (by simp [Value.oneCell']) (by omega) (by simp only [maxLen]; omega) (fun b' q'' w hS hq'' _ => ?_)
   repeat (first|refine Yed ?_|refine Yei ?_|refine Yao (fun _ hS _ => ?_)|refine Yad ?_|refine Yel ?_|(refine Zae ?_;first|refine Yay ?_|refine Ybr ?_|refine Ybg ?_|refine Yas ?_)|(refine Zac ?_;first|refine Ycp ?_))
   have hS : St W F [own 5 1 a' q' (bv y.s),chR c f b T (Nt (trV (Za5 rd fs (li ++ [y.s])))) X2,pts x (.cells (endX (n + 1) d [.pointer (some ⟨tb,0,none⟩),.slice b' (n + 1) q'']).toArray 157 (0,0)),own 35 1 b' q'' (L1.map Bs.val ++ [.slice a' y.s.length q'])] _ := hS.took
   have hS := (hS.toBag (a := a') (cs := bv y.s) fun _ h => own.row h).chAdd
   have hl1 : l ++ (Zay M).take (i + 1) = li ++ [y.s] := by rw [htk,← List.append_assoc,← hli]
   have hnx : Zat rd fs (li ++ [y.s]) (n + 1) = d := by
    show digest rd fs [Zat rd fs (li ++ [y.s]) n,be8 (n : Nat),(li ++ [y.s]).getD n []] = d
    rw [Zgp rd fs li [y.s] (by omega),← hm,hdg,← hlin]
    simp
   refine Zaf (z := (i,ra1,rc1,L1,X1)) (i + 1,b',q'',L1 ++ [⟨a',q',y.s⟩],[(a',bv y.s)] ++ X2) ⟨rfl,rfl,rfl,rfl,rfl,trivial⟩ ⟨hlt,by dsimp only; omega,fun z hz => List.mem_append_right _ (hX2 z (hX1 z hz)),?_,hB1.snoc (fun z hz => List.mem_append_right _ (hX2 z hz)) (List.mem_append_left _ (List.mem_cons_self ..)) hq',by dsimp only; omega,by rw [List.length_append,hL1,hn]; rfl,?_⟩ (by dsimp only; omega)
   ·dsimp only
    rw [hl1,← hT1];simp [Zay]
   ·dsimp only
    rw [hl1,show l.length + (i + 1) = n + 1 by omega,hnx,List.map_append,show List.map Bs.val [(⟨a',q',y.s⟩ : Bs)] = [Value.slice a' y.s.length q'] from rfl]
    exact hS.took
  ·rw [if_neg h7] at hS ⊢
   have hki : i = 7 - l.length := by omega
   repeat (first|refine Yed ?_|refine Yaf ?_|refine Yag ?_|refine Ybm ?_|refine Yeo ?_|refine Yfm ?_|(refine Zae ?_;first|refine Ye9 ?_)|(refine Zac ?_;first|refine Ycp ?_))
   refine ⟨li,ra1,rc1,L1,X2,i,hli,by omega,by rw [if_neg (by omega)],fun z hz => hX2 z (hX1 z hz),hT1,⟨fun z hz => hX2 _ (hB1.inn z hz),hB1.cap⟩,by omega,?_⟩
   rw [hlin,← hm];exact hS.took
 ·have hiz : i = M.length := by omega
  repeat (first|refine Yed ?_|refine Yaf ?_|refine Yag ?_|refine Yav ?_|refine Ya3 ?_|refine Yem ?_|refine Yfo ?_)
  subst hiz
  refine ⟨li,ra1,rc1,L1,X1,M.length,hli,by omega,by rw [if_pos (by omega)],hX1,hT1,hB1,by omega,?_⟩
  rw [hlin,← hm];exact hS
end
section
variable {c f tp : Nat} {b : Int} {T : Int → Option Nd}
theorem Z5x (rd fs : List Int) (ax x tb : Nat) (z : AuZ) (hz : z.Ok) (a : Option Addr) (M : List Rec) (mc : Nat) (hmc : M.length ≤ mc) (h7 : z.A.length + M.length ≤ 7) (W : World) (F : Nat → Prop) (hT : TreeRo W F f tp 10 b T) (hG : Lg W F) (hD : Gl W F rd fs) (hSp : Sp W F) (htb : Ro W F (pts tb (tbC c logN))) (hM : Ro W F (row a (Zbk M))) (hS : St W F (z.res rd fs ax x tb c f b T) W) :
  Calls Tryz.prog 20 #[.pointer (some ⟨ax,0,none⟩),.slice a M.length mc] W (Ret fun v w =>
   (badR M ≠ 0 ∧ v = .tuple #[.int .i64 0,.int .i64 (badR M : Nat)] ∧ St W F (z.res rd fs ax x tb c f b T) w) ∨
   (badR M = 0 ∧ v = .tuple #[.int .i64 (M.length : Nat),.int .i64 0] ∧ ∃ z' : AuZ,z'.Ok ∧ z'.A = z.A ++ M ∧ (∀ y ∈ z.X,y ∈ z'.X) ∧ St W F (z'.res rd fs ax x tb c f b T) w)) := by
 obtain ⟨A,la,lc,ra,rc,L,X⟩ := z
 obtain ⟨htL,hbL,hzA,hz7,hrc,hlc⟩ := hz
 simp only at htL hbL hzA hz7 hrc hlc h7
 simp only [AuZ.res] at hS
 refine Zab Tryz.func20 rfl Tryz.ntmps20 rfl ?_
 repeat (first|refine Yed ?_|refine Yaf ?_|refine Yag ?_|refine Yav ?_|refine Ybs ?_|refine Yet ?_|refine Yab ?_)
 have hS := (hS.bagNil).own_none 35 1 none
 refine Zak (α := Nat × Option Addr × Nat × List Bs × List RowD) (fun y => [(0,.pointer (some ⟨ax,0,none⟩)),(1,.slice a M.length mc),(6,.slice y.2.1 y.1 y.2.2.1),(15,.slice a M.length mc),(16,.int .i64 (M.length : Nat)),(17,.int .i64 (y.1 : Nat))])
  (fun y w => y.1 ≤ M.length ∧ y.1 ≤ y.2.2.1 ∧ Zay y.2.2.2.1 = Zar (M.take y.1) ∧ BsIn y.2.2.2.1 y.2.2.2.2 ∧ (∀ r ∈ M.take y.1,rchk r = 0) ∧ St W F [own 35 1 y.2.1 y.2.2.1 (y.2.2.2.1.map Bs.val),bag y.2.2.2.2,pts ax (audC x la A.length lc),own 62 5 la lc (Zbk A),pts x (chnC (Zar A).length (Zat rd fs (Zar A) (Zar A).length) tb ra rc),own 35 1 ra rc (L.map Bs.val),chR c f b T (Nt (trV (Za5 rd fs (Zar A)))) X] w)
  (fun y => M.length - y.1) (0,none,0,[],[]) ⟨rfl,rfl,rfl,rfl,rfl,rfl,trivial⟩ ⟨Nat.zero_le _,Nat.le_refl _,rfl,⟨fun _ h => (List.not_mem_nil h).elim,fun _ h => (List.not_mem_nil h).elim⟩,fun _ h => (List.not_mem_nil h).elim,hS⟩ ?_
 clear hS;rintro ⟨i,a1,c1,L1,Y⟩ w ⟨hi,hc1,hT1,hB1,hok1,hS⟩
 simp only at hi hc1 hT1 hB1 hok1 hS ⊢
 have hL1 : L1.length = i := by
  have := congrArg List.length hT1
  rw [Zfb,List.length_take] at this;simp [Zay] at this; omega
 by_cases hlt : i < M.length
 ·have hx0 : M[i]? = some M[i] := List.getElem?_eq_getElem hlt
  have htk : M.take (i + 1) = M.take i ++ [M[i]] := List.take_succ_eq_append_getElem hlt
  have hdr : M.drop i = M[i] :: M.drop (i + 1) := List.drop_eq_getElem_cons hlt
  generalize M[i] = r at hx0 htk hdr;have hxs := Zhs hx0
  have hr := hM
  obtain ⟨ab,ao,rfl⟩ := (hr.rd hS).base (by intro e; rw [e] at hxs; simp at hxs)
  by_cases hok : rchk r = 0
  ·repeat (first|refine Yed ?_|(refine X_id ?_;first|refine Ya2 ?_|refine Ybc ?_|refine Ybf ?_|refine Ybp ?_|refine Yao (fun _ hS _ => ?_)|refine Yar (fun _ _ hS _ => ?_))|refine Yeh ?_|refine Yab ?_)
   refine Zaa _ rfl rfl rfl rfl rfl (Zt5 r _ (hG.at_ hS) (hSp.at_ hS) hok) ?_
   rintro _ w ⟨b1,q1,rfl,hq1,hS'⟩
   replace hS := hS.plus hS';clear hS';have hel := Znp hok
   repeat (first|refine Yed ?_|refine Yfs ?_|refine Ybi (fun _ _ hS _ => ?_)|refine Yeq ?_|refine Yab ?_)
   have hnw := (hS.rd (List.mem_cons_self ..)).own_row
   refine Zao (T := 35) (a := a1) (m := 1) rfl rfl rfl rfl rfl hS (by rw [List.length_map,hL1,Nat.mul_one]) hc1 hnw rfl (by simp [Value.oneCell']) (by omega) (by simp only [maxLen]; omega) (fun b' q'' w hS hq'' _ => ?_)
   repeat (first|refine Yed ?_|refine Yew ?_|refine Yad ?_|refine Yel ?_)
   have hS : St W F [own 5 1 b1 q1 (bv (encM (recM r))),bag Y,own 35 1 b' q'' (L1.map Bs.val ++ [.slice b1 (encM (recM r)).length q1]),pts ax (audC x la A.length lc),own 62 5 la lc (Zbk A),pts x (chnC (Zar A).length (Zat rd fs (Zar A) (Zar A).length) tb ra rc),own 35 1 ra rc (L.map Bs.val),chR c f b T (Nt (trV (Za5 rd fs (Zar A)))) X] _ := hS.took
   have hS := hS.bagAdd (a := b1) (cs := bv (encM (recM r))) fun _ h => h.row
   refine Zaf (z := (i,a1,c1,L1,Y)) (i + 1,b',q'',L1 ++ [⟨b1,q1,encM (recM r)⟩],(b1,bv (encM (recM r))) :: Y) ⟨rfl,rfl,rfl,rfl,rfl,rfl,trivial⟩ ⟨hlt,hq'',?_,⟨fun u hu => ?_,fun u hu => ?_⟩,fun u hu => ?_,?_⟩ (by dsimp only; omega)
   ·dsimp only
    rw [htk,Zqb,← hT1];simp [Zay,Zar]
   ·rcases List.mem_append.1 hu with hu | hu
    ·exact List.mem_cons_of_mem _ (hB1.inn u hu)
    ·rw [List.mem_singleton] at hu; rw [hu]; exact List.mem_cons_self ..
   ·rcases List.mem_append.1 hu with hu | hu
    ·exact hB1.cap u hu
    ·rw [List.mem_singleton] at hu; rw [hu]; exact hq1
   ·rw [htk] at hu
    rcases List.mem_append.1 hu with hu | hu
    ·exact hok1 u hu
    ·rw [List.mem_singleton] at hu; rw [hu]; exact hok
   ·dsimp only
    rw [show (L1 ++ [(⟨b1,q1,encM (recM r)⟩ : Bs)]).map Bs.val = L1.map Bs.val ++ [.slice b1 (encM (recM r)).length q1] by rw [List.map_append]; rfl]
    exact hS.took
  ·have hbd : badR M = rchk r := by
    rw [← List.take_append_drop i M,Z0k hok1,hdr,badR,if_neg hok]
   rw [hbd];have hE := fun W h => Zsb r W h hok
   generalize rchk r = n at hE hok;repeat (first|refine Yed ?_|(refine X_id ?_;first|refine Ya2 ?_|refine Ybc ?_|refine Ybf ?_|refine Ybp ?_|refine Yao (fun _ hS _ => ?_)|refine Yar (fun _ _ hS _ => ?_))|refine Yeh ?_|refine Yab ?_)
   refine Zaa _ rfl rfl rfl rfl rfl (hE _ (hSp.at_ hS)) ?_
   rintro _ w ⟨rfl,hS'⟩
   replace hS := hS.plus hS';clear hS';repeat (first|refine Yed ?_|refine Yfn ?_|refine Yeo ?_|refine Yfm ?_)
   exact .inl ⟨hok,rfl,hS.took⟩
 ·obtain rfl : i = M.length := by omega
  rw [List.take_length] at hT1 hok1;have hel := Zfb A
  have hs4 : ∀ y ∈ L1,y.s.length ≤ 400 := fun y hy => Zfp hok1 y.s (by rw [← hT1]; exact List.mem_map_of_mem hy)
  rw [← hL1];repeat (first|refine Yed ?_|(refine X_id ?_;first|refine Yaf ?_|refine Yau ?_|refine Yan ?_|refine Ya3 ?_|refine Yap ?_)|refine Yeu ?_|refine Yej ?_)
  obtain ⟨_,hcc,hr1,hw,hbk⟩ := hS.call [false,false,false,false,true,true,true]
  refine Zaa _ rfl rfl rfl rfl rfl (Z7b rd fs (Zar A) (by omega) (Zfp hzA) tb x ra rc L a1 L1 c1 _ _ (hT.mono hw) (hG.mono hw) (hD.mono hw) (hw _ htb) (hB1.bss (hr1 (own 35 1 a1 c1 (L1.map Bs.val)) (by simp)) (hr1 (bag Y) (by simp))) (by omega) hs4 htL hbL (by omega) hcc) ?_
  rintro _ w ⟨l',ra',rc',L',X',k,hl',hk,rfl,hX',hTL',hBL',hrc',hS⟩
  replace hS := hbk hS
  clear hbk hw hcc hr1;have hkl : k = L1.length := by rw [hk,hel]; omega
  rw [if_pos (show (Zar A).length + L1.length ≤ 7 by omega),hkl]
  rw [hkl,List.take_of_length_le (by simp [Zay]),hT1,← Zqb] at hl'
  subst hl'
  repeat (first|refine Yed ?_|refine Yex ?_|refine Yae ?_|refine Yab ?_)
  refine Zam (.s 0 (.s 1 (.s 2 (.s 3 (.s 4 (.s 5 (.s 6 (.s 7 (.h 8 (.s 9 (.s 10 (.h 11 .nil .no))) .no))))))))) mixed (by kernel_rfl) rfl ?_
  have hS := hS.drew
  repeat (first|(refine Zae ?_;first|refine Ya4 ?_|refine Ybr ?_|refine Ybg ?_|refine Ybn ?_))
  refine Zal rfl rfl (fun _ => Zaq (l := 0) (h := L1.length) rfl rfl rfl rfl (.inr ⟨_,_,rfl,by omega,by omega,by omega⟩) (.inl ⟨rfl,rfl⟩)) rfl rfl ?_
  rw [sub_zero,Nat.sub_zero,Nat.sub_zero];repeat (first|(refine Zae ?_;first|refine Yas ?_))
  refine Zao (T := 62) (a := la) (m := L1.length) rfl rfl rfl rfl rfl hS (Zc1 A) hlc (hM.rd hS) (by rw [Zc1,hL1]) (Zf0 M) (by omega) (by simp only [maxLen]; omega) (fun la' lc' w hS hlc' _ => ?_)
  repeat (first|refine Yed ?_|refine Yer ?_|refine Yao (fun _ hS _ => ?_)|refine Ye3 ?_|refine Yey ?_|(refine Zae ?_;first|refine Yay ?_|refine Ybr ?_|refine Ybg ?_|refine Yas ?_)|(refine Zac ?_;first|refine Ya0 ?_))
  refine .inr ⟨Zt1 hok1,rfl,⟨A ++ M,la',lc',ra',rc',L',X'⟩,⟨hTL',hBL',fun u hu => (List.mem_append.1 hu).elim (hzA u) (hok1 u),by simp only [List.length_append]; omega,by rw [Zfb] at hrc'; exact hrc',by simp only [List.length_append]; omega⟩,rfl,hX',?_⟩
  rw [← Zht] at hS;simp only [AuZ.res]
  rw [List.length_append,← hL1];exact hS.took
end
section
variable {P : Program} {o : Oper} {σ : Env} {w : World} {x y : Operand} {t ty : TypeId}
theorem Zmy {a b : Bool} (ho : o.op = .binOp .neq t x y ty) (hx : ev σ x = some (.bool a)) (hy : ev σ y = some (.bool b)) [h : Und P t .bool] : Yl P o σ w (.bool (!(a == b))) := ⟨fun N ds f ha => by
 have h2 := run_neq_bool (P := P) w t a b h.und
 simp [execOp,ho,ha.eval hx,ha.eval hy,eqGuard,h2]⟩
end
def ARes (W : World) (r : Option Rec) (v : Value) (w : World) : Prop :=
 match r with
 | some r => v = .tuple #[.agg r.cells.toArray,.int .i64 0] ∧ St W noF [] w
 | none => v = .tuple #[.agg zRec.cells.toArray,.int .i64 3] ∧ St W noF [] w
def Zim (i : Nat) (y : Mv) : Prop := if i < 3 then ∃ b,y = txM b else ∃ n,y = nuM n
theorem Zwb {x : List Mv} {i : Nat} {y : Mv} (h : x[i]? = some y) (hi : i < 5) (hk : ¬ Zim i y) : Zf1 (liM x) = none := by
 unfold Zf1
 split
 ·exfalso
  apply hk
  rename_i e;injection e with _ _ _ e
  subst e
  have hc : i = 0 ∨ i = 1 ∨ i = 2 ∨ i = 3 ∨ i = 4 := by omega
  rcases hc with rfl | rfl | rfl | rfl | rfl
  ·exact ⟨_,(Option.some.inj h).symm⟩
  ·exact ⟨_,(Option.some.inj h).symm⟩
  ·exact ⟨_,(Option.some.inj h).symm⟩
  ·exact ⟨_,(Option.some.inj h).symm⟩
  ·exact ⟨_,(Option.some.inj h).symm⟩
 ·rfl
theorem Zur {x : List Mv} (h : x.length ≠ 5) : Zf1 (liM x) = none := by
 unfold Zf1
 split
 ·rename_i e
  injection e with _ _ _ e
  subst e
  exact absurd rfl h
 ·rfl
theorem Zze {x : List Mv} (h5 : x.length = 5) (h : ∀ i y,i < 5 → x[i]? = some y → Zim i y) : ∃ c p k n o,x = [txM c,txM p,txM k,nuM n,nuM o] := by
 match x,h5,h with
 | [y0,y1,y2,y3,y4],_,h =>
  obtain ⟨c,rfl⟩ := h 0 _ (by omega) rfl
  obtain ⟨p,rfl⟩ := h 1 _ (by omega) rfl
  obtain ⟨k,rfl⟩ := h 2 _ (by omega) rfl
  obtain ⟨n,rfl⟩ := h 3 _ (by omega) rfl
  obtain ⟨o,rfl⟩ := h 4 _ (by omega) rfl
  exact ⟨_,_,_,_,_,rfl⟩
theorem Z6y {α : Type} {l : List α} (h : l.length = 5) : ∃ a b c d e,l = [a,b,c,d,e] := by
 match l,h with
 | [a,b,c,d,e],_ => exact ⟨a,b,c,d,e,rfl⟩
theorem Z3j (a : Option Addr) (s : List UInt8) (c : Nat) (hsc : s.length ≤ c) (hl : s.length ≤ 65536) (W : World) (hG : Lg W noF) (hT : Sp W noF) (hb : Ro W noF (bytes a s)) :
  Calls Tryz.prog 110 #[.slice a s.length c] W (Ret fun v w => ARes W ((decM s).bind Zf1) v w) := by
 have hS := St.start W
 have hD := Zn8 a s c hsc (by omega)
 have hck : ∀ t,decM s = some t → chkM 8 t = 0 := fun t h => (Zmu h).2.1
 generalize decM s = res at hD hck ⊢;refine Zab Tryz.func110 rfl Tryz.ntmps110 rfl ?_
 repeat (first|refine Yed ?_|refine Yer ?_|refine Yar (fun _ _ hS _ => ?_)|refine Yee ?_|refine Yab ?_)
 rename_i b2 _ _;refine Zaa _ rfl rfl rfl rfl rfl (hD _ (hG.at_ hS) (hb.rd hS).ro) ?_
 rintro v w hV
 cases res with
 | none =>
  obtain ⟨e,rfl,he,hS'⟩ := hV
  replace hS := hS.plus hS';clear hS';repeat (first|refine Yev ?_|(refine X_id ?_;first|refine Yaf ?_|refine Yag ?_|refine Yax ?_|refine Ya7 ?_|refine Ybm ?_|refine Ybk ?_|refine Yao (fun _ hS _ => ?_)|refine Yar (fun _ _ hS _ => ?_))|refine Yeo ?_|refine Yab ?_|refine Yaq ?_|refine Ybv ?_)
  exact ⟨rfl,hS.drops⟩
 | some t =>
  obtain ⟨cs,X,rfl,hM,hS'⟩ := hV
  replace hS := hS.plus hS';clear hS';simp only [Option.bind_some]
  rcases Zb2 (hck t rfl) with ⟨n,rfl⟩ | ⟨d,rfl⟩ | ⟨x,m',rfl,_,hxc⟩
  ·obtain ⟨a1,c1,a2,c2,rows,rfl,_⟩ := hM.lit
   simp only [Mv.kind,Mv.num,Mv.txt,Mv.lst,List.length_nil]
   repeat (first|refine Ye0 ?_|(refine X_id ?_;first|refine Yaf ?_|refine Yag ?_|refine Yan ?_|refine Yax ?_|refine Ya7 ?_|refine Yaz ?_|refine Ybm ?_|refine Ya6 ?_|refine Ybk ?_|refine Yap ?_|refine Yao (fun _ hS _ => ?_)|refine Yar (fun _ _ hS _ => ?_))|refine Yeo ?_|refine Yab ?_|refine Yaq ?_|refine Ybv ?_)
   exact ⟨rfl,hS.drops⟩
  ·obtain ⟨a1,c1,a2,c2,rows,rfl,_⟩ := hM.lit
   simp only [Mv.kind,Mv.num,Mv.txt,Mv.lst,List.length_nil]
   repeat (first|refine Ye0 ?_|(refine X_id ?_;first|refine Yaf ?_|refine Yag ?_|refine Yan ?_|refine Yax ?_|refine Ya7 ?_|refine Yaz ?_|refine Ybm ?_|refine Ya6 ?_|refine Ybk ?_|refine Yap ?_|refine Yao (fun _ hS _ => ?_)|refine Yar (fun _ _ hS _ => ?_))|refine Yeo ?_|refine Yab ?_|refine Yaq ?_|refine Ybv ?_)
   exact ⟨rfl,hS.drops⟩
  ·obtain ⟨a1,c1,a2,c2,rows,rfl,_,_,hr0,hL0⟩ := hM.lit
   simp only [Mv.kind,Mv.num,Mv.txt,Mv.lst,List.length_nil] at hr0 hL0 ⊢
   by_cases h5 : x.length = 5
   case neg =>
    rw [Zur h5];repeat (first|refine Yes ?_|(refine X_id ?_;first|refine Yaf ?_|refine Yag ?_|refine Yan ?_|refine Yax ?_|refine Yaz ?_|refine Yav ?_|refine Ybm ?_|refine Ya6 ?_|refine Ybk ?_|refine Yap ?_|refine Yao (fun _ hS _ => ?_)|refine Yar (fun _ _ hS _ => ?_))|refine Yeo ?_|refine Yab ?_|refine Yaq ?_|refine Ybv ?_)
    exact ⟨rfl,hS.drops⟩
   case pos =>
    rw [h5];repeat (first|refine Yes ?_|(refine X_id ?_;first|refine Yaf ?_|refine Yag ?_|refine Yan ?_|refine Yax ?_|refine Yaz ?_|refine Yav ?_|refine Ya6 ?_|refine Yap ?_|refine Yao (fun _ hS _ => ?_)|refine Yar (fun _ _ hS _ => ?_))|refine Yet ?_|refine Yab ?_)
    clear hD hck hM;rename_i b4 _ _ _ w1 _;obtain ⟨F2,hS2,hro,hw,hbk⟩ := hS.call [true,false,true]
    replace hT : Sp w1 F2 := hw _ hT
    have hr : Ro w1 F2 (row a2 rows.flatten) := hr0.ro (hro (bag X) (by simp))
    have hL : Mrds (RoR w1 F2) x rows := hL0.mono fun _ _ h => h.ro (hro (bag X) (by simp))
    clear hro hS hr0 hL0;have hS := hS2
    clear hS2;refine Zbw (α := Unit) (fun _ => [(2,.pointer (some ⟨b2,0,none⟩)),(4,.pointer (some ⟨b4,0,none⟩))]) (fun _ w => (∀ i y,i < 5 → x[i]? = some y → Zim i y) ∧ St w1 F2 [pts b4 (.cells (List.toArray [.int .i64 2,.int .i64 0,.slice a1 0 c1,.slice a2 5 c2]) 38 (0,0)),pts b2 (.cells (List.toArray [.string (str []),.string (str []),.string (str []),.int .i64 0,.int .i64 0]) 62 (0,0))] w) ?_ ?_
    ·refine Zak (α := Nat) (fun i => [(2,.pointer (some ⟨b2,0,none⟩)),(4,.pointer (some ⟨b4,0,none⟩)),(29,.slice a2 5 c2),(30,.int .i64 (5 : Nat)),(31,.int .i64 (i : Nat))])
      (fun i w => i ≤ 5 ∧ (∀ j y,j < i → x[j]? = some y → Zim j y) ∧ St w1 F2 [pts b4 (.cells (List.toArray [.int .i64 2,.int .i64 0,.slice a1 0 c1,.slice a2 5 c2]) 38 (0,0)),pts b2 (.cells (List.toArray [.string (str []),.string (str []),.string (str []),.int .i64 0,.int .i64 0]) 62 (0,0))] w)
      (fun i => 5 - i) 0 ⟨rfl,rfl,rfl,rfl,rfl,trivial⟩ ⟨Nat.zero_le _,fun j y hj => by omega,hS⟩ ?_
     clear hS;rintro i w ⟨hi,hok,hS⟩
     by_cases hlt : i < 5
     ·obtain ⟨y,hy0⟩ : ∃ y,x[i]? = some y := ⟨_,List.getElem?_eq_getElem (by omega)⟩
      obtain ⟨cs,hxs,hy⟩ := hL.at_ hy0
      have hnext : Zim i y → ∀ j z,j < i + 1 → x[j]? = some z → Zim j z := fun hk j z hj hz => by
       rcases Nat.lt_or_ge j i with h | h
       ·exact hok j z h hz
       ·obtain rfl : j = i := by omega
        rw [hy0] at hz;obtain rfl := Option.some.inj hz
        exact hk
      have hbad : ¬ Zim i y → Zf1 (liM x) = none := fun hk => Zwb hy0 hlt hk
      have hym := hxc y (List.mem_of_getElem? hy0)
      obtain ⟨d1,e1,d2,e2,rows2,rfl,_⟩ := hy.lit
      obtain ⟨ab,ao,rfl⟩ := hr.start.base (by
       intro e
       rw [e] at hxs;simp at hxs)
      by_cases h3 : i < 3
      ·rcases Zb2 hym with ⟨n,rfl⟩ | ⟨d,rfl⟩ | ⟨l,_,rfl,_⟩
       ·simp only [Mv.kind,Mv.num,Mv.txt,Mv.lst,List.length_nil] at hxs
        rw [hbad (by unfold Zim; rw [if_pos h3]; rintro ⟨_,h⟩; cases h)]
        repeat (first|refine Yev ?_|(refine X_id ?_;first|refine Yaf ?_|refine Yag ?_|refine Yan ?_|refine Ya7 ?_|refine Ybh ?_|refine Ya2 ?_|refine Ybk ?_|refine Ybc ?_|refine Yap ?_|refine Ybp ?_|refine Yao (fun _ hS _ => ?_)|refine Yar (fun _ _ hS _ => ?_)|refine Ydd ?_)|refine Yfu ?_|refine Yfp ?_)
        exact ⟨rfl,(hbk hS).drops⟩
       ·simp only [Mv.kind,Mv.num,Mv.txt,Mv.lst,List.length_nil] at hxs
        repeat (first|refine Yes ?_|(refine X_id ?_;first|refine Yaf ?_|refine Yag ?_|refine Yan ?_|refine Yaz ?_|refine Ybj ?_|refine Ybh ?_|refine Ya2 ?_|refine Ybt ?_|refine Ybc ?_|refine Ya1 ?_|refine Yap ?_|refine Ybp ?_|refine Yao (fun _ hS _ => ?_)|refine Yar (fun _ _ hS _ => ?_)|refine Ydd ?_)|refine Yek ?_|refine Yel ?_)
        exact Zaf (z := i) (i + 1) ⟨rfl,rfl,rfl,rfl,rfl,trivial⟩ ⟨hlt,hnext (by unfold Zim; rw [if_pos h3]; exact ⟨_,rfl⟩),hS.took⟩ (by omega)
       ·simp only [Mv.kind,Mv.num,Mv.txt,Mv.lst,List.length_nil] at hxs
        rw [hbad (by unfold Zim; rw [if_pos h3]; rintro ⟨_,h⟩; cases h)]
        repeat (first|refine Yev ?_|(refine X_id ?_;first|refine Yaf ?_|refine Yag ?_|refine Yan ?_|refine Ya7 ?_|refine Ybh ?_|refine Ya2 ?_|refine Ybk ?_|refine Ybc ?_|refine Yap ?_|refine Ybp ?_|refine Yao (fun _ hS _ => ?_)|refine Yar (fun _ _ hS _ => ?_)|refine Ydd ?_)|refine Yfu ?_|refine Yfp ?_)
        exact ⟨rfl,(hbk hS).drops⟩
      ·rcases Zb2 hym with ⟨n,rfl⟩ | ⟨d,rfl⟩ | ⟨l,_,rfl,_⟩
       ·simp only [Mv.kind,Mv.num,Mv.txt,Mv.lst,List.length_nil] at hxs
        repeat (first|refine Yes ?_|(refine X_id ?_;first|refine Yaf ?_|refine Yag ?_|refine Yan ?_|refine Yaz ?_|refine Ybj ?_|refine Ybh ?_|refine Ya2 ?_|refine Ya3 ?_|refine Ybx ?_|refine Ybc ?_|refine Ya1 ?_|refine Yap ?_|refine Ybp ?_|refine Yao (fun _ hS _ => ?_)|refine Yar (fun _ _ hS _ => ?_)|refine Ydd ?_)|refine Yek ?_|refine Yel ?_)
        exact Zaf (z := i) (i + 1) ⟨rfl,rfl,rfl,rfl,rfl,trivial⟩ ⟨hlt,hnext (by unfold Zim; rw [if_neg h3]; exact ⟨_,rfl⟩),hS.took⟩ (by omega)
       ·simp only [Mv.kind,Mv.num,Mv.txt,Mv.lst,List.length_nil] at hxs
        rw [hbad (by unfold Zim; rw [if_neg h3]; rintro ⟨_,h⟩; cases h)]
        repeat (first|refine Yev ?_|(refine X_id ?_;first|refine Yaf ?_|refine Yag ?_|refine Yan ?_|refine Ya7 ?_|refine Ybj ?_|refine Ya2 ?_|refine Ya3 ?_|refine Ybk ?_|refine Ybc ?_|refine Yap ?_|refine Ybp ?_|refine Yao (fun _ hS _ => ?_)|refine Yar (fun _ _ hS _ => ?_)|refine Ydd ?_)|refine Yfu ?_|refine Yfp ?_)
        exact ⟨rfl,(hbk hS).drops⟩
       ·simp only [Mv.kind,Mv.num,Mv.txt,Mv.lst,List.length_nil] at hxs
        rw [hbad (by unfold Zim; rw [if_neg h3]; rintro ⟨_,h⟩; cases h)]
        repeat (first|refine Yes ?_|(refine X_id ?_;first|refine Yaf ?_|refine Yag ?_|refine Yan ?_|refine Yaz ?_|refine Ybh ?_|refine Ya2 ?_|refine Ya3 ?_|refine Ybx ?_|refine Ybk ?_|refine Ybc ?_|refine Yap ?_|refine Ybp ?_|refine Yao (fun _ hS _ => ?_)|refine Yar (fun _ _ hS _ => ?_)|refine Ydd ?_)|refine Yfu ?_|refine Yfp ?_)
        exact ⟨rfl,(hbk hS).drops⟩
     ·obtain rfl : i = 5 := by omega
      repeat (first|refine Yed ?_|refine Ya3 ?_|refine Yeu ?_|refine Yej ?_)
      exact Za7 () ⟨rfl,rfl,trivial⟩ ⟨hok,hS⟩
    ·clear hS
     rintro _ w ⟨hok,hSn⟩
     obtain ⟨d0,d1,d2,n3,n4,rfl⟩ := Zze h5 hok
     obtain ⟨hrl,hL⟩ := hL
     obtain ⟨r0,r1,r2,r3,r4,rfl⟩ := Z6y hrl
     obtain ⟨f0,g0,f0',g0',_,rfl,_,hb0,_⟩ := (hL 0 _ _ rfl rfl).lit
     obtain ⟨f1,g1,f1',g1',_,rfl,_,hb1,_⟩ := (hL 1 _ _ rfl rfl).lit
     obtain ⟨f2,g2,f2',g2',_,rfl,_,hb2,_⟩ := (hL 2 _ _ rfl rfl).lit
     obtain ⟨f3,g3,f3',g3',_,rfl,_⟩ := (hL 3 _ _ rfl rfl).lit
     obtain ⟨f4,g4,f4',g4',_,rfl,_⟩ := (hL 4 _ _ rfl rfl).lit
     obtain ⟨ab,ao,rfl⟩ := hr.start.base (by simp)
     clear hL hrl hok;simp only [Mv.kind,Mv.num,Mv.txt,Mv.lst,List.length_nil] at hr hb0 hb1 hb2
     replace hb0 : Ro w1 F2 (bytes f0 d0) := hb0
     replace hb1 : Ro w1 F2 (bytes f1 d1) := hb1
     replace hb2 : Ro w1 F2 (bytes f2 d2) := hb2
     replace hr : Ro w1 F2 (row (some ⟨ab,ao,none⟩) [.int .i64 1,.int .i64 0,.slice f0 d0.length g0,.slice f0' 0 g0',.int .i64 1,.int .i64 0,.slice f1 d1.length g1,.slice f1' 0 g1',.int .i64 1,.int .i64 0,.slice f2 d2.length g2,.slice f2' 0 g2',.int .i64 0,.int .i64 n3,.slice f3 0 g3,.slice f3' 0 g3',.int .i64 0,.int .i64 n4,.slice f4 0 g4,.slice f4' 0 g4']) := hr
     have hck := fun W h => Zsa ⟨d0,d1,d2,n3,n4⟩ W h
     have hres : Zf1 (liM [txM d0,txM d1,txM d2,nuM n3,nuM n4]) = if rchk ⟨d0,d1,d2,n3,n4⟩ = 0 then some ⟨d0,d1,d2,n3,n4⟩ else none := rfl
     rw [hres];have hS := hSn
     clear hSn;repeat (first|refine Yae ?_)
     refine Zam (.s 0 (.s 1 (.s 2 (.s 3 (.s 4 (.s 5 (.s 6 (.s 7 (.s 8 (.s 9 (.s 10 (.s 11 (.s 12 (.s 13 (.s 14 (.s 15 (.s 16 (.s 17 (.s 18 (.s 19 (.s 20 (.s 21 (.s 22 (.s 23 (.s 24 (.s 25 (.s 26 (.s 27 (.s 28 (.h 29 (.h 30 .nil .no) .no)))))))))))))))))))))))))))))) mixed (by kernel_rfl) rfl ?_
     have hS := hS.drew
     repeat' (first|(refine Za0 (fun w' => w'.cell? _ = some _) rfl rfl ((hr.rd hS).cellF (i := 2) (by first|omega|(dsimp only;omega)) rfl) (fun _ hc => Zas rfl rfl hc) rfl rfl ?_)|(refine Za0 (fun w' => w'.cell? _ = some _) rfl rfl ((hr.rd hS).cellF (i := 6) (by first|omega|(dsimp only;omega)) rfl) (fun _ hc => Zas rfl rfl hc) rfl rfl ?_)|(refine Za0 (fun w' => w'.cell? _ = some _) rfl rfl ((hr.rd hS).cellF (i := 10) (by first|omega|(dsimp only;omega)) rfl) (fun _ hc => Zas rfl rfl hc) rfl rfl ?_)|(refine Za0 (fun w' => w'.cell? _ = some _) rfl rfl ((hr.rd hS).cellF (i := 13) (by first|omega|(dsimp only;omega)) rfl) (fun _ hc => Zas rfl rfl hc) rfl rfl ?_)|(refine Za0 (fun w' => w'.cell? _ = some _) rfl rfl ((hr.rd hS).cellF (i := 17) (by first|omega|(dsimp only;omega)) rfl) (fun _ hc => Zas rfl rfl hc) rfl rfl ?_)|(refine Za0 (fun w' => Rd w' (bytes _ _)) rfl rfl (hb0.rd hS) (fun _ h => Zbl rfl rfl h rfl) rfl rfl ?_)|(refine Za0 (fun w' => Rd w' (bytes _ _)) rfl rfl (hb1.rd hS) (fun _ h => Zbl rfl rfl h rfl) rfl rfl ?_)|(refine Za0 (fun w' => Rd w' (bytes _ _)) rfl rfl (hb2.rd hS) (fun _ h => Zbl rfl rfl h rfl) rfl rfl ?_)|(refine And.intro (by repeat (first|exact trivial|refine And.intro (.inl (by decide +kernel)) ?_|refine And.intro (.inr (by first|exact hS.cell|exact (hr.rd hS).cellF (i := 2) (by first|omega|(dsimp only;omega)) rfl|exact (hr.rd hS).cellF (i := 6) (by first|omega|(dsimp only;omega)) rfl|exact (hr.rd hS).cellF (i := 10) (by first|omega|(dsimp only;omega)) rfl|exact (hr.rd hS).cellF (i := 13) (by first|omega|(dsimp only;omega)) rfl|exact (hr.rd hS).cellF (i := 17) (by first|omega|(dsimp only;omega)) rfl|exact hb0.rd hS|exact hb1.rd hS|exact hb2.rd hS)) ?_)) ?_)|refine Zie ?_ ?_|refine Yaa ?_|refine Ybf ?_|refine Yao (fun _ hS _ => ?_)|refine Yar (fun _ _ hS _ => ?_)|refine Yee ?_|refine Yab ?_|(refine Zae ?_;first|refine Yay ?_|refine Ybg ?_|refine Ydb ?_|refine Ycc ?_|refine Ycb ?_|refine Ybn ?_|refine Yas ?_))
     refine Zad 112 rfl rfl rfl rfl rfl hS (hck _ (hT.at_ hS)) ?_
     rintro _ w3 rfl hS
     by_cases hok : rchk ⟨d0,d1,d2,n3,n4⟩ = 0
     ·rw [hok,if_pos rfl]
      repeat (first|refine Yed ?_|refine Yag ?_|refine Ya6 ?_|refine Ybf ?_|refine Yao (fun _ hS _ => ?_)|refine Yfd ?_|refine Yab ?_|refine Ybv ?_)
      exact ⟨rfl,(hbk hS).drops⟩
     ·rw [if_neg hok]
      generalize rchk ⟨d0,d1,d2,n3,n4⟩ = q at hok;repeat (first|refine Yed ?_|refine Yag ?_|refine Ybm ?_|refine Ybk ?_|refine Yao (fun _ hS _ => ?_)|refine Yeo ?_|refine Yab ?_|refine Yaq ?_|refine Ybv ?_)
      exact ⟨rfl,(hbk hS).drops⟩
theorem Zz6 (rd fs : List Int) (W : World) (hG : Gl W noF rd fs) (hL : Lg W noF) : Calls Tryz.prog 19 #[] W (Ret fun v w => ∃ (lp tp p f c : Nat),v = .pointer (some ⟨c,0,none⟩) ∧
  St W noF [chR c f 0 (atT (Zcl 10)) (Nt t0) [],pts f (.cells (List.toArray [.pointer (some ⟨tp,0,none⟩),.int .i64 0]) 100 (0,0)),itab rd fs tp lp p 60 2 10 40 (Zcl 10)] w) := by
 have hS := St.start W
 refine Zab Tryz.func19 rfl Tryz.ntmps19 rfl ?_
 repeat (first|refine Yed ?_|refine Yag ?_|refine Yee ?_|refine Yab ?_)
 refine Zaa _ rfl rfl rfl rfl rfl (Z23 rd fs _ (hG.mono fun _ hr => (hr.rd hS).ro) (hL.at_ hS)) ?_
 rintro _ w ⟨q,lp,tp,f,r,rfl,hS'⟩
 replace hS := hS.plus hS';clear hS';repeat (first|refine Yed ?_|refine Yex ?_|refine Yee ?_|refine Yab ?_)
 refine Zaa _ rfl rfl rfl rfl rfl (Z11 (T := atT (Zcl 10)) _ (hS.rd (r := pts f (.cells (List.toArray [.pointer (some ⟨tp,0,none⟩),.int .i64 0]) 100 (0,0))) (by simp))) ?_
 rintro _ w ⟨c,rfl,hS'⟩
 replace hS := hS.plus hS';clear hS';repeat (first|refine Yed ?_|refine Yag ?_|refine Yah ?_|refine Yef ?_)
 have hN : Nt t0 = atT (Zcl 10) := funext Z7i
 rw [hN];exact ⟨lp,tp,q,f,c,rfl,hS.took⟩
theorem Z3k (a : Option Addr) (q : Nat) (W : World) : Calls Tryz.prog 60 #[.slice a 0 q] W (Ret fun v w => v = .tuple #[.slice none 0 0,.int .i64 0] ∧ St W noF [] w) := by
 have hS := St.start W
 refine Zab Tryz.func60 rfl Tryz.ntmps60 rfl ?_
 repeat (first|refine Yed ?_|refine Yfk ?_|refine Yeg ?_|refine Yab ?_)
 refine Zak (α := Unit) (fun _ => [(4,.slice none 0 0),(9,.slice a 0 q),(10,.int .i64 (0 : Nat)),(11,.int .i64 (0 : Nat))]) (fun _ w => St W noF [] w) (fun _ => 0) () ⟨rfl,rfl,rfl,rfl,trivial⟩ hS ?_
 clear hS;rintro ⟨⟩ w hS
 repeat (first|refine Yed ?_|refine Yfj ?_|refine Yem ?_|refine Yfo ?_)
 exact ⟨rfl,hS⟩
section
variable {c f tp : Nat} {b : Int} {T : Int → Option Nd} {X : List RowD}
theorem Z7d (rd fs : List Int) (W : World) (F : Nat → Prop) (hT : TreeRo W F f tp 10 b T) (hG : Lg W F) (hD : Gl W F rd fs) (hS : St W F [chR c f b T (Nt (trV (Za5 rd fs []))) X] W) :
  Calls Tryz.prog 18 #[.pointer (some ⟨c,0,none⟩)] W (Ret fun v w => ∃ (ax x tb : Nat) (z : AuZ),v = .tuple #[.pointer (some ⟨ax,0,none⟩),.int .i64 0] ∧ z.A = [] ∧ z.Ok ∧ (∀ y ∈ X,y ∈ z.X) ∧ St W F (pts tb (tbC c logN) :: z.res rd fs ax x tb c f b T) w) := by
 refine Zab Tryz.func18 rfl Tryz.ntmps18 rfl ?_
 repeat (first|refine Yed ?_|refine Yer ?_|refine Yee ?_|refine Yab ?_)
 refine Zaa _ rfl rfl rfl rfl rfl (tof_ c logN Zrt _) ?_
 rintro _ w ⟨tb,rfl,hS'⟩
 replace hS := hS.plus hS';clear hS';have hS : St W F [pts tb (tbC c logN),chR c f b T (Nt (trV (Za5 rd fs []))) X] w := hS.took
 repeat (first|refine Yed ?_|refine Yfs ?_|refine Yeq ?_|refine Yab ?_)
 obtain ⟨_,hcc,hr1,hw,hbk⟩ := hS.call [false,true]
 refine Zaa _ rfl rfl rfl rfl rfl (Zxi rd fs [] (by simp) (by simp) tb _ _ (hT.mono hw) (hG.mono hw) (hD.mono hw) (hr1 (pts tb (tbC c logN)) (by simp)) hcc) ?_
 rintro _ w0 ⟨x,ra,rc,L,X0,rfl,hX0,hTL,hBL,hrc,hS⟩
 replace hS := hbk hS
 clear hbk hw hcc hr1;obtain rfl : L = [] := by
  have := congrArg List.length hTL
  exact List.eq_nil_of_length_eq_zero (by simpa [Zay] using this)
 have hm : (Zat rd fs [] 0).length = 32 := Zby _ _ _ _
 repeat (first|refine Yed ?_|refine Yfs ?_|refine Yeq ?_|refine Yab ?_)
 refine Zaa _ rfl rfl rfl rfl rfl (Zxm x (Zat rd fs [] 0) hm tb ra rc [] _ (by simp) (by simp) (hS.rd (r := pts x (chnC 0 (Zat rd fs [] 0) tb ra rc)) (by simp)).ro ((hBL.bss (hS.rd (r := own 35 1 ra rc (List.map Bs.val [])) (by simp)).ro (hS.rd (r := chR c f b T (Nt (trV (Za5 rd fs []))) X0) (by simp)).ro.ch))) ?_
 rintro _ w ⟨a1,q1,M1,Y1,rfl,_,_,_,hS'⟩
 replace hS := hS.plus hS';clear hS';repeat (first|refine Yaa ?_)
 refine Zaa _ rfl rfl rfl rfl rfl (Z3k a1 q1 _) ?_
 rintro _ w ⟨rfl,hS'⟩
 replace hS := hS.plus hS';clear hS';repeat (first|refine Yed ?_|(refine X_id ?_;first|refine Yaf ?_|refine Yag ?_|refine Yax ?_|refine Ya6 ?_|refine Ybk ?_|refine Ya5 (fun _ _ hS _ => ?_))|refine Yfd ?_|refine Yey ?_)
 rename_i ax _ _;refine ⟨ax,x,tb,⟨[],none,0,ra,rc,[],X0⟩,rfl,rfl,⟨rfl,hBL,by simp,by simp,Nat.zero_le _,Nat.le_refl _⟩,hX0,?_⟩
 have hS := hS.own_none 62 5 none
 have hS : St W F [pts tb (tbC c logN),pts ax (audC x none 0 0),own 62 5 none 0 [],pts x (chnC 0 (Zat rd fs [] 0) tb ra rc),own 35 1 ra rc (List.map Bs.val []),chR c f b T (Nt (trV (Za5 rd fs []))) X0] _ := hS.took
 exact hS
end
section
variable {c f tp : Nat} {b : Int} {T : Int → Option Nd} {X : List RowD}
theorem Z3a (rd fs : List Int) (l : List (List UInt8)) (hl7 : l.length ≤ 7) (h4 : ∀ s ∈ l,s.length ≤ 400) (tb : Nat) (W : World) (F : Nat → Prop) (hT : TreeRo W F f tp 10 b T) (hG : Lg W F) (hD : Gl W F rd fs) (htb : Ro W F (pts tb (tbC c logN))) (hS : St W F [chR c f b T (Nt (trV (Za5 rd fs l))) X] W) :
  Calls Tryz.prog 31 #[.pointer (some ⟨tb,0,none⟩)] W (Ret fun v w => ∃ X',v = .tuple #[.int .i64 (l.length : Nat),.bool true] ∧ (∀ y ∈ X,y ∈ X') ∧ St W F [chR c f b T (Nt (trV (Za5 rd fs l))) X'] w) := by
 have ht := Zhl rd fs _ l rfl hl7 h4
 refine Zab Tryz.func31 rfl Tryz.ntmps31 rfl ?_
 repeat (first|refine Yed ?_|refine Yer ?_|refine Yee ?_|refine Yab ?_)
 obtain ⟨_,hcc,_,hw,hbk⟩ := hS.call [true]
 refine Zaa _ rfl rfl rfl rfl rfl (Z0v ht tb logN _ _ (hT.mono hw) (hG.mono hw) (hw _ htb) hcc) ?_
 rintro _ w ⟨X1,a,q,hX1,rfl,_,hS⟩
 replace hS := hbk hS
 clear hbk hw hcc;rw [Zpn];repeat (first|refine Yed ?_|refine Yfs ?_|refine Yeq ?_|refine Yab ?_)
 obtain ⟨_,hcc,_,hw,hbk⟩ := hS.call [false,true]
 refine Zaa _ rfl rfl rfl rfl rfl (Z1f rd fs l hl7 h4 tb _ _ (hT.mono hw) (hG.mono hw) (hD.mono hw) (hw _ htb) hcc) ?_
 rintro _ w ⟨x,ra,rc,L,X2,rfl,hX2,hT2,hB2,hrc,hS⟩
 replace hS := hbk hS
 clear hbk hw hcc;repeat (first|refine Yed ?_|(refine X_id ?_;first|refine Yaf ?_|refine Yag ?_|refine Yau ?_|refine Yan ?_|refine Yax ?_|refine Yap ?_)|refine Ye3 ?_|refine Yey ?_)
 exact ⟨X2,rfl,fun y hy => hX2 y (hX1 y hy),hS.took⟩
end
def Zer : List (List UInt8) → Option (List Rec)
 | [] => some []
 | s :: l => match (decM s).bind Zf1 with
  | some r => (Zer l).map (r :: ·)
  | none => none
theorem Zko : ∀ l m : List (List UInt8),Zer (l ++ m) = match Zer l with
  | some A => (Zer m).map (A ++ ·)
  | none => none
 | [],m => by simp [Zer]
 | s :: l,m => by
  rw [List.cons_append,Zer,Zer,Zko l m];cases (decM s).bind Zf1 with
  | none => rfl
  | some r =>
   cases Zer l with
   | none => rfl
   | some A => cases Zer m <;> simp
theorem Zwc (s : List UInt8) : Zer [s] = ((decM s).bind Zf1).map fun r => [r] := by
 rw [Zer];cases (decM s).bind Zf1 <;> rfl
theorem Zkn : ∀ {A : List Rec},(∀ r ∈ A,rchk r = 0) → Zer (Zar A) = some A
 | [],_ => rfl
 | r :: A,h => by
  have h0 := h r (List.mem_cons_self ..)
  have ih := Zkn (A := A) fun x hx => h x (List.mem_cons_of_mem _ hx)
  have e : (decM (encM (recM r))).bind Zf1 = some r := by rw [Zn9 (Zs6 r) (Zs5 h0)]; exact Zwa h0
  show Zer (encM (recM r) :: Zar A) = _
  rw [Zer,e,ih]; rfl
def Z7q (W : World) (r : Option (List Rec)) (v : Value) (w : World) : Prop :=
 match r with
 | some A => ∃ la lc,v = .tuple #[.slice la A.length lc,.int .i64 0] ∧ A.length ≤ lc ∧ St W noF [own 62 5 la lc (Zbk A)] w
 | none => v = .tuple #[.slice none 0 0,.int .i64 3] ∧ St W noF [] w
theorem Zxs (a : Option Addr) (q : Nat) (L : List Bs) (W : World) (hG : Lg W noF) (hT : Sp W noF) (hB : Bss W noF a L) (hk : ∀ y ∈ L,y.s.length ≤ y.c) (hl : ∀ y ∈ L,y.s.length ≤ 65536) (hn : L.length ≤ 1000) :
  Calls Tryz.prog 60 #[.slice a L.length q] W (Ret fun v w => Z7q W (Zer (Zay L)) v w) := by
 have hS := St.start W
 refine Zab Tryz.func60 rfl Tryz.ntmps60 rfl ?_
 repeat (first|refine Yed ?_|refine Yfk ?_|refine Yeg ?_|refine Yab ?_)
 have hS := hS.own_none 62 5 none
 refine Zak (α := Nat × Option Addr × Nat × List Rec) (fun z => [(4,.slice z.2.1 z.1 z.2.2.1),(9,.slice a L.length q),(10,.int .i64 (L.length : Nat)),(11,.int .i64 (z.1 : Nat))])
  (fun z w => z.1 ≤ L.length ∧ z.1 ≤ z.2.2.1 ∧ z.2.2.2.length = z.1 ∧ Zer (Zay (L.take z.1)) = some z.2.2.2 ∧ St W noF [own 62 5 z.2.1 z.2.2.1 (Zbk z.2.2.2)] w) (fun z => L.length - z.1) (0,none,0,[]) ⟨rfl,rfl,rfl,rfl,trivial⟩ ⟨Nat.zero_le _,Nat.le_refl _,rfl,rfl,hS⟩ ?_
 clear hS;rintro ⟨i,a1,c1,A⟩ w ⟨hi,hc1,hA,hrl,hS⟩
 simp only at hi hc1 hA hrl hS ⊢
 by_cases hlt : i < L.length
 ·have hx0 : L[i]? = some L[i] := List.getElem?_eq_getElem hlt
  have htk : L.take (i + 1) = L.take i ++ [L[i]] := List.take_succ_eq_append_getElem hlt
  have hdr : L.drop i = L[i] :: L.drop (i + 1) := List.drop_eq_getElem_cons hlt
  generalize L[i] = y at hx0 htk hdr;have hym := List.mem_of_getElem? hx0
  have hyl := hl y hym
  have hyk := hk y hym
  have hr := hB.row
  have hb := hB.all y hym
  have hx : (L.map Bs.val)[i]? = some (.slice y.a y.s.length y.c) := by simp [hx0,Bs.val]
  obtain ⟨ab,ao,hab⟩ := (hr.rd hS).base (by intro e; rw [e] at hx; simp at hx)
  rw [hab] at hr ⊢;have hD := Z3j y.a y.s y.c hyk hyl
  have hnx : Zer (Zay (L.take (i + 1))) = ((decM y.s).bind Zf1).map fun r => A ++ [r] := by
   rw [htk];show Zer (List.map Bs.s (L.take i ++ [y])) = _
   rw [List.map_append,Zko,show Zer (List.map Bs.s (L.take i)) = some A from hrl];show (Zer [y.s]).map _ = _
   rw [Zwc];cases (decM y.s).bind Zf1 <;> rfl
  have hno : (decM y.s).bind Zf1 = none → Zer (Zay L) = none := fun e => by
   have h2 : Zay L = List.map Bs.s (L.take (i + 1)) ++ List.map Bs.s (L.drop (i + 1)) := by
    rw [← List.map_append,List.take_append_drop]; rfl
   rw [h2,Zko,show Zer (List.map Bs.s (L.take (i + 1))) = none by rw [show List.map Bs.s (L.take (i + 1)) = Zay (L.take (i + 1)) from rfl,hnx,e]; rfl]
  generalize (decM y.s).bind Zf1 = res at hD hnx hno;repeat (first|refine Yed ?_|refine Yfl ?_|refine Yeh ?_|refine Yab ?_)
  refine Zaa _ rfl rfl rfl rfl rfl (hD _ (hG.at_ hS) (hT.at_ hS) (hb.rd hS).ro) ?_
  rintro v w hV
  cases res with
  | none =>
   obtain ⟨rfl,hS'⟩ := hV
   replace hS := hS.plus hS';clear hS';rw [hno rfl];repeat (first|refine Yed ?_|refine Yfn ?_|refine Yao (fun _ hS _ => ?_)|refine Yar (fun _ _ hS _ => ?_)|refine Yeo ?_|refine Yfm ?_)
   exact ⟨rfl,hS.drops⟩
  | some r =>
   obtain ⟨rfl,hS'⟩ := hV
   replace hS := hS.plus hS';clear hS';repeat (first|refine Yed ?_|refine Yfr ?_|refine Yao (fun _ hS _ => ?_)|refine Yar (fun _ _ hS _ => ?_)|refine Ybi (fun _ _ hS _ => ?_)|refine Yeq ?_|refine Yab ?_)
   have hnw := (hS.rd (List.mem_cons_self ..)).own_row
   refine Zao (T := 62) (a := a1) (m := 1) rfl rfl rfl rfl rfl hS (by rw [Zc1,hA]) hc1 hnw rfl (Zf0 [r]) (by omega) (by simp only [maxLen]; omega) (fun b' q'' w hS hq'' _ => ?_)
   repeat (first|refine Yed ?_|refine Yew ?_|refine Yad ?_|refine Yel ?_)
   refine Zaf (z := (i,a1,c1,A)) (i + 1,b',q'',A ++ [r]) ⟨rfl,rfl,rfl,rfl,trivial⟩ ⟨hlt,hq'',by dsimp only; rw [List.length_append,hA]; rfl,hnx,?_⟩ (by dsimp only; omega)
   dsimp only
   rw [show Zbk (A ++ [r]) = Zbk A ++ r.cells by rw [Zht]; simp]
   exact hS.took
 ·obtain rfl : i = L.length := by omega
  rw [List.take_length] at hrl;repeat (first|refine Yed ?_|refine Yfj ?_|refine Yem ?_|refine Yfo ?_)
  rw [hrl];exact ⟨a1,c1,by rw [hA],by rw [hA]; exact hc1,hS.took⟩
end Cr
