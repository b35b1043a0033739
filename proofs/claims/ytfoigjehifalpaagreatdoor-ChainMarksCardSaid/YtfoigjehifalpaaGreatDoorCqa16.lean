/-
  Layer 11 (chain) in plain words,0: a record's value.
  Layer 11 (chain) in plain words,2: one more record put into the table; a record's value told.
  Layer 11 (chain): a record's value read.
  Layer 11 (chain): one more record,at a chain's own end.
  The laws of layer 11: at most six records,cut.
  Layer 11 (chain): all records read.
  Layer 11 (chain): keys of any number,the program's and the document's.
  Layer 11 (chain): Open.
  Layer 11 (chain): Add.
  Layer 11 (chain): Whole; the laws' known answers,off the contracts.
  The laws of layer 11: what few has made,marks in their row.
  The law ChainMarks: what it computes.
-/
import Derived.Test.YtfoigjehifalpaaGreatDoorCqa10
import Derived.Test.YtfoigjehifalpaaGreatDoorCqa9
import Derived.Test.YtfoigjehifalpaaGreatDoorCqa15
import Derived.Test.YtfoigjehifalpaaGreatDoorCqa6
import Derived.Test.YtfoigjehifalpaaGreatDoorCqa14
import Derived.Test.YtfoigjehifalpaaGreatDoorCqa12
namespace Cr
open Go Go.Proofs
set_option maxRecDepth 100000
set_option maxHeartbeats 64000000

def recV (r m : List UInt8) : Mv := liM [txM r,txM m]
theorem Zob (r m : List UInt8) : chkM 8 (recV r m) = 0 := Zke fun x hx => by
 simp only [List.mem_cons,List.not_mem_nil,or_false] at hx
 rcases hx with rfl | rfl
 ·exact Zg0 _ _
 ·exact Zg0 _ _
theorem Ztg {r m : List UInt8} (hr : r.length ≤ 1000000) (hm : m.length ≤ 1000000) : fitM (recV r m) := by
 rw [recV,fitM,Zfg,Zfg,Zfg,fitM,fitM,Zfg]
 exact ⟨by omega,by simp,⟨by omega,by omega,trivial⟩,⟨by omega,by omega,trivial⟩,trivial⟩
theorem Ztf {r m : List UInt8} (hr : r.length ≤ 400) (hm : m.length = 32) : (encM (recV r m)).length ≤ 512 := by
 have h4 := Zfd (n := (r.length : Nat)) (by omega) (by omega)
 have h5 := Zfd (n := (m.length : Nat)) (by omega) (by omega)
 rw [recV,Zby,Za5,Za5,Za5,Zex,Zex]
 simp only [List.length_cons,List.length_append,List.length_nil]
 omega
theorem Z6p (r m : List UInt8) : wM (recV r m) = 3 + r.length + m.length := by
 simp only [recV,Zl8,wMs,List.length_nil]; omega
def Zb3 (rd fs : List Int) (l : List (List UInt8)) : List Mv := (List.range l.length).map fun i => recV (l.getD i []) (Zaz rd fs l (i + 1))
theorem Zcu (rd fs : List Int) (l : List (List UInt8)) : (Zb3 rd fs l).length = l.length := by simp [Zb3]
theorem Zz7 {rd fs : List Int} {l : List (List UInt8)} {i : Nat} (h : i < l.length) : (Zb3 rd fs l)[i]? = some (recV (l.getD i []) (Zaz rd fs l (i + 1))) := by
 simp [Zb3,h]
end Cr
namespace Cr
open Go Go.Proofs
set_option maxRecDepth 100000
set_option maxHeartbeats 64000000
attribute [local irreducible] Calls

theorem Z4z (vs : List Mv) : goT (Zcs vs) [dbN,logN] = .ok (logT vs) := rfl
theorem Zvf : ∀ k,k < 10 → Zcf [dbN,logN,keyD k] := by decide +kernel
theorem Zfb {k : Nat} (h : k < 10) : Zcf [dbN,logN,keyD k] := Zvf k h
theorem Zp7 (vs : List Mv) {k : Nat} (hk : k < 10) : Zfw (Zcs vs) [dbN,logN,keyD k] = .ok (logT vs,keyD k) := by
 unfold Zfw
 rw [if_pos (Zfb hk)]
 rfl
theorem Zya {vs : List Mv} (k : Nat) : goT (Zcs vs) [dbN,logN,keyD k] = Zcy (logT vs) (keyD k) := by
 have := Zkb [dbN,logN] (Zcs vs) (keyD k)
 rw [Z4z] at this
 exact this
theorem Zoi (vs : List Mv) (s : List UInt8) : Zcy (logT vs) s = match kidT s (Zc9 0 vs) with | some k => .ok k | none => .error 7 := by
 unfold Zcy
 rw [if_pos (show (logT vs).st.kind = 1 from rfl)] <;> rfl
theorem Zep {n : Nat} {t t' : Tn} {d : List (List (List UInt8))} {nd : Nd} {p : List (List UInt8)} {e : Int} (h : Zd3 n t nd p = (e,t')) : Zcd n (0,t,d) nd p = if e = 0 then (0,t',d ++ [p]) else (e,t',d) := by
 unfold Zcd
 show (if (0 : Int) = 0 then if (Zd3 n t nd p).1 = 0 then (0,(Zd3 n t nd p).2,d ++ [p]) else ((Zd3 n t nd p).1,(Zd3 n t nd p).2,d) else _) = _
 rw [if_pos rfl,h]
theorem Zm1 {b : List UInt8} (h : b.length ≤ 512) : Zk9 (Zc5 b) = 0 := by
 unfold Zk9
 rw [if_neg (by simp [Zc5]),if_neg (by simp only [Zc5]; decide),if_neg (by simp only [Zc5]; omega)]
theorem Zm2 (vs : List Mv) : (logT vs).names = (List.range' 0 vs.length).map fun j => (keyD j,((3 + j : Nat) : Int)) := Zr8 vs 0
theorem Z5m (vs : List Mv) (v : Mv) (h : vs.length < 10) : addF (Zi9 vs.length v) (logT vs) = logT (vs ++ [v]) := by
 have h1 := Zp8 v vs 0 vs.length (by omega) h
 have h2 := Zm6 v vs 0
 rw [Nat.zero_add] at h2
 show Tn.mk logN 2 ⟨1,448,0,0⟩ [] (insT (Zi9 vs.length v) (Zc9 0 vs)) = Tn.mk logN 2 ⟨1,448,0,0⟩ [] (Zc9 0 (vs ++ [v]))
 rw [h1,h2]
theorem Ztq {vs : List Mv} {v : Mv} (h : vs.length < 7) (hl : (encM v).length ≤ 512) : Zd3 10 (Zcs vs) (Zc5 (encM v)) [dbN,logN,keyD vs.length] = (0,Zcs (vs ++ [v])) := by
 unfold Zd3
 rw [if_neg (fun e => e.elim (fun e => e (Zfb (by omega))) (fun e => by cases e)),if_neg (fun e => e (Zm1 hl)),Zp7 vs (by omega)]
 simp only
 have hn : kidT (keyD vs.length) (logT vs).kids = none := Zfc vs 0 vs.length (by omega) (by omega)
 rw [hn,if_neg (by simp),Zv0 h]
 simp only
 rw [if_neg (Zkn (l := insN (keyD vs.length,((3 + vs.length : Nat) : Int)) (logT vs).names) ?_ ?_)]
 ·have := Z5m vs v (by omega)
  show ((0 : Int),Tn.mk [] 0 ⟨1,493,0,0⟩ [] [.mk dbN 1 ⟨1,448,0,0⟩ [] [addF (Zi9 vs.length v) (logT vs)]]) = _
  rw [this]
  rfl
 ·intro x hx
  rcases List.mem_cons.1 ((Zgf _ _).mem_iff.1 hx) with rfl | hx
  ·exact ⟨by simp [keyD],by simp only; omega,by simp only; omega⟩
  ·rw [Zm2] at hx
   obtain ⟨j,hj,rfl⟩ := List.mem_map.1 hx
   rw [List.mem_range'_1] at hj
   exact ⟨by simp [keyD],by simp only; omega,by simp only; omega⟩
 ·rw [(Zgf _ _).length_eq,List.length_cons,Zm2,List.length_map,List.length_range']; omega
theorem Zxz {vs : List Mv} {v : Mv} (h : vs.length = 7) (hl : (encM v).length ≤ 512) : Zd3 10 (Zcs vs) (Zc5 (encM v)) [dbN,logN,keyD vs.length] = (6,Zcs vs) := by
 unfold Zd3
 rw [if_neg (fun e => e.elim (fun e => e (Zfb (by omega))) (fun e => by cases e)),if_neg (fun e => e (Zm1 hl)),Zp7 vs (by omega)]
 simp only
 have hn : kidT (keyD vs.length) (logT vs).kids = none := Zfc vs 0 vs.length (by omega) (by omega)
 rw [hn,if_neg (by simp),Zvz h]
def t1 : Tn := .mk [] 0 ⟨1,493,0,0⟩ [] [.mk dbN 1 ⟨1,448,0,0⟩ [] []]
theorem Zp3 : Zk9 Zqq = 0 := by decide
theorem Z4p : Zd3 10 t0 Zqq [dbN] = (0,t1) := by
 unfold Zd3
 rw [if_neg (by decide),if_neg (fun e => e Zp3)]
 have h1 : Zfw t0 [dbN] = .ok (t0,dbN) := by
  unfold Zfw
  rw [if_pos (by decide)]; rfl
 rw [h1]
 simp only
 have hn : kidT dbN t0.kids = none := rfl
 have hf : Zi8 10 (Nt t0) = some 1 := Zgy (by omega) rfl fun j hj e => by
  obtain rfl : j = 0 := by omega
  cases e
 rw [hn,if_neg (by simp),hf]
 simp only
 rw [if_neg (Zkn (fun x hx => by
  rw [show t0.names = [] from rfl,insN,List.mem_singleton] at hx
  subst hx; decide) (by decide))]
 rfl
theorem Z1b : Zd3 10 t1 Zqq [dbN,logN] = (0,Zcs []) := by
 unfold Zd3
 rw [if_neg (by decide),if_neg (fun e => e Zp3)]
 have h1 : Zfw t1 [dbN,logN] = .ok (.mk dbN 1 ⟨1,448,0,0⟩ [] [],logN) := by
  unfold Zfw
  rw [if_pos (by decide)]; rfl
 rw [h1]
 simp only
 have hn : kidT logN (Tn.mk dbN 1 ⟨1,448,0,0⟩ [] []).kids = none := rfl
 have hf : Zi8 10 (Nt t1) = some 2 := Zgy (by omega) rfl fun j hj e => by
  rcases j with _ | _ | j
  ·cases e
  ·cases e
  ·omega
 rw [hn,if_neg (by simp),hf]
 simp only
 rw [if_neg (Zkn (fun x hx => by
  rw [show (Tn.mk dbN 1 ⟨1,448,0,0⟩ [] []).names = [] from rfl,insN,List.mem_singleton] at hx
  subst hx; decide) (by decide))]
 rfl
theorem Zwt : Zd9 t0 (wayL logN) = some [[dbN],[dbN,logN]] := by
 have h1 : Zch t0 [dbN] = -1 := by
  unfold Zch getR goR
  rw [if_pos (by decide)]; rfl
 have h2 : Zch t0 [dbN,logN] = -1 := by
  unfold Zch getR goR
  rw [if_pos (by decide)]; rfl
 unfold wayL
 rw [Zd9,if_neg (by rw [h1]; decide),if_pos h1,Zd9,if_neg (by rw [h2]; decide),if_pos h2,Zd9]
 rfl
theorem Zwu (vs : List Mv) : Zd9 (Zcs vs) (wayL logN) = some [] := by
 have h1 : Zch (Zcs vs) [dbN] = 1 := by
  unfold Zch getR goR
  rw [if_pos (by decide)]; rfl
 have h2 : Zch (Zcs vs) [dbN,logN] = 1 := by
  unfold Zch getR goR
  rw [if_pos (by decide)]; rfl
 unfold wayL
 rw [Zd9,if_pos h1,Zd9,if_pos h2,Zd9]
theorem Zwc : Zck 10 t0 [[dbN],[dbN,logN]] = (0,Zcs [],[[dbN],[dbN,logN]]) := by
 unfold Zck
 simp only [List.foldl_cons,List.foldl_nil]
 rw [Zep Z4p,if_pos rfl,Zep Z1b,if_pos rfl]
 rfl
theorem Ztv {vs : List Mv} {k : Nat} (h : vs.length ≤ k) (hk : k < 10) : Zch (trV vs) [dbN,logN,keyD k] = -1 := by
 unfold Zch getR goR
 rw [if_pos (Zfb hk)]
 cases vs with
 | nil => rfl
 | cons v l =>
  show (match (match (match goT (Zcs (v :: l)) [dbN,logN,keyD k] with | .ok u => Except.ok (u.no,u.nd) | .error e => .error e) with | .ok x => Except.ok (shN x.2) | .error e => .error e) with | .error _ => -1 | .ok nd => nd.st.kind : Int) = -1
  rw [Zya,Zoi,Zfc (v :: l) 0 k (by omega) hk]
theorem Zs5 {vs : List Mv} {v : Mv} (hk : vs.length ≤ 7) (hc : chkM 8 v = 0) (hl : (encM v).length ≤ 512) :
  Zrn 10 (trV vs) logN (keyD vs.length) v = if vs.length < 7 then (0,trV (vs ++ [v])) else (6,trV vs) := by
 unfold Zrn
 rw [if_neg (fun e => e (Zr9 (by omega))),if_neg (fun e => e hc),if_neg (by omega),Ztv (Nat.le_refl _) (by omega)]
 cases vs with
 | nil =>
  rw [show trV [] = t0 from rfl,Zwt]
  simp only
  rw [if_neg (by decide),if_neg (by decide),Zwc]
  have := Ztq (vs := []) (v := v) (by decide) hl
  rw [show ([] : List Mv).length = 0 from rfl] at *
  rw [Zep this,if_pos rfl]
  rfl
 | cons x l =>
  rw [show trV (x :: l) = Zcs (x :: l) from rfl,Zwu]
  simp only
  rw [if_neg (by decide),if_neg (by decide),show Zck 10 (Zcs (x :: l)) [] = (0,Zcs (x :: l),[]) from rfl]
  by_cases h7 : (x :: l).length < 7
  ·rw [Zep (Ztq h7 hl),if_pos rfl,if_pos rfl,if_pos h7]
   rfl
  ·rw [Zep (Zxz (by omega) hl),if_neg (show ¬ (6 : Int) = 0 by decide)]
   show (if (6 : Int) = 0 then _ else (6,Zpj (Zcs (x :: l)) [])) = _
   rw [if_neg (by decide),if_neg h7]
   rfl
theorem Z40 {vs : List Mv} {k : Nat} {v : Mv} (hk : vs.length ≤ 7) (hv : vs[k]? = some v) : getR (trV vs) [dbN,logN,keyD k] = .ok ⟨⟨0,384,0,0⟩,encM v⟩ := by
 have h := (List.getElem?_eq_some_iff.1 hv).1
 unfold getR goR
 rw [if_pos (Zfb (by omega))]
 cases vs with
 | nil => cases hv
 | cons x l =>
  rw [show trV (x :: l) = Zcs (x :: l) from rfl,Zya,Zoi]
  have := Zm5 (x :: l) 0 k v (by omega) hv
  rw [Nat.zero_add] at this
  rw [this]
  rfl
theorem Z0c {vs : List Mv} {k : Nat} {v : Mv} (hk : vs.length ≤ 7) (hv : vs[k]? = some v) (hc : chkM 8 v = 0) (hf : fitM v) : Zu4 (trV vs) logN (keyD k) = .ok v := by
 have h := (List.getElem?_eq_some_iff.1 hv).1
 unfold Zu4
 rw [if_pos (Zr9 (by omega)),Z40 hk hv]
 simp only
 rw [if_pos trivial,Zui hc hf]
theorem Zw2 {vs : List Mv} {k : Nat} (h : vs.length ≤ k) (hk : k < 10) : Zu4 (trV vs) logN (keyD k) = .error 7 := by
 unfold Zu4
 rw [if_pos (Zr9 hk)]
 have hg : ∃ e,getR (trV vs) [dbN,logN,keyD k] = .error e := by
  have hq := Ztv h hk
  unfold Zch at hq
  unfold getR goR at hq ⊢
  rw [if_pos (Zfb hk)] at hq ⊢
  cases vs with
  | nil => exact ⟨_,rfl⟩
  | cons v l =>
   rw [show trV (v :: l) = Zcs (v :: l) from rfl,Zya,Zoi,Zfc (v :: l) 0 k (by omega) hk]
   exact ⟨_,rfl⟩
 obtain ⟨e,hg⟩ := hg
 rw [hg]
theorem Z35 {R : Option Addr → List Value → Prop} (W : World) (hR : ∀ a cs,R a cs → Ro W noF (row a cs)) (r m : List UInt8) (hr4 : r.length ≤ 400) (hm : m.length = 32) (cs : List Value) (hv : Mrd R (recV r m) cs) :
  Calls Tryz.prog 122 #[.agg (List.toArray cs)] W (Ret fun v w => ∃ a c,v = .tuple #[.slice a r.length c,.agg (bv m).toArray,.bool true] ∧ r.length ≤ c ∧ R a (bv r) ∧ St W noF [] w) := by
 have hS := St.start W
 obtain ⟨a1,c1,a2,c2,rows,rfl,hc1,_,hrow,hM⟩ := hv.lit
 have hM' : Mrds R [txM r,txM m] rows := hM
 obtain ⟨cs0,hxs0,hy0⟩ := hM'.at_ (i := 0) (y := txM r) rfl
 obtain ⟨cs1,hxs1,hy1⟩ := hM'.at_ (i := 1) (y := txM m) rfl
 obtain ⟨d1,e1,d2,e2,_,rfl,he1,hb0,_,_⟩ := hy0.lit
 obtain ⟨d3,e3,d4,e4,_,rfl,he3,hb1,_,_⟩ := hy1.lit
 clear hM hy0 hy1
 simp only [recV,Mv.kind,Mv.num,Mv.txt,Mv.lst,List.length_nil,List.length_cons,Nat.zero_add,Nat.reduceAdd] at *
 have hr := hR _ _ hrow
 have hbm := hR _ _ hb1
 obtain ⟨xb,xo,rfl⟩ := hr.start.base (by intro e; rw [e] at hxs0; simp at hxs0)
 obtain ⟨mb,mo,rfl⟩ := hbm.start.base (by intro e; have := congrArg List.length e; rw [Zag,hm] at this; cases this)
 have hm32 : LenO (bv m) 32 := ⟨by rw [Zag]; exact hm⟩
 refine Zab Tryz.func122 rfl Tryz.ntmps122 rfl ?_
 repeat (first|refine Yex ?_|(refine X_id ?_;first|refine Yaf ?_|refine Yag ?_|refine Yan ?_|refine Ya9 ?_|refine Yau ?_|refine Ybb ?_|refine Yap ?_|refine Ya7 (fun _ _ hS _ => ?_)|refine Yar (fun _ _ hS _ => ?_))|refine Yes ?_|refine Yab ?_)
 refine Zan (.s 0 (.s 1 (.s 2 (.s 3 (.s 4 (.s 5 (.s 6 (.s 7 (.h 8 (.h 9 (.h 10 (.h 11 .nil .no) .no) .no) (.h 9 (.h 8 (.h 10 (.h 11 .nil .no) .no) .no) .no)))))))))) mixed (by kernel_rfl) rfl ?_
 have hS := hS.drew
 repeat (first|(refine Zae ?_;first|refine Ybg ?_|refine Yb9 ?_|refine Ybm ?_))
 refine Za6 (fun w' => Zes w' _ _ _) rfl rfl ((hr.rd hS).cellsX (by omega) hxs0 rfl) (fun _ hc => Zc3 rfl rfl hc) rfl rfl ?_
 repeat (first|(refine Zae ?_;first|refine Ybg ?_|refine Yb9 ?_|refine Ybm ?_))
 refine Za6 (fun w' => Zes w' _ _ _) rfl rfl ((hr.rd hS).cellsX (by omega) hxs1 rfl) (fun _ hc => Zc3 rfl rfl hc) rfl rfl ?_
 repeat' (first|refine Zer ?_ ?_|refine Yex ?_|(refine X_id ?_;first|refine Yaf ?_|refine Yan ?_|refine Ya9 ?_|refine Yau ?_|refine Ybb ?_|refine Ybs ?_|refine Yap ?_|refine Yao (fun _ hS _ => ?_)|refine Yar (fun _ _ hS _ => ?_))|refine Yes ?_|refine Yab ?_|(refine Zae ?_;first|refine Yaw ?_|refine Yas ?_)|(refine Zac ?_;first|refine Yef ?_))
 all_goals
  refine Zan (.s 0 (.s 1 (.s 2 (.s 3 (.s 4 (.s 5 (.s 6 (.h 7 (.s 8 .nil) .no)))))))) mixed (by kernel_rfl) rfl ?_
  have hS := hS.drew
  repeat (first|(refine Zae ?_;first|refine Ybg ?_|refine Zak rfl rfl (fun _ => Znm rfl rfl (by omega)) rfl rfl ?_|refine Ybm ?_))
  refine Za6 (fun w' => Zes w' _ _ _) rfl rfl ⟨(hbm.rd hS).cellsAt rfl,by rw [Zag]; exact hm⟩ (fun _ hc => Zc3 rfl rfl hc) rfl rfl ?_
  repeat (first|refine Yao (fun _ hS _ => ?_)|refine Yah ?_|refine Yab ?_|refine Yd7 ?_|(refine Zae ?_;first|refine Yaw ?_|refine Ybj ?_|refine Yas ?_)|(refine Zac ?_;first|refine Yef ?_))
  exact ⟨_,_,rfl,he1,hb0,hS.drops⟩
abbrev endX (n : Nat) (m : List UInt8) (rest : List Value) : List Value := .int .i64 (n : Nat) :: (bv m ++ rest)
theorem Zin {x n : Nat} {m : List UInt8} {rest : List Value} {T : TypeId} {w : World} (hm : m.length = 32) (h : w.heap[x]? = some (.cells (endX n m rest).toArray T (0,0))) : Zes w ⟨x,1,none⟩ 32 (bv m) := by
 refine ⟨fun j v hv => ?_,by rw [Zag]; exact hm⟩
 have hj := (List.getElem?_eq_some_iff.1 hv).1
 have := CellsAt.of_block h (1 + j) v (by rw [Nat.add_comm 1 j,List.getElem?_cons_succ,List.getElem?_append_left hj]; exact hv)
 simp only [Addr.add] at this ⊢
 by_cases h0 : j = 0
 ·subst h0; simpa using this
 ·simpa [h0] using this
theorem Zqn {x n : Nat} {m : List UInt8} {rest : List Value} {T : TypeId} {w : World} (hm : m.length = 32) (h : w.heap[x]? = some (.cells (endX n m rest).toArray T (0,0))) {j : Nat} {v : Value} (hv : rest[j]? = some v) : w.cell? ⟨x,33 + j,none⟩ = some v := by
 have hl : (bv m).length = 32 := by rw [Zag]; exact hm
 have := CellsAt.of_block h (33 + j) v (by rw [show 33 + j = (32 + j) + 1 by omega,List.getElem?_cons_succ,List.getElem?_append_right (by omega),hl,Nat.add_sub_cancel_left]; exact hv)
 simp only [Addr.add] at this
 rw [if_neg (by omega)] at this
 simpa using this
theorem Zsf {n : Nat} {m d : List UInt8} {rest : List Value} (hm : m.length = 32) (hd : d.length = 32) : Zai (endX n m rest) 1 (bv d) = endX n d rest := by
 have h1 : (bv m).length = 32 := by rw [Zag]; exact hm
 have h2 : (bv d).length = 32 := by rw [Zag]; exact hd
 show (endX n m rest).take 1 ++ bv d ++ (endX n m rest).drop (1 + (bv d).length) = _
 rw [h2,Nat.add_comm 1 32]
 show [Value.int .i64 (n : Nat)] ++ bv d ++ (bv m ++ rest).drop 32 = _
 rw [List.drop_append_of_le_length (by omega),← h1,List.drop_length]
 rfl
theorem Z23 (x n : Nat) (m : List UInt8) (rest : List Value) (T : TypeId) (a : Option Addr) (c : Nat) (b : List UInt8) (rd fs : List Int) (W : World) (F : Nat → Prop) (hm : m.length = 32) (hn : n < 1000000) (hG : Gl W F rd fs) (hb : Ro W F (bytes a b)) (hbl : b.length < 1000000000) (hS0 : St W F [pts x (.cells (endX n m rest).toArray T (0,0))] W) :
  Calls Tryz.prog 63 #[.pointer (some ⟨x,0,none⟩),.slice a b.length c] W (Ret fun v w => v = .agg (bv (digest rd fs [m,be8 (n : Nat),b])).toArray ∧ St W F [pts x (.cells (endX (n + 1) (digest rd fs [m,be8 (n : Nat),b]) rest).toArray T (0,0))] w) := by
 have hS := hS0
 have hd : (digest rd fs [m,be8 (n : Nat),b]).length = 32 := Zao _ _ _
 have hd32 : LenO (bv (digest rd fs [m,be8 (n : Nat),b])) 32 := ⟨by rw [Zag]; exact hd⟩
 refine Zab Tryz.func63 rfl Tryz.ntmps63 rfl ?_
 repeat (first|refine Yeg ?_|refine Yar (fun _ _ hS _ => ?_)|refine Yeh ?_|refine Yab ?_)
 refine Zan (.s 0 (.s 1 (.s 2 (.s 3 (.s 4 (.s 5 (.s 6 (.s 7 (.s 8 (.s 9 (.h 10 (.s 11 (.s 12 (.h 13 .nil .no))) .no))))))))))) mixed (by kernel_rfl) rfl ?_
 have hS := hS.drew
 repeat (first|(refine Zae ?_;first|refine Ya0 ?_|refine Ybo ?_|refine Ybg ?_))
 refine Za6 (fun w' => Zes w' _ _ _) rfl rfl (Zin hm (hS.rd (r := pts x (.cells (endX n m rest).toArray T (0,0))) (by simp)).pts) (fun _ hc => Zc3 rfl rfl hc) rfl rfl ?_
 repeat (first|(refine Zae ?_;first|refine Ya0 ?_|refine Ybo ?_|refine Ybg ?_|refine Ybm ?_|refine Yas ?_))
 refine Zad 26 rfl rfl rfl rfl rfl hS (Zvs m (n : Nat) a c b rd fs _ hm (hG.mono fun r hr => (hr.rd hS).ro) (hb.rd hS).ro hbl) ?_
 rintro _ w rfl hS
 repeat (first|(refine Zae ?_;first|refine Ybo ?_|refine Ybg ?_|refine Yas ?_)|(refine Zac ?_;first|refine Yax ?_))
 refine Ze1 rfl rfl rfl (by rw [Zag]; exact hd) Zc6 rfl hS (by simp [Zag,hm,hd]) (fun w hS _ => ?_)
 rw [Zsf hm hd] at hS
 repeat (first|refine Yeg ?_|(refine X_id ?_;first|refine Yaf ?_|refine Yav ?_|refine Yan ?_|refine Yay ?_|refine Yap ?_|refine Ybf ?_|refine Yao (fun _ hS _ => ?_))|refine Yeu ?_|refine Yab ?_|refine Ybv ?_|(refine Zae ?_;first|refine Yaw ?_)|(refine Zac ?_;first|refine Yax ?_))
 exact ⟨rfl,hS.pick [1]⟩
def cutS (s : List UInt8) : List UInt8 := s.take (min s.length 420)
def cutL (l : List (List UInt8)) : List (List UInt8) := l.map cutS
theorem Zsh (s : List UInt8) : (cutS s).length ≤ 420 := by simp [cutS]; omega
structure BsIn (L : List Bs) (X : List RowD) : Prop where
 inn : ∀ x ∈ L,(x.a,bv x.s) ∈ X
 cap : ∀ x ∈ L,x.s.length ≤ x.c
theorem Z8v (a : Option Addr) (c : Nat) (l : List Bs) (W : World) (hB : Bss W noF a l) (hk : ∀ x ∈ l,x.s.length ≤ x.c) :
  Calls Tryz.prog 17 #[.slice a l.length c] W (Ret fun v w => ∃ (a' : Option Addr) (c' : Nat) (L : List Bs) (X : List RowD),v = .slice a' L.length c' ∧ Zam L = cutL ((Zam l).take 6) ∧ BsIn L X ∧ L.length ≤ c' ∧ St W noF [own 35 1 a' c' (L.map Bs.val),bag X] w) := by
 have hS := St.start W
 refine Zab Tryz.func17 rfl Tryz.ntmps17 rfl ?_
 repeat (first|refine Yeg ?_|refine Yag ?_|refine Yej ?_|refine Yab ?_)
 have hS0 := (hS.bagNil).own_none 35 1 none
 refine Zaj (α := Nat × Option Addr × Nat × List Bs × List RowD) (fun z => [(0,.slice a l.length c),(3,.slice z.2.1 z.1 z.2.2.1),(4,.int .i64 (z.1 : Nat))])
  (fun z w => z.1 ≤ l.length ∧ z.1 ≤ 6 ∧ Zam z.2.2.2.1 = cutL ((Zam l).take z.1) ∧ z.1 ≤ z.2.2.1 ∧ BsIn z.2.2.2.1 z.2.2.2.2 ∧ St W noF [own 35 1 z.2.1 z.2.2.1 (z.2.2.2.1.map Bs.val),bag z.2.2.2.2] w) (fun z => 6 - z.1) (0,none,0,[],[]) ⟨rfl,rfl,rfl,trivial⟩ ⟨Nat.zero_le _,Nat.zero_le _,rfl,Nat.le_refl _,⟨fun _ h => (List.not_mem_nil h).elim,fun _ h => (List.not_mem_nil h).elim⟩,hS0⟩ ?_
 clear hS hS0
 rintro ⟨i,a2,c2,L,X⟩ w ⟨hi,hi6,hT,hc2,hX,hS⟩
 simp only at hi hi6 hT hc2 hX hS ⊢
 have hL : L.length = i := by
  have := congrArg List.length hT
  simp [Zam,cutL] at this; omega
 by_cases h1 : i < l.length
 ·by_cases h2 : i < 6
  ·have hx0 : l[i]? = some l[i] := List.getElem?_eq_getElem h1
   have htk : l.take (i + 1) = l.take i ++ [l[i]] := List.take_succ_eq_append_getElem h1
   generalize l[i] = x at hx0 htk
   have hxm := List.mem_of_getElem? hx0
   have hxk := hk x hxm
   have hr := hB.row
   have hx : (l.map Bs.val)[i]? = some (.slice x.a x.s.length x.c) := by simp [hx0,Bs.val]
   obtain ⟨ab,ao,rfl⟩ := (hr.rd hS).base (by intro e; rw [e] at hx; simp at hx)
   obtain ⟨hN,hhN⟩ : ∃ hN : Nat,hN = min x.s.length 420 := ⟨_,rfl⟩
   have hmin : min ((x.s.length : Nat) : Int) 420 = (hN : Nat) := by omega
   have hcl : (cutS x.s).length = hN := by simp [cutS]; omega
   have hct : cutS x.s = (x.s.drop 0).take (hN - 0) := by simp only [cutS,List.drop_zero,Nat.sub_zero,hhN]
   have hro : Ro W noF (bytes x.a (cutS x.s)) := by
    have := (hB.all x hxm).subBytes (l := 0) (h := hN) (c := x.c) (by omega) (by omega)
    rw [sub_zero,← hct] at this
    exact this
   repeat (first|refine Yex ?_|refine Yaf ?_|refine Ybe ?_|refine Yau ?_|refine Ya1 ?_|refine Yek ?_|refine Yab ?_)
   refine Zan (.s 0 (.s 2 (.s 3 (.s 4 (.s 5 (.s 6 (.s 7 (.s 8 (.s 9 (.s 10 (.s 11 (.s 12 (.h 1 (.h 13 (.h 14 (.h 15 (.s 16 .nil) .no) .no) .no) .no))))))))))))) mixed (by kernel_rfl) rfl ?_
   have hS := hS.drew
   repeat (first|(refine Zae ?_;first|refine Ya0 ?_|refine Ydu ?_|refine Yb9 ?_|refine Yd4 ?_))
   refine Zak rfl rfl (fun _ => Zzd rfl rfl rfl) rfl rfl ?_
   rw [hmin]
   refine Zak rfl rfl (fun _ => Zas (l := 0) (h := hN) rfl rfl rfl rfl (.inr ⟨_,_,rfl,by omega,by omega,by omega⟩) (.inl ⟨rfl,rfl⟩)) rfl rfl ?_
   rw [sub_zero,Nat.sub_zero,Nat.sub_zero]
   repeat (first|refine Ybd (fun _ _ hS _ => ?_)|(refine Zae ?_;first|refine Yas ?_)|(refine Zac ?_;first|refine Yax ?_))
   refine Zap (T := 5) (n := 0) (m := hN) rfl rfl rfl rfl rfl hS rfl (Nat.zero_le _) (hro.rd hS) (by rw [Zag,hcl,Nat.mul_one]) Zc6 (by omega) (by simp only [maxLen]; omega) (fun ad cd w hS hcd _ => ?_)
   rw [Nat.zero_add] at hcd ⊢
   simp only [List.nil_append] at hS
   repeat (first|refine Ybd (fun _ _ hS _ => ?_)|(refine Zae ?_;first|refine Yas ?_)|(refine Zac ?_;first|refine Yax ?_))
   refine Zap (T := 35) (a := a2) (m := 1) rfl rfl rfl rfl rfl hS (by rw [List.length_map,hL,Nat.mul_one]) hc2 ((hS.rd (List.mem_cons_self ..)).own_row) rfl (by simp [Value.oneCell']) (by omega) (by simp only [maxLen]; omega) (fun a3 c3 w hS hc3 _ => ?_)
   repeat (first|refine Yeg ?_|refine Yew ?_|refine Yad ?_|refine Yeo ?_|(refine Zae ?_;first|refine Yfg ?_)|(refine Zac ?_;first|refine Yax ?_))
   have htm : (Zam l).take (i + 1) = (Zam l).take i ++ [x.s] := by
    have := congrArg Zam htk
    simp only [Zam,List.map_take,List.map_append,List.map_cons,List.map_nil] at this ⊢
    exact this
   refine Zaf (α := Nat × Option Addr × Nat × List Bs × List RowD) (z := (i,a2,c2,L,X)) (i + 1,a3,c3,L ++ [⟨ad,cd,cutS x.s⟩],(ad,bv (cutS x.s)) :: X) ⟨rfl,rfl,rfl,trivial⟩ ⟨by simp only; omega,by simp only; omega,?_,by simp only; omega,?_,?_⟩ (by simp only; omega)
   ·simp only
    rw [htm]
    simp only [Zam,List.map_append,cutL] at hT ⊢
    rw [hT]; rfl
   ·refine ⟨fun y hy => ?_,fun y hy => ?_⟩
    ·rcases List.mem_append.1 hy with hy | hy
     ·exact List.mem_cons_of_mem _ (hX.inn y hy)
     ·rw [List.mem_singleton] at hy; subst hy; exact List.mem_cons_self ..
    ·rcases List.mem_append.1 hy with hy | hy
     ·exact hX.cap y hy
     ·rw [List.mem_singleton] at hy; subst hy; simp only; omega
   ·skip
    have hS := hS.pick [2,2,0]
    have h4 := St.bagAdd hS (fun _ hh => own.row hh)
    have h5 := h4.pick [1,0]
    simp only [List.map_append,List.map_cons,List.map_nil,Bs.val,hcl]
    exact h5
  ·obtain rfl : i = 6 := by omega
   repeat (first|refine Yex ?_|(refine X_id ?_;first|refine Yaf ?_|refine Yag ?_|refine Ybe ?_|refine Yau ?_|refine Ya1 ?_|refine Yaz ?_)|refine Yep ?_|refine Yfc ?_)
   exact ⟨a2,c2,L,X,by rw [hL],hT,hX,by omega,hS⟩
 ·obtain rfl : i = l.length := by omega
  repeat (first|refine Ye0 ?_|(refine X_id ?_;first|refine Yaf ?_|refine Yag ?_|refine Ya9 ?_|refine Yau ?_|refine Yaz ?_)|refine Yep ?_|refine Yfc ?_)
  refine ⟨a2,c2,L,X,by rw [hL],?_,hX,by omega,hS⟩
  rw [hT,List.take_of_length_le (by simp [Zam]),List.take_of_length_le (by simpa [Zam] using hi6)]
theorem Zgw (rd fs : List Int) (l m : List (List UInt8)) : ∀ {n : Nat},n ≤ l.length → Zaz rd fs (l ++ m) n = Zaz rd fs l n
 | 0,_ => rfl
 | n + 1,h => by
  show digest rd fs [Zaz rd fs (l ++ m) n,_,_] = digest rd fs [Zaz rd fs l n,_,_]
  rw [Zgw rd fs l m (by omega),List.getD_eq_getElem?_getD,List.getElem?_append_left (by omega),List.getD_eq_getElem?_getD]
theorem Zmh (rd fs : List Int) (l : List (List UInt8)) (s : List UInt8) : Zb3 rd fs (l ++ [s]) = Zb3 rd fs l ++ [recV s (digest rd fs [Zaz rd fs l l.length,be8 (l.length : Nat),s])] := by
 unfold Zb3
 rw [List.length_append,List.length_singleton,List.range_succ,List.map_append,List.map_singleton]
 congr 1
 ·refine List.map_congr_left fun i hi => ?_
  rw [List.mem_range] at hi
  rw [Zgw rd fs l [s] (by omega),List.getD_eq_getElem?_getD,List.getElem?_append_left hi,List.getD_eq_getElem?_getD]
 ·have e : (l ++ [s]).getD l.length [] = s := by simp
  rw [e]
  show [recV s (digest rd fs [Zaz rd fs (l ++ [s]) l.length,be8 (l.length : Nat),(l ++ [s]).getD l.length []])] = _
  rw [e,Zgw rd fs l [s] (Nat.le_refl _)]
theorem Zhx (rd fs : List Int) : ∀ (k : Nat) (l : List (List UInt8)),l.length = k → k ≤ 7 → (∀ s ∈ l,s.length ≤ 400) → TreeOk 10 (trV (Zb3 rd fs l))
 | 0,l,hl,_,_ => by
  obtain rfl := List.eq_nil_of_length_eq_zero hl
  exact Z96
 | k + 1,l,hl,hk,h4 => by
  rcases List.eq_nil_or_concat l with rfl | ⟨l,s,rfl⟩
  ·cases hl
  rw [List.concat_eq_append] at hl h4 ⊢
  rw [List.length_append,List.length_singleton] at hl
  have ih := Zhx rd fs k l (by omega) (by omega) fun x hx => h4 x (List.mem_append_left _ hx)
  rw [Zmh]
  have hp := Zs5 (vs := Zb3 rd fs l) (v := recV s (digest rd fs [Zaz rd fs l l.length,be8 (l.length : Nat),s])) (by rw [Zcu]; omega) (Zob _ _) (Ztf (h4 s (by simp)) (Zao _ _ _))
  rw [if_pos (by rw [Zcu]; omega)] at hp
  have := Z0a ih logN (keyD (Zb3 rd fs l).length) (recV s (digest rd fs [Zaz rd fs l l.length,be8 (l.length : Nat),s]))
  rw [hp] at this
  exact this
theorem Z0n {m : List UInt8} (h : m.length = 32) (z : Value) (r : List Value) : Spl (List.replicate 32 z ++ r) 0 (bv m) (bv m ++ r) := by
 have h2 : (bv m).length = 32 := by rw [Zag]; exact h
 refine ⟨by rw [h2,List.length_append,List.length_replicate]; omega,?_⟩
 rw [h2]; rfl
theorem Z0m {m : List UInt8} (h : m.length = 32) (u v : Value) (r : List Value) : Spl (bv m ++ (u :: r)) 32 [v] (bv m ++ (v :: r)) := by
 have h2 : (bv m).length = 32 := by rw [Zag]; exact h
 refine ⟨by simp only [List.length_cons,List.length_append,List.length_nil]; omega,?_⟩
 have e1 : (bv m ++ u :: r).take 32 = bv m := by
  have := List.take_left (l₁ := bv m) (l₂ := u :: r)
  rwa [h2] at this
 have e2 : (bv m ++ u :: r).drop (32 + [v].length) = r := by
  rw [show 32 + [v].length = (bv m).length + 1 by rw [h2]; rfl,List.drop_length_add_append]; rfl
 rw [e1,e2]; simp
section
variable {c f tp : Nat} {b : Int} {T : Int → Option Nd} {X : List RowD}
theorem St.chRX {W : World} {F : Nat → Prop} {N : Int → Option Nd} {rs : List Res} {w : World} {a : Option Addr} {cs : List Value} (hS : St W F (chR c f b T N X :: rs) w) (hx : RX X a cs) : ∃ X',(∀ y ∈ X,y ∈ X') ∧ (a,cs) ∈ X' ∧ St W F (chR c f b T N X' :: rs) w := by
 rcases hx with rfl | hx
 ·exact ⟨[(a,[])] ++ X,fun y hy => List.mem_append_right _ hy,List.mem_cons_self ..,((hS.own_none 0 1 a).toBag fun _ h => own.row h).chAdd⟩
 ·exact ⟨X,fun _ h => h,hx,hS⟩
theorem BsIn.snoc {L : List Bs} {X X' : List RowD} (h : BsIn L X) (hX : ∀ y ∈ X,y ∈ X') {x : Bs} (hx : (x.a,bv x.s) ∈ X') (hc : x.s.length ≤ x.c) : BsIn (L ++ [x]) X' :=
 ⟨fun y hy => by
  rcases List.mem_append.1 hy with hy | hy
  ·exact hX _ (h.inn y hy)
  ·obtain rfl := List.mem_singleton.1 hy
   exact hx,fun y hy => by
  rcases List.mem_append.1 hy with hy | hy
  ·exact h.cap y hy
  ·obtain rfl := List.mem_singleton.1 hy
   exact hc⟩
theorem Zyy (i : Nat) (hi : i < 10) (W : World) (hG : Lg W noF) : Calls Tryz.prog 22 #[.int .i64 (i : Nat)] W (Ret fun v w => v = .string (str (keyD i)) ∧ St W noF [] w) := by
 have := Z87 i W hG (by omega) (by rw [Zd4,Lib.decDigits_one hi]; simp)
 rwa [Z8h hi] at this
theorem Z21 (rd fs : List Int) (l : List (List UInt8)) (hl7 : l.length ≤ 7) (h4 : ∀ s ∈ l,s.length ≤ 400) (tb : Nat) (W : World) (F : Nat → Prop) (hT : TreeRo W F f tp 10 b T) (hG : Lg W F) (hD : Gl W F rd fs) (htb : Ro W F (pts tb (tbC c logN))) (hS : St W F [chR c f b T (Nt (trV (Zb3 rd fs l))) X] W) :
  Calls Tryz.prog 72 #[.pointer (some ⟨tb,0,none⟩)] W (Ret fun v w => ∃ (x : Nat) (ra : Option Addr) (rc : Nat) (L : List Bs) (X' : List RowD),v = .tuple #[.pointer (some ⟨x,0,none⟩),.bool true] ∧ (∀ y ∈ X,y ∈ X') ∧ Zam L = l ∧ BsIn L X' ∧ l.length ≤ rc ∧
   St W F [pts x (chnC l.length (Zaz rd fs l l.length) tb ra rc),own 35 1 ra rc (L.map Bs.val),chR c f b T (Nt (trV (Zb3 rd fs l))) X'] w) := by
 have ht := Zhx rd fs _ l rfl hl7 h4
 have hl33 : LenO (endV 0 (Zb0 rd fs Zcb)) 33 := ⟨by rw [List.length_cons,Zag,Zbq]⟩
 refine Zab Tryz.func72 rfl Tryz.ntmps72 rfl ?_
 repeat (first|refine Yeg ?_|refine Yag ?_|refine Yae ?_|refine Ycl ?_|refine Yad ?_|refine Yab ?_)
 refine Zaa _ rfl rfl rfl rfl rfl (Z27 rd fs _ (hD.mono fun r hr => (hr.rd hS).ro)) ?_
 rintro _ w ⟨rfl,hS'⟩
 replace hS := hS.plus hS'
 clear hS'
 have hm0 : (Zb0 rd fs Zcb).length = 32 := Zbq _ _ _
 have hs1 := fun z r => Z0n hm0 z r
 have hs2 := fun u v r => Z0m hm0 u v r
 repeat (first|refine Yeg ?_|refine Yaf ?_|refine Yag ?_|refine Ybn ?_|refine Ya7 (fun _ _ hS _ => ?_)|refine Yae ?_|refine Zhu ?_|refine Yaj ?_|refine Yab ?_)
 rename_i xb _ _
 have hS := hS.own_none 35 1 none
 refine Zaj (α := Nat × Option Addr × Nat × List Bs × List RowD) (fun z => [(0,.pointer (some ⟨tb,0,none⟩)),(4,.pointer (some ⟨xb,0,none⟩))])
  (fun z w => z.1 ≤ l.length ∧ (∀ y ∈ X,y ∈ z.2.2.2.2) ∧ Zam z.2.2.2.1 = l.take z.1 ∧ BsIn z.2.2.2.1 z.2.2.2.2 ∧ z.1 ≤ z.2.2.1 ∧ z.2.2.2.1.length = z.1 ∧
   St W F [pts xb (.cells (endX z.1 (Zaz rd fs l z.1) [.pointer (some ⟨tb,0,none⟩),.slice z.2.1 z.1 z.2.2.1]).toArray 150 (0,0)),own 35 1 z.2.1 z.2.2.1 (z.2.2.2.1.map Bs.val),chR c f b T (Nt (trV (Zb3 rd fs l))) z.2.2.2.2] w)
  (fun z => l.length - z.1) (0,none,0,[],X) ⟨rfl,rfl,trivial⟩ ⟨Nat.zero_le _,fun _ h => h,rfl,⟨fun _ h => (List.not_mem_nil h).elim,fun _ h => (List.not_mem_nil h).elim⟩,Nat.le_refl _,rfl,hS.pick [1,0,0]⟩ ?_
 clear hS
 rintro ⟨i,ra,rc,L,X1⟩ w ⟨hi,hX1,hT1,hB1,hrc,hL1,hS⟩
 simp only at hi hX1 hT1 hB1 hrc hL1 hS ⊢
 obtain ⟨m,hm⟩ : ∃ m,m = Zaz rd fs l i := ⟨_,rfl⟩
 have hm32 : m.length = 32 := by rw [hm]; exact Zbi _ _ _ _
 rw [← hm] at hS
 repeat (first|refine Yaa ?_|refine Yaf ?_|refine Yav ?_|refine Yan ?_|refine Yap ?_|refine Yej ?_)
 refine Zaa _ rfl rfl rfl rfl rfl (Zyy i (by omega) _ (hG.at_ hS)) ?_
 rintro _ w ⟨rfl,hS'⟩
 replace hS := hS.plus hS'
 clear hS'
 repeat (first|refine Yeg ?_|refine Yev ?_|refine Yeh ?_|refine Yab ?_)
 obtain ⟨_,hcc,hr1,hw,hbk⟩ := hS.call [false,false,true]
 refine Zaa _ rfl rfl rfl rfl rfl (Z93 ht tb logN (keyD i) _ _ (hT.mono hw) (hG.mono hw) (hw _ htb) hcc) ?_
 rintro v w ⟨X2,hX2,hS,hv⟩
 replace hS := hbk hS
 clear hbk hw hcc hr1
 have hX12 : ∀ y ∈ X,y ∈ X2 := fun y hy => hX2 y (hX1 y hy)
 by_cases hlt : i < l.length
 ·have hv0 := Zz7 (rd := rd) (fs := fs) hlt
  obtain ⟨s,hs⟩ : ∃ s,s = l.getD i [] := ⟨_,rfl⟩
  have hsi : l[i]? = some s := by rw [hs,List.getD_eq_getElem?_getD]; simp [hlt]
  have hs4 := h4 s (List.mem_of_getElem? hsi)
  have hnx : Zaz rd fs l (i + 1) = digest rd fs [m,be8 (i : Nat),s] := by rw [hm,hs]; rfl
  have hd32 : (digest rd fs [m,be8 (i : Nat),s]).length = 32 := Zao _ _ _
  rw [← hs,hnx] at hv0
  rw [Z0c (by rw [Zcu]; omega) hv0 (Zob _ _) (Ztg (by omega) (by omega))] at hv
  obtain ⟨cs,rfl,hM⟩ := hv
  obtain ⟨e1,e2,e3,e4,e5,rfl,_⟩ := hM.lit
  have hm2 : LenO (bv (digest rd fs [m,be8 (i : Nat),s])) 32 := ⟨by rw [Zag]; exact hd32⟩
  generalize hdg : digest rd fs [m,be8 (i : Nat),s] = d at *
  repeat (first|refine Yex ?_|(refine X_id ?_;first|refine Yaf ?_|refine Yag ?_|refine Ya3 ?_|refine Ya9 ?_|refine Ybi ?_|refine Ybb ?_|refine Ybf ?_|refine Yao (fun _ hS _ => ?_)|refine Yar (fun _ _ hS _ => ?_)|refine X_yl (Zfm rfl rfl rfl) rfl rfl ?_)|refine Ye9 ?_|refine Yeo ?_)
  refine Zaa _ rfl rfl rfl rfl rfl (Z35 (R := RX X2) _ (fun a cs h => (h.rd (hS.rd (r := chR c f b T (Nt (trV (Zb3 rd fs l))) X2) (by simp)).ch).ro) s d hs4 hd32 _ hM) ?_
  rintro _ w ⟨a,q,rfl,hq,hrow,hS'⟩
  replace hS := hS.plus hS'
  clear hS'
  repeat (first|refine Yeg ?_|refine Yfk ?_|refine Yao (fun _ hS _ => ?_)|refine Yar (fun _ _ hS _ => ?_)|refine Yae ?_|refine Yab ?_)
  refine Zan (.s 0 (.s 1 (.s 2 (.s 3 (.s 4 (.s 5 (.s 6 (.s 7 (.s 8 (.s 9 (.s 10 (.s 11 (.s 12 (.s 13 (.s 15 (.h 14 (.s 16 (.s 17 .nil)) .no)))))))))))))))) mixed (by kernel_rfl) rfl ?_
  have hS := hS.drew
  repeat (first|(refine Zae ?_;first|refine Ya0 ?_|refine Zak rfl rfl (fun _ => Zir rfl rfl) rfl rfl ?_|refine Yca ?_|refine Yc3 ?_|refine Ycx ?_))
  have hqE := (hS.rd (r := pts xb (.cells (endX i m [.pointer (some ⟨tb,0,none⟩),.slice ra i rc]).toArray 150 (0,0))) (by simp)).pts
  refine Zdj (fun w' => Zes w' _ _ _) rfl rfl rfl rfl (Zin hm32 hqE) (fun _ hc => Zc3 rfl rfl hc) rfl rfl ?_
  repeat (first|(refine Zae ?_;first|refine Yca ?_|refine Yc3 ?_|refine Ycx ?_|refine Ycv ?_|refine Yda ?_|refine Ydy ?_))
  refine Zad 26 rfl rfl rfl rfl rfl hS (Zvs m (i : Nat) a q s rd fs _ hm32 (hD.mono fun r hr => (hr.rd hS).ro) (hrow.rd (hS.rd (r := chR c f b T (Nt (trV (Zb3 rd fs l))) X2) (by simp)).ch).ro (by omega)) ?_
  rintro _ w rfl hS
  rw [hdg]
  repeat (first|(refine Zac ?_;first|refine Yax ?_))
  refine Zcg rfl rfl rfl rfl (fun _ => Zfl rfl rfl rfl hd32 hd32) rfl rfl ?_
  rw [decide_eq_false (fun h => h rfl)]
  repeat (first|refine Yaa ?_|refine Yaf ?_|refine Yav ?_|refine Yan ?_|refine Yes ?_|refine Yab ?_|(refine Zae ?_;first|refine Yaw ?_|refine Ycc ?_))
  have hS : St W F [pts xb (.cells (endX i m [.pointer (some ⟨tb,0,none⟩),.slice ra i rc]).toArray 150 (0,0)),own 35 1 ra rc (L.map Bs.val),chR c f b T (Nt (trV (Zb3 rd fs l))) X2] _ := hS.took
  obtain ⟨_,hcc,hr1,hw,hbk⟩ := hS.call [true]
  refine Zaa _ rfl rfl rfl rfl rfl (Z23 xb i m _ _ a q s rd fs _ _ hm32 (by omega) (hD.mono hw) (hrow.ro (hr1 (chR c f b T (Nt (trV (Zb3 rd fs l))) X2) (by simp)).ch) (by omega) hcc) ?_
  rintro _ w ⟨rfl,hS⟩
  replace hS := hbk hS
  clear hbk hw hcc hr1
  rw [hdg] at hS ⊢
  repeat (first|refine Yeg ?_|(refine X_id ?_;first|refine Yaf ?_|refine Yav ?_|refine Yan ?_|refine Yap ?_|refine Ybd (fun _ _ hS _ => ?_))|refine Yad ?_|refine Yab ?_)
  have hnw := (hS.rd (List.mem_cons_self ..)).own_row
  refine Zap rfl rfl rfl rfl rfl hS (by rw [List.length_map,hL1,Nat.mul_one]) hrc hnw rfl (by simp [Value.oneCell']) (by omega) (by simp only [maxLen]; omega) (fun b' q' w hS hq' _ => ?_)
  repeat (first|refine Yeg ?_|refine Yav ?_|refine Yan ?_|refine Yao (fun _ hS _ => ?_)|refine Yat ?_)
  have hS : St W F [chR c f b T (Nt (trV (Zb3 rd fs l))) X2,pts xb (.cells (endX (i + 1) d [.pointer (some ⟨tb,0,none⟩),.slice b' (i + 1) q']).toArray 150 (0,0)),own 35 1 b' q' (L.map Bs.val ++ [.slice a s.length q])] _ := hS.took
  obtain ⟨X3,hX3,hin,hS⟩ := hS.chRX hrow
  refine Zaf (z := (i,ra,rc,L,X1)) (i + 1,b',q',L ++ [⟨a,q,s⟩],X3) ⟨rfl,rfl,trivial⟩ ⟨hlt,fun y hy => hX3 y (hX12 y hy),?_,hB1.snoc (fun y hy => hX3 y (hX2 y hy)) hin hq,hq',by rw [List.length_append,hL1]; rfl,?_⟩ (by dsimp only; omega)
  ·rw [List.take_succ_eq_append_getElem hlt,Zam,List.map_append]
   have : l[i] = s := by rw [List.getElem?_eq_getElem hlt] at hsi; injection hsi
   rw [this]
   have hT1' : L.map (·.s) = l.take i := hT1
   simp [hT1']
  ·dsimp only
   rw [hnx,List.map_append,show List.map Bs.val [(⟨a,q,s⟩ : Bs)] = [Value.slice a s.length q] from rfl]
   exact hS.took
 ·have hiz : i = l.length := by omega
  subst hiz
  rw [Zw2 (by rw [Zcu]; omega) (by omega)] at hv
  obtain ⟨_,rfl⟩ := hv
  repeat (first|refine Ye0 ?_|(refine X_id ?_;first|refine Yaf ?_|refine Yag ?_|refine Ya3 ?_|refine Ybe ?_|refine Ybh ?_|refine Yao (fun _ hS _ => ?_)|refine Yar (fun _ _ hS _ => ?_))|refine Ye4 ?_|refine Yab ?_|refine Yaq ?_|refine Yb7 ?_|refine Ya8 ?_|refine Ybp ?_)
  exact ⟨xb,ra,rc,L,X2,rfl,hX12,by rw [hT1,List.take_length],⟨fun x hx => hX2 _ (hB1.inn x hx),hB1.cap⟩,hrc,by rw [hm] at hS; exact hS.took⟩
end
def dgM : Nat → Nat → List UInt8
 | _,0 => []
 | n,k + 1 => dgM (n / 10) k ++ [UInt8.ofNat (48 + n % 10)]
theorem Zja : ∀ (k n : Nat),(dgM n k).length = k
 | 0,_ => rfl
 | k + 1,n => by rw [dgM,List.length_append,Zja k]; rfl
theorem Zuf : ∀ (i n : Nat),dgM n (i + 1) = [UInt8.ofNat (48 + n / 10 ^ i % 10)] ++ dgM n i
 | 0,n => by simp [dgM]
 | i + 1,n => by
  rw [dgM,Zuf i (n / 10),dgM,List.append_assoc,Nat.div_div_eq_div_mul,Nat.pow_succ']
theorem Zue : ∀ k,dgM 0 k = List.replicate k 48
 | 0 => rfl
 | k + 1 => by rw [dgM,Nat.zero_div,Zue k,List.replicate_succ']; rfl
theorem Z6o : ∀ k,Lib.repeatL [48] k = List.replicate k 48
 | 0 => rfl
 | k + 1 => by rw [Lib.repeatL,Z6o k,List.replicate_succ]; rfl
theorem Zyx : ∀ (k n : Nat),n < 10 ^ (k + 1) → Lib.repeatL [48] (k + 1 - (Lib.decDigits n).length) ++ Lib.decDigits n = dgM n (k + 1)
 | k,n,h => by
  by_cases hn : n < 10
  ·rw [Lib.decDigits_one hn,dgM,Nat.div_eq_of_lt hn,Zue,Nat.mod_eq_of_lt hn,List.length_singleton,Nat.add_sub_cancel,Z6o]
  ·have hd : Lib.decDigits n = Lib.decDigits (n / 10) ++ [UInt8.ofNat (48 + n % 10)] := by rw [Lib.decDigits,dif_neg hn]
   cases k with
   | zero => simp at h; omega
   | succ k =>
    have ih := Zyx k (n / 10) (by rw [Nat.pow_succ] at h; omega)
    rw [hd,List.length_append,List.length_singleton,Nat.add_sub_add_right,← List.append_assoc,ih]
    rfl
def keyI (no : Int) : List UInt8 := if no < 0 ∨ 999999 < no then [] else 114 :: dgM no.toNat 6
theorem Z1h {n : Nat} (h : n ≤ 999999) : keyN n = 114 :: dgM n 6 := by
 unfold keyN
 rw [Zd4,Zyx 5 n (by omega)]
theorem Z88 (no : Int) (W : World) (hG : Lg W noF) : Calls Tryz.prog 22 #[.int .i64 no] W (Ret fun v w => v = .string (str (keyI no)) ∧ St W noF [] w) := by
 unfold keyI
 by_cases h0 : no < 0
 ·rw [if_pos (.inl h0)]
  have hS := St.start W
  refine Zab Tryz.func22 rfl Tryz.ntmps22 rfl ?_
  repeat (first|refine Ye0 ?_|refine Yaf ?_|refine Yag ?_|refine Ybe ?_|refine Ya1 ?_|refine Yey ?_|refine Yez ?_)
  exact ⟨rfl,hS⟩
 by_cases h1 : 999999 < no
 ·rw [if_pos (.inr h1)]
  have hS := St.start W
  refine Zab Tryz.func22 rfl Tryz.ntmps22 rfl ?_
  repeat (first|refine Yex ?_|(refine X_id ?_;first|refine Yaf ?_|refine Yag ?_|refine Ya9 ?_|refine Yaz ?_|refine Ybz ?_)|refine Yey ?_|refine Yez ?_)
  exact ⟨rfl,hS⟩
 rw [if_neg (by omega)]
 obtain ⟨n,rfl⟩ : ∃ n : Nat,no = (n : Nat) := ⟨no.toNat,by omega⟩
 have := Z87 n W hG (by omega) (by rw [Zd4]; exact Zn0 5 n (by omega))
 rw [Z1h (by omega)] at this
 exact this
theorem Z6n (no : Int) (W : World) : Calls Tryz.prog 23 #[.int .i64 no] W (Ret fun v w => v = .string (str (keyI no)) ∧ St W noF [] w) := by
 have hS := St.start W
 unfold keyI
 by_cases h0 : no < 0
 ·rw [if_pos (.inl h0)]
  refine Zab Tryz.func23 rfl Tryz.ntmps23 rfl ?_
  repeat (first|refine Ye0 ?_|refine Yaf ?_|refine Yag ?_|refine Ybe ?_|refine Ya1 ?_|refine Yey ?_|refine Yez ?_)
  exact ⟨rfl,hS⟩
 by_cases h1 : 999999 < no
 ·rw [if_pos (.inr h1)]
  refine Zab Tryz.func23 rfl Tryz.ntmps23 rfl ?_
  repeat (first|refine Yex ?_|(refine X_id ?_;first|refine Yaf ?_|refine Yag ?_|refine Ya9 ?_|refine Yaz ?_|refine Ybz ?_)|refine Yey ?_|refine Yez ?_)
  exact ⟨rfl,hS⟩
 rw [if_neg (by omega)]
 obtain ⟨n,rfl⟩ : ∃ n : Nat,no = (n : Nat) := ⟨no.toNat,by omega⟩
 rw [Int.toNat_natCast]
 have hn : n ≤ 999999 := by omega
 refine Zab Tryz.func23 rfl Tryz.ntmps23 rfl ?_
 repeat (first|refine Yex ?_|(refine X_id ?_;first|refine Yaf ?_|refine Yag ?_|refine Ya9 ?_|refine Yaz ?_|refine Ybs ?_)|refine Ye9 ?_|refine Yab ?_)
 refine Zaj (α := Nat) (fun i => [(0,.int .i64 (n / 10 ^ i : Nat)),(3,.string (str (dgM n i))),(4,.int .i64 (i : Nat))])
  (fun i w => i ≤ 6 ∧ St W noF [] w) (fun i => 6 - i) 0 ⟨by rw [Nat.pow_zero,Nat.div_one]; rfl,rfl,rfl,trivial⟩ ⟨Nat.zero_le _,hS⟩ ?_
 clear hS
 rintro i w ⟨hi,hS⟩
 by_cases hlt : i < 6
 ·have hm : n / 10 ^ i ≤ 999999 := Nat.le_trans (Nat.div_le_self _ _) hn
  have hs := Zuf i n
  have hl := Zja i n
  have hnx : n / 10 ^ (i + 1) = n / 10 ^ i / 10 := by rw [Nat.div_div_eq_div_mul,Nat.pow_succ]
  generalize n / 10 ^ i = q at *
  generalize dgM n i = s at *
  have et := Z3n (d := q % 10) (by omega)
  have em : ((q : Nat) : Int).tmod 10 = ((q % 10 : Nat) : Int) := by rw [Int.tmod_eq_emod_of_nonneg (by omega)]; omega
  have ed : IntKind.i64.wrap (((q : Nat) : Int).tdiv 10) = ((q / 10 : Nat) : Int) := by
   rw [Int.tdiv_eq_ediv_of_nonneg (by omega),show ((q : Nat) : Int) / 10 = ((q / 10 : Nat) : Int) by omega]
   exact w64 (by omega) (by omega)
  repeat' (first | (refine X_yl (Zq1 (v := ((q % 10 : Nat) : Int)) rfl rfl rfl (by omega) em) rfl rfl ?_) | (refine X_yl (Zq2 (v := ((q / 10 : Nat) : Int)) rfl rfl rfl (by omega) ed) rfl rfl ?_) | refine Zer ?_ ?_ | (refine G_id ?_; first | refine Zme ?_ | refine Zeq rfl rfl ?_) | (refine X_id ?_; first | refine X_yl (Zce rfl rfl) rfl rfl ?_ | refine X_yl (Zkh rfl rfl rfl (by omega)) rfl rfl ?_ | refine X_yl (Zjy rfl rfl rfl (w64 (by omega) (by omega))) rfl rfl ?_) | (refine C_id ?_; first | refine Zdl ?_ | refine Zay ?_ | refine Zdm ?_ | refine Zfq ?_ | refine Zci rfl ?_) | (refine E_id ?_; first | refine Zcx ?_))
  refine X_yl (Zl0 (s := tenL) (l := q % 10) (h := q % 10 + 1) rfl rfl rfl rfl (.inr ⟨_,_,rfl,by omega,by omega,by show _ ≤ 10; omega⟩) (.inr ⟨_,_,rfl,by omega,by omega,by omega⟩)) rfl rfl ?_
  rw [et]
  repeat' (first | (refine X_yl (Zq1 (v := ((q % 10 : Nat) : Int)) rfl rfl rfl (by omega) em) rfl rfl ?_) | (refine X_yl (Zq2 (v := ((q / 10 : Nat) : Int)) rfl rfl rfl (by omega) ed) rfl rfl ?_) | refine Zer ?_ ?_ | (refine G_id ?_; first | refine Zme ?_ | refine Zeq rfl rfl ?_) | (refine X_id ?_; first | refine X_yl (Zce rfl rfl) rfl rfl ?_ | refine X_yl (Zbf rfl rfl) rfl rfl ?_ | refine X_yl (Zjy rfl rfl rfl (w64 (by omega) (by omega))) rfl rfl ?_ | refine X_yl (Zre rfl rfl rfl (by first | omega | (simp; omega))) rfl rfl ?_) | (refine C_id ?_; first | refine Zay ?_) | (refine E_id ?_; first | refine Zcx ?_ | refine Zl7 ?_))
  refine Zaf (i + 1) ⟨?_,?_,rfl,trivial⟩ ⟨hlt,hS⟩ (by omega)
  ·rw [hnx]; rfl
  ·rw [hs]; rfl
 ·obtain rfl : i = 6 := by omega
  have h6 := Zja 6 n
  generalize dgM n 6 = s at *
  repeat (first|refine Yeg ?_|refine Yaf ?_|refine Yag ?_|refine Yaz ?_|refine Ydr ?_|refine Yep ?_|refine Yfc ?_)
  exact ⟨rfl,hS⟩
theorem Z1g : ∀ (vs : List Mv),Zch (trV vs) [dbN,logN] = if vs = [] then -1 else 1
 | [] => by
  unfold Zch getR goR
  rw [if_pos (by decide)]; rfl
 | v :: l => by
  unfold Zch getR goR
  rw [if_pos (by decide)]; rfl
theorem Zp1 (vs : List Mv) : (Zgd (trV vs) [dbN,logN] 0).2 = 0 := by
 unfold Zgd
 rw [Z1g]
 cases vs with
 | nil => rfl
 | cons v l =>
  have h2 : (lstR (trV (v :: l)) [dbN,logN]).2 = 0 := by
   unfold lstR goR
   rw [if_pos (by decide)]; rfl
  rw [if_neg (List.cons_ne_nil v l),if_neg (by decide),if_neg (by decide),if_neg (fun e => e h2)]
section
variable {c f tp : Nat} {b : Int} {T : Int → Option Nd} {X : List RowD}
theorem Z83 (rd fs : List Int) (l : List (List UInt8)) (hl7 : l.length ≤ 7) (h4 : ∀ s ∈ l,s.length ≤ 400) (tb : Nat) (W : World) (F : Nat → Prop) (hT : TreeRo W F f tp 10 b T) (hG : Lg W F) (hD : Gl W F rd fs) (htb : Ro W F (pts tb (tbC c logN))) (hS : St W F [chR c f b T (Nt (trV (Zb3 rd fs l))) X] W) :
  Calls Tryz.prog 28 #[.pointer (some ⟨tb,0,none⟩)] W (Ret fun v w => ∃ (x : Nat) (ra : Option Addr) (rc : Nat) (L : List Bs) (X' : List RowD),v = .tuple #[.pointer (some ⟨x,0,none⟩),.int .i64 0] ∧ (∀ y ∈ X,y ∈ X') ∧ Zam L = l ∧ BsIn L X' ∧ l.length ≤ rc ∧
   St W F [pts x (chnC l.length (Zaz rd fs l l.length) tb ra rc),own 35 1 ra rc (L.map Bs.val),chR c f b T (Nt (trV (Zb3 rd fs l))) X'] w) := by
 have ht := Zhx rd fs _ l rfl hl7 h4
 refine Zab Tryz.func28 rfl Tryz.ntmps28 rfl ?_
 repeat (first|refine Yeg ?_|refine Yev ?_|refine Yeh ?_|refine Yab ?_)
 obtain ⟨_,hcc,_,hw,hbk⟩ := hS.call [true]
 refine Zaa _ rfl rfl rfl rfl rfl (Z2f ht tb logN _ _ (hT.mono hw) (hG.mono hw) (hw _ htb) hcc) ?_
 rintro _ w ⟨X1,a,q,hX1,rfl,_,hS⟩
 replace hS := hbk hS
 clear hbk hw hcc
 rw [Zp1]
 repeat (first|refine Yeg ?_|refine Yfq ?_|refine Yes ?_|refine Yab ?_)
 obtain ⟨_,hcc,_,hw,hbk⟩ := hS.call [false,true]
 refine Zaa _ rfl rfl rfl rfl rfl (Z21 rd fs l hl7 h4 tb _ _ (hT.mono hw) (hG.mono hw) (hD.mono hw) (hw _ htb) hcc) ?_
 rintro _ w ⟨x,ra,rc,L,X2,rfl,hX2,hT2,hB2,hrc,hS⟩
 replace hS := hbk hS
 clear hbk hw hcc
 repeat (first|refine Yeg ?_|refine Yaf ?_|refine Yag ?_|refine Ya3 ?_|refine Ybc ?_|refine Ye6 ?_|refine Ye5 ?_)
 exact ⟨x,ra,rc,L,X2,rfl,fun y hy => hX2 y (hX1 y hy),hT2,hB2,hrc,hS.took⟩
end
theorem Z2n {w : World} {b : Nat} {T : TypeId} {s : List UInt8} (h : w.heap[b]? = some (.cells (bv s).toArray T (0,0))) : Rd w (bytes (some ⟨b,0,none⟩) s) :=
 ⟨Zcn b _,.inr ⟨b,0,(bv s).toArray,T,_,rfl,rfl,fun i v hv => by simpa using hv⟩,fun k o hk => by
  unfold Zcn at hk
  split at hk
  ·rename_i e
   cases hk
   rw [e]; exact h
  ·cases hk⟩

section
variable {c f tp : Nat} {b : Int} {T : Int → Option Nd} {X : List RowD}
theorem Qbn (rd fs : List Int) (l : List (List UInt8)) (hl7 : l.length ≤ 7) (h4 : ∀ s ∈ l,s.length ≤ 400) (tb x : Nat) (ra : Option Addr) (rc : Nat) (L : List Bs) (a : Option Addr) (M : List Bs) (mc : Nat) (W : World) (F : Nat → Prop) (hT : TreeRo W F f tp 10 b T) (hG : Lg W F) (hD : Gl W F rd fs) (htb : Ro W F (pts tb (tbC c logN)))
  (hB : Bss W F a M) (hM : M.length ≤ 1000) (hM4 : ∀ y ∈ M,y.s.length ≤ 400) (hTL : Zam L = l) (hBL : BsIn L X) (hrc : l.length ≤ rc) (hS : St W F [pts x (chnC l.length (Zaz rd fs l l.length) tb ra rc),own 35 1 ra rc (L.map Bs.val),chR c f b T (Nt (trV (Zb3 rd fs l))) X] W) :
  Calls Tryz.prog 31 #[.pointer (some ⟨x,0,none⟩),.slice a M.length mc] W (Ret fun v w => ∃ (l' : List (List UInt8)) (ra' : Option Addr) (rc' : Nat) (L' : List Bs) (X' : List RowD) (k : Nat),l' = l ++ (Zam M).take k ∧ k = min M.length (7 - l.length) ∧ v = .tuple #[.int .i64 (k : Nat),.int .i64 (if l.length + M.length ≤ 7 then 0 else 6)] ∧ (∀ y ∈ X,y ∈ X') ∧ Zam L' = l' ∧ BsIn L' X' ∧ l'.length ≤ rc' ∧
   St W F [pts x (chnC l'.length (Zaz rd fs l' l'.length) tb ra' rc'),own 35 1 ra' rc' (L'.map Bs.val),chR c f b T (Nt (trV (Zb3 rd fs l'))) X'] w) := by
 refine Zab Tryz.func31 rfl Tryz.ntmps31 rfl ?_
 repeat (first|refine Yeg ?_|refine Yaf ?_|refine Yag ?_|refine Yau ?_|refine Ybu ?_|refine Ye9 ?_|refine Yab ?_)
 refine Zbk (α := Unit) (fun _ => [(0,.pointer (some ⟨x,0,none⟩)),(1,.slice a M.length mc)]) (fun _ w => St W F [pts x (chnC l.length (Zaz rd fs l l.length) tb ra rc),own 35 1 ra rc (L.map Bs.val),chR c f b T (Nt (trV (Zb3 rd fs l))) X] w) ?_ ?_
 ·refine Zaj (α := Nat) (fun i => [(0,.pointer (some ⟨x,0,none⟩)),(1,.slice a M.length mc),(14,.slice a M.length mc),(15,.int .i64 (M.length : Nat)),(16,.int .i64 (i : Nat))])
   (fun i w => i ≤ M.length ∧ St W F [pts x (chnC l.length (Zaz rd fs l l.length) tb ra rc),own 35 1 ra rc (L.map Bs.val),chR c f b T (Nt (trV (Zb3 rd fs l))) X] w) (fun i => M.length - i) 0 ⟨rfl,rfl,rfl,rfl,rfl,trivial⟩ ⟨Nat.zero_le _,hS⟩ ?_
  clear hS
  rintro i w ⟨hi,hS⟩
  by_cases hlt : i < M.length
  ·have hx0 : M[i]? = some M[i] := List.getElem?_eq_getElem hlt
   generalize M[i] = y at hx0
   have hy4 := hM4 y (List.mem_of_getElem? hx0)
   have hr := hB.row
   have hx : (M.map Bs.val)[i]? = some (.slice y.a y.s.length y.c) := by simp [hx0,Bs.val]
   obtain ⟨ab,ao,rfl⟩ := (hr.rd hS).base (by intro e; rw [e] at hx; simp at hx)
   repeat (first|refine Yeg ?_|(refine X_id ?_;first|refine Yaf ?_|refine Yag ?_|refine Yau ?_|refine Ya1 ?_|refine Ybs ?_|refine Yba ?_|refine Yay ?_|refine Yb1 ?_)|refine Yen ?_|refine Yeo ?_)
   refine Zaf (i + 1) ⟨rfl,rfl,rfl,rfl,rfl,trivial⟩ ⟨hlt,hS⟩ (by omega)
  ·repeat (first|refine Yeg ?_|refine Yaz ?_|refine Yet ?_|refine Yem ?_)
   exact Zbj () ⟨rfl,rfl,trivial⟩ hS
 clear hS
 rintro ⟨⟩ w hS
 repeat (first|refine Yeg ?_|refine Yaf ?_|refine Yau ?_|refine Yej ?_|refine Yab ?_)
 have hLl : L.length = l.length := by rw [← hTL]; simp [Zam]
 refine Zaj (α := Nat × Option Addr × Nat × List Bs × List RowD) (fun z => [(0,.pointer (some ⟨x,0,none⟩)),(1,.slice a M.length mc),(24,.slice a M.length mc),(25,.int .i64 (M.length : Nat)),(26,.int .i64 (z.1 : Nat))])
  (fun z w => z.1 ≤ M.length ∧ l.length + z.1 ≤ 7 ∧ (∀ y ∈ X,y ∈ z.2.2.2.2) ∧ Zam z.2.2.2.1 = l ++ (Zam M).take z.1 ∧ BsIn z.2.2.2.1 z.2.2.2.2 ∧ l.length + z.1 ≤ z.2.2.1 ∧ z.2.2.2.1.length = l.length + z.1 ∧
   St W F [pts x (.cells (endX (l.length + z.1) (Zaz rd fs (l ++ (Zam M).take z.1) (l.length + z.1)) [.pointer (some ⟨tb,0,none⟩),.slice z.2.1 (l.length + z.1) z.2.2.1]).toArray 150 (0,0)),own 35 1 z.2.1 z.2.2.1 (z.2.2.2.1.map Bs.val),chR c f b T (Nt (trV (Zb3 rd fs (l ++ (Zam M).take z.1)))) z.2.2.2.2] w)
  (fun z => M.length - z.1) (0,ra,rc,L,X) ⟨rfl,rfl,rfl,rfl,rfl,trivial⟩ ⟨Nat.zero_le _,hl7,fun _ h => h,by simp [hTL],hBL,hrc,hLl,by simpa using hS⟩ ?_
 clear hS
 rintro ⟨i,ra1,rc1,L1,X1⟩ w ⟨hi,hi7,hX1,hT1,hB1,hrc1,hL1,hS⟩
 simp only at hi hi7 hX1 hT1 hB1 hrc1 hL1 hS ⊢
 obtain ⟨li,hli⟩ : ∃ li,li = l ++ (Zam M).take i := ⟨_,rfl⟩
 obtain ⟨n,hn⟩ : ∃ n,n = l.length + i := ⟨_,rfl⟩
 have hlin : li.length = n := by rw [hli,hn]; simp [Zam,hi]
 have hli4 : ∀ s ∈ li,s.length ≤ 400 := fun s hs => by
  rw [hli] at hs
  rcases List.mem_append.1 hs with hs | hs
  ·exact h4 s hs
  ·obtain ⟨y,hy,rfl⟩ := List.mem_map.1 (List.mem_of_mem_take hs)
   exact hM4 y hy
 rw [← hli] at hT1 hS
 rw [← hn] at hi7 hrc1 hL1 hS
 obtain ⟨m,hm⟩ : ∃ m,m = Zaz rd fs li n := ⟨_,rfl⟩
 have hm32 : m.length = 32 := by rw [hm]; exact Zbi _ _ _ _
 rw [← hm] at hS
 have ht := Zhx rd fs _ li rfl (by omega) hli4
 by_cases hlt : i < M.length
 ·have hx0 : M[i]? = some M[i] := List.getElem?_eq_getElem hlt
  have htk : (Zam M).take (i + 1) = (Zam M).take i ++ [M[i].s] := by
   have := List.take_succ_eq_append_getElem (l := Zam M) (i := i) (by simp [Zam,hlt])
   rw [this]; simp [Zam]
  generalize M[i] = y at hx0 htk
  have hym := List.mem_of_getElem? hx0
  have hy4 := hM4 y hym
  have hr := hB.row
  have hb := hB.all y hym
  have hx : (M.map Bs.val)[i]? = some (.slice y.a y.s.length y.c) := by simp [hx0,Bs.val]
  obtain ⟨ab,ao,rfl⟩ := (hr.rd hS).base (by intro e; rw [e] at hx; simp at hx)
  repeat (first|refine Yeg ?_|refine Yff ?_|refine Yek ?_|refine Yab ?_)
  obtain ⟨d,hdg⟩ : ∃ d,d = digest rd fs [m,be8 (n : Nat),y.s] := ⟨_,rfl⟩
  have hd32 : d.length = 32 := by rw [hdg]; exact Zao _ _ _
  have hd32L : LenO (bv d) 32 := ⟨by rw [Zag]; exact hd32⟩
  refine Znq (α := Nat) (fun bm => [(0,.pointer (some ⟨x,0,none⟩)),(1,.slice (some ⟨ab,ao,none⟩) M.length mc),(24,.slice (some ⟨ab,ao,none⟩) M.length mc),(25,.int .i64 (M.length : Nat)),(26,.int .i64 (i : Nat)),(8,.int .i64 (i : Nat)),(9,.slice y.a y.s.length y.c),(10,.pointer (some ⟨bm,0,none⟩))])
   (fun bm w => St W F [pts bm (.cells (bv d).toArray 56),pts x (.cells (endX n m [.pointer (some ⟨tb,0,none⟩),.slice ra1 n rc1]).toArray 150 (0,0)),own 35 1 ra1 rc1 (L1.map Bs.val),chR c f b T (Nt (trV (Zb3 rd fs li))) X1] w) ?_ ?_
  ·skip
   refine Zan (.s 0 (.s 1 (.s 2 (.s 3 (.s 4 (.s 5 (.s 6 (.s 7 (.s 8 (.s 9 (.s 10 (.h 11 (.h 12 (.h 13 .nil .no) .no) (.h 12 (.h 11 (.h 13 .nil .no) .no) .no))))))))))))) mixed (by kernel_rfl) rfl ?_
   have hS := hS.drew
   have hqE := (hS.rd (r := pts x (.cells (endX n m [.pointer (some ⟨tb,0,none⟩),.slice ra1 n rc1]).toArray 150 (0,0))) (List.mem_cons_self ..)).pts
   repeat (first|(refine Zae ?_;first|refine Ya0 ?_|refine Ybo ?_|refine Ybg ?_))
   refine Za6 (fun w' => Zes w' _ _ _) rfl rfl (Zin hm32 hqE) (fun _ hc => Zc3 rfl rfl hc) rfl rfl ?_
   repeat' (first|refine Zer ?_ ?_|refine Yar (fun _ _ hS _ => ?_)|(refine Zae ?_;first|refine Ya0 ?_|refine Ybo ?_|refine Ybg ?_|refine Ybm ?_|refine Yas ?_)|(refine Zac ?_;first|refine Ycm ?_))
   ·refine Zad 26 rfl rfl rfl rfl rfl hS (Zvs m (n : Nat) y.a y.c y.s rd fs _ hm32 (hD.mono fun r hr => (hr.rd hS).ro) (hb.rd hS).ro (by omega)) ?_
    rintro _ w rfl hS
    rw [← hdg]
    repeat (first|refine Yao (fun _ hS _ => ?_)|refine Yar (fun _ _ hS _ => ?_)|(refine Zae ?_;first|refine Yaw ?_|refine Yas ?_)|(refine Zac ?_;first|refine Ycm ?_))
    exact Zbj _ ⟨rfl,rfl,rfl,rfl,rfl,rfl,rfl,rfl,trivial⟩ hS.took
   ·refine Zad 26 rfl rfl rfl rfl rfl hS (Zvs m (n : Nat) y.a y.c y.s rd fs _ hm32 (hD.mono fun r hr => (hr.rd hS).ro) (hb.rd hS).ro (by omega)) ?_
    rintro _ w rfl hS
    rw [← hdg]
    repeat (first|refine Yao (fun _ hS _ => ?_)|(refine Zae ?_;first|refine Yaw ?_|refine Yas ?_)|(refine Zac ?_;first|refine Ycm ?_))
    exact Zbj _ ⟨rfl,rfl,rfl,rfl,rfl,rfl,rfl,rfl,trivial⟩ hS.took
  clear hS
  rintro bm w hS
  repeat (first|refine Yae ?_)
  refine Zan (.s 0 (.s 1 (.s 2 (.s 3 (.s 4 (.s 5 (.s 6 (.s 7 (.s 8 (.s 10 (.s 11 (.s 13 (.s 14 (.h 9 (.h 12 (.h 15 (.h 16 (.h 17 (.h 18 (.s 19 .nil) .no) .no) .no) .no) .no) .no)))))))))))))) mixed (by kernel_rfl) rfl ?_
  have hS := hS.drew
  repeat (first|(refine Zae ?_;first|refine Ya0 ?_|refine Ybo ?_|refine Ybg ?_))
  refine Za6 (fun w' => w'.cell? _ = some _) rfl rfl (Zqn hm32 hS.has (j := 0) rfl) (fun _ hc => Zav rfl rfl hc) rfl rfl ?_
  repeat (first|(refine Zae ?_;first|refine Ya0 ?_|refine Ybo ?_|refine Ybg ?_|refine Yc5 ?_|refine Ybm ?_|refine Yed ?_))
  refine Za6 (fun w' => Rd w' (bytes _ _)) rfl rfl (Z2n hS.has) (fun _ h => Zct rfl rfl h hd32) rfl rfl ?_
  repeat (first|(refine Zae ?_;first|refine Yas ?_))
  refine Zaa _ rfl rfl rfl rfl rfl (Zyy n (by omega) _ (hG.at_ hS)) ?_
  rintro _ w ⟨rfl,hS'⟩
  replace hS := hS.plus hS'
  clear hS'
  repeat (first|(refine Zae ?_;first|refine Yas ?_)|(refine Zac ?_;first|refine Ycm ?_))
  refine Zaa _ rfl rfl rfl rfl rfl (Zw3 y.s _) ?_
  rintro _ w ⟨u1,v1,Y1,rfl,hMa,hS'⟩
  replace hS := hS.plus hS'
  clear hS'
  repeat (first|(refine Zae ?_;first|refine Yas ?_)|(refine Zac ?_;first|refine Ycm ?_))
  refine Zaa _ rfl rfl rfl rfl rfl (Zw3 d _) ?_
  rintro _ w ⟨u2,v2,Y2,rfl,hMb,hS'⟩
  replace hS := hS.plus hS'
  clear hS'
  repeat (first|refine Ybd (fun _ _ hS _ => ?_)|(refine Zae ?_;first|refine Yas ?_)|(refine Zac ?_;first|refine Ycm ?_))
  rename_i pq _ _
  have hMs : Mrds (RoR _ noF) [txM y.s,txM d] [[.int .i64 1,.int .i64 0,.slice u1 y.s.length v1,.slice none 0 0],[.int .i64 1,.int .i64 0,.slice u2 d.length v2,.slice none 0 0]] :=
   (Mrds.nil.snoc (hMa.mono fun _ _ h => (h.rd (hS.rd (r := bag Y1) (by simp))).ro)).snoc (hMb.mono fun _ _ h => (h.rd (hS.rd (r := bag Y2) (by simp))).ro)
  refine Zaa _ rfl rfl rfl rfl rfl (of_M (some ⟨pq,0,none⟩) [txM y.s,txM d] 2 [[.int .i64 1,.int .i64 0,.slice u1 y.s.length v1,.slice none 0 0],[.int .i64 1,.int .i64 0,.slice u2 d.length v2,.slice none 0 0]] _ (hS.rd (List.mem_cons_self ..)).own_row.ro hMs (by simp only [wMs,Zl8,List.length_nil]; omega)) ?_
  rintro _ w ⟨b3,q3,rows',Y3,rfl,hq3,hMr,hS'⟩
  replace hS := hS.plus hS'
  clear hS' hMs
  have hcp : [txM y.s,txM d].map (Zd5 8) = [txM y.s,txM d] := by
   rw [List.map_cons,List.map_cons,List.map_nil,Zor 8 _ (Zg0 8 _),Zor 8 _ (Zg0 8 _)]
  rw [hcp] at hMr
  repeat (first|(refine Zae ?_;first|refine Yas ?_)|(refine Zac ?_;first|refine Ycm ?_))
  have hS : St W F [chR c f b T (Nt (trV (Zb3 rd fs li))) X1,pts x (.cells (endX n m [.pointer (some ⟨tb,0,none⟩),.slice ra1 n rc1]).toArray 150 (0,0)),own 35 1 ra1 rc1 (L1.map Bs.val),own 38 4 b3 q3 rows'.flatten,bag Y3] _ := hS.took
  have hlen5 := Ztf hy4 hd32
  obtain ⟨F2,hcc,hr1,hw,hbk⟩ := hS.call [true]
  have hv : Mrd (RoR _ F2) (recV y.s d) [.int .i64 2,.int .i64 0,.slice none 0 0,.slice b3 2 q3] := .mk' rfl rfl (Nat.zero_le _) (Zit _ _ _) (hr1 (own 38 4 b3 q3 rows'.flatten) (by simp)).own_row hMr.1 (fun j z cs h1 h2 => (hMr.2 j z cs h1 h2).mono fun _ _ h => h.ro (hr1 (bag Y3) (by simp)))
  refine Zaa _ rfl rfl rfl rfl rfl (Z92 ht tb logN (keyD n) (recV y.s d) _ _ _ (hT.mono hw) (hG.mono hw) (hw _ htb) hv (by rw [Z6p]; omega) (Ztg (by omega) (by omega)) (by omega) hcc) ?_
  rintro _ w ⟨rfl,X2,hX2,hS⟩
  replace hS := hbk hS
  clear hbk hw hcc hr1 hv
  have hput := Zs5 (vs := Zb3 rd fs li) (v := recV y.s d) (by rw [Zcu]; omega) (Zob _ _) hlen5
  rw [Zcu,hlin] at hput
  rw [hput] at hS ⊢
  by_cases h7 : n < 7
  ·rw [if_pos h7] at hS ⊢
   have hsn : Zb3 rd fs li ++ [recV y.s d] = Zb3 rd fs (li ++ [y.s]) := by rw [Zmh,hlin,← hm,← hdg]
   rw [hsn] at hS
   repeat (first|refine Yeg ?_|refine Yaf ?_|refine Yav ?_|refine Yan ?_|refine Ybb ?_|refine Yes ?_|refine Yab ?_|(refine Zae ?_;first|refine Yfg ?_)|(refine Zac ?_;first|refine Ycm ?_))
   have hS : St W F [pts x (.cells (endX n m [.pointer (some ⟨tb,0,none⟩),.slice ra1 n rc1]).toArray 150 (0,0)),own 35 1 ra1 rc1 (L1.map Bs.val),chR c f b T (Nt (trV (Zb3 rd fs (li ++ [y.s])))) X2] _ := hS.took
   obtain ⟨_,hcc,_,hw,hbk⟩ := hS.call [true]
   refine Zaa _ rfl rfl rfl rfl rfl (Z23 x n m _ _ y.a y.c y.s rd fs _ _ hm32 (by omega) (hD.mono hw) (hw _ hb) (by omega) hcc) ?_
   rintro _ w ⟨rfl,hS⟩
   replace hS := hbk hS
   clear hbk hw hcc
   rw [← hdg] at hS ⊢
   repeat (first|refine Yac ?_|refine Yab ?_)
   refine Zan (.s 0 (.s 1 (.s 2 (.s 3 (.s 4 (.s 5 (.h 6 (.h 7 (.h 8 (.s 9 (.s 10 (.h 11 .nil .no))) .no) .no) .no))))))) mixed (by kernel_rfl) rfl ?_
   have hS := hS.drew
   repeat (first|(refine Zae ?_;first|refine Ya0 ?_|refine Ybo ?_|refine Ybg ?_|refine Ybm ?_|refine Yas ?_))
   refine Zaa _ rfl rfl rfl rfl rfl (Ze9 y.a y.s.length y.c y.s _ (hb.rd hS) rfl (by omega)) ?_
   rintro _ w ⟨a',q',rfl,_,hq',hS'⟩
   replace hS := hS.plus hS'
   clear hS'
   repeat (first|refine Ybd (fun _ _ hS _ => ?_)|(refine Zae ?_;first|refine Yas ?_)|(refine Zac ?_;first|refine Ycm ?_))
   have hnw := (hS.rd (List.mem_cons_self ..)).own_row
   refine Zap rfl rfl rfl rfl rfl hS (by rw [List.length_map,hL1,Nat.mul_one]) hrc1 hnw rfl (by simp [Value.oneCell']) (by omega) (by simp only [maxLen]; omega) (fun b' q'' w hS hq'' _ => ?_)
   repeat (first|refine Yeg ?_|refine Yel ?_|refine Yao (fun _ hS _ => ?_)|refine Yad ?_|refine Yeo ?_|(refine Zae ?_;first|refine Yaw ?_|refine Ybo ?_|refine Ybg ?_|refine Yas ?_)|(refine Zac ?_;first|refine Ycm ?_))
   have hS : St W F [own 5 1 a' q' (bv y.s),chR c f b T (Nt (trV (Zb3 rd fs (li ++ [y.s])))) X2,pts x (.cells (endX (n + 1) d [.pointer (some ⟨tb,0,none⟩),.slice b' (n + 1) q'']).toArray 150 (0,0)),own 35 1 b' q'' (L1.map Bs.val ++ [.slice a' y.s.length q'])] _ := hS.took
   have hS := (hS.toBag (a := a') (cs := bv y.s) fun _ h => own.row h).chAdd
   have hl1 : l ++ (Zam M).take (i + 1) = li ++ [y.s] := by rw [htk,← List.append_assoc,← hli]
   have hnx : Zaz rd fs (li ++ [y.s]) (n + 1) = d := by
    show digest rd fs [Zaz rd fs (li ++ [y.s]) n,be8 (n : Nat),(li ++ [y.s]).getD n []] = d
    rw [Zgw rd fs li [y.s] (by omega),← hm,hdg,← hlin]
    simp
   refine Zaf (z := (i,ra1,rc1,L1,X1)) (i + 1,b',q'',L1 ++ [⟨a',q',y.s⟩],[(a',bv y.s)] ++ X2) ⟨rfl,rfl,rfl,rfl,rfl,trivial⟩ ⟨hlt,by dsimp only; omega,fun z hz => List.mem_append_right _ (hX2 z (hX1 z hz)),?_,hB1.snoc (fun z hz => List.mem_append_right _ (hX2 z hz)) (List.mem_append_left _ (List.mem_cons_self ..)) hq',by dsimp only; omega,by rw [List.length_append,hL1,hn]; rfl,?_⟩ (by dsimp only; omega)
   ·dsimp only
    rw [hl1,← hT1]
    simp [Zam]
   ·dsimp only
    rw [hl1,show l.length + (i + 1) = n + 1 by omega,hnx,List.map_append,show List.map Bs.val [(⟨a',q',y.s⟩ : Bs)] = [Value.slice a' y.s.length q'] from rfl]
    exact hS.took
  ·rw [if_neg h7] at hS ⊢
   have hki : i = 7 - l.length := by omega
   repeat (first|refine Yeg ?_|refine Yaf ?_|refine Yag ?_|refine Ybl ?_|refine Yey ?_|refine Yfi ?_|(refine Zae ?_;first|refine Yfg ?_)|(refine Zac ?_;first|refine Ycm ?_))
   refine ⟨li,ra1,rc1,L1,X2,i,hli,by omega,by rw [if_neg (by omega)],fun z hz => hX2 z (hX1 z hz),hT1,⟨fun z hz => hX2 _ (hB1.inn z hz),hB1.cap⟩,by omega,?_⟩
   rw [hlin,← hm]
   exact hS.took
 ·have hiz : i = M.length := by omega
  repeat (first|refine Yeg ?_|refine Yaf ?_|refine Yag ?_|refine Yau ?_|refine Yaz ?_|refine Yep ?_|refine Yab ?_|refine Ya5 ?_|refine Ya6 ?_|refine Ybp ?_)
  subst hiz
  refine ⟨li,ra1,rc1,L1,X1,M.length,hli,by omega,by rw [if_pos (by omega)],hX1,hT1,hB1,by omega,?_⟩
  rw [hlin,← hm]
  exact hS
end
section
variable {c f tp : Nat} {b : Int} {T : Int → Option Nd} {X : List RowD}
theorem Z48 (rd fs : List Int) (l : List (List UInt8)) (hl7 : l.length ≤ 7) (h4 : ∀ s ∈ l,s.length ≤ 400) (tb : Nat) (W : World) (F : Nat → Prop) (hT : TreeRo W F f tp 10 b T) (hG : Lg W F) (hD : Gl W F rd fs) (htb : Ro W F (pts tb (tbC c logN))) (hS : St W F [chR c f b T (Nt (trV (Zb3 rd fs l))) X] W) :
  Calls Tryz.prog 69 #[.pointer (some ⟨tb,0,none⟩)] W (Ret fun v w => ∃ X',v = .tuple #[.int .i64 (l.length : Nat),.bool true] ∧ (∀ y ∈ X,y ∈ X') ∧ St W F [chR c f b T (Nt (trV (Zb3 rd fs l))) X'] w) := by
 have ht := Zhx rd fs _ l rfl hl7 h4
 refine Zab Tryz.func69 rfl Tryz.ntmps69 rfl ?_
 repeat (first|refine Yeg ?_|refine Yev ?_|refine Yeh ?_|refine Yab ?_)
 obtain ⟨_,hcc,_,hw,hbk⟩ := hS.call [true]
 refine Zaa _ rfl rfl rfl rfl rfl (Z2f ht tb logN _ _ (hT.mono hw) (hG.mono hw) (hw _ htb) hcc) ?_
 rintro _ w ⟨X1,a,q,hX1,rfl,_,hS⟩
 replace hS := hbk hS
 clear hbk hw hcc
 rw [Zp1]
 repeat (first|refine Yeg ?_|refine Yfq ?_|refine Yes ?_|refine Yab ?_)
 obtain ⟨_,hcc,_,hw,hbk⟩ := hS.call [false,true]
 refine Zaa _ rfl rfl rfl rfl rfl (Z21 rd fs l hl7 h4 tb _ _ (hT.mono hw) (hG.mono hw) (hD.mono hw) (hw _ htb) hcc) ?_
 rintro _ w ⟨x,ra,rc,L,X2,rfl,hX2,hT2,hB2,hrc,hS⟩
 replace hS := hbk hS
 clear hbk hw hcc
 repeat (first|refine Yeg ?_|(refine X_id ?_;first|refine Yaf ?_|refine Yag ?_|refine Yav ?_|refine Yan ?_|refine Ya3 ?_|refine Yap ?_)|refine Yeu ?_|refine Ye5 ?_)
 exact ⟨X2,rfl,fun y hy => hX2 y (hX1 y hy),hS.took⟩
end
theorem key7 : keyD 7 = [114,48,48,48,48,48,55] := rfl
theorem Zx3 (rd fs : List Int) (W : World) (hG : Gl W noF rd fs) (hL : Lg W noF) : Calls Tryz.prog 25 #[] W (Ret fun v w => v = .bool true ∧ St W noF [] w) := by
 have hS := St.start W
 refine Zab Tryz.func25 rfl Tryz.ntmps25 rfl ?_
 repeat (first|refine Yeg ?_|refine Yag ?_|refine Yeh ?_|refine Yab ?_)
 refine Zaa _ rfl rfl rfl rfl rfl (Z1v rd fs _ (hG.mono fun _ hr => (hr.rd hS).ro) (hL.at_ hS)) ?_
 rintro _ w ⟨lp,tp,p,f,c,tb,rfl,hS'⟩
 replace hS := hS.plus hS'
 clear hS'
 obtain ⟨F1,hS1,hro,hw1,hbk1⟩ := hS.call [true]
 have hT := Z3k (hro (pts f (.cells (List.toArray [.pointer (some ⟨tp,0,none⟩),.int .i64 0]) 107 (0,0))) (by simp)) (hro (itab rd fs tp lp p 60 2 10 40 (Zeu 10)) (by simp))
 have htb := hro (pts tb (tbC c logN)) (by simp)
 have hG1 := hG.mono fun r hr => hw1 r hr
 have hL1 := hL.mono fun r hr => hw1 r hr
 clear hS hro
 have hS : St w F1 [chR c f 0 (atT (Zeu 10)) (Nt (trV (Zb3 rd fs []))) []] w := hS1
 clear hS1
 repeat (first|refine Yeg ?_|refine Yfk ?_|refine Yeh ?_|refine Yab ?_)
 obtain ⟨_,hcc,_,hw,hbk⟩ := hS.call [true]
 refine Zaa _ rfl rfl rfl rfl rfl (Z83 rd fs [] (by simp) (by simp) tb _ _ (hT.mono hw) (hL1.mono hw) (hG1.mono hw) (hw _ htb) hcc) ?_
 rintro _ w ⟨x,ra,rc,L,X1,rfl,hX1,hTL,hBL,hrc,hS⟩
 replace hS := hbk hS
 clear hbk hw hcc
 repeat (first|refine Yex ?_|(refine X_id ?_;first|refine Yaf ?_|refine Yag ?_|refine Ya3 ?_|refine Ya9 ?_|refine Ybb ?_|refine Ybu ?_|refine Ybd (fun _ _ hS _ => ?_))|refine Yes ?_|refine Yab ?_)
 rename_i p1 _ _
 refine Zcw rfl rfl rfl rfl hS (by simp) (fun w hS => ?_)
 repeat (first|refine Yaa ?_|refine Ybd (fun _ _ hS _ => ?_))
 rename_i p2 _ _
 refine Zcw rfl rfl rfl rfl hS (by simp) (fun w hS => ?_)
 repeat (first|refine Yaa ?_|refine Ybd (fun _ _ hS _ => ?_))
 rename_i p3 _ _
 have hS := hS.pick [3,3,3,0,1,0]
 change St _ F1 [pts x (chnC 0 (Zaz rd fs [] 0) tb ra rc),own 35 1 ra rc (L.map Bs.val),chR c f 0 (atT (Zeu 10)) (Nt (trV (Zb3 rd fs []))) X1,own 35 1 (some ⟨p3,0,none⟩) 2 [.slice (some ⟨p1,0,none⟩) 1 1,.slice (some ⟨p2,0,none⟩) 1 1],row (some ⟨p1,0,none⟩) (bv [97]),row (some ⟨p2,0,none⟩) (bv [98])] _ at hS
 obtain ⟨_,hcc,hr1,hw,hbk⟩ := hS.call [true,true,true]
 have hB : Bss _ _ (some ⟨p3,0,none⟩) [⟨some ⟨p1,0,none⟩,1,[97]⟩,⟨some ⟨p2,0,none⟩,1,[98]⟩] := ⟨(hr1 (own 35 1 (some ⟨p3,0,none⟩) 2 [.slice (some ⟨p1,0,none⟩) 1 1,.slice (some ⟨p2,0,none⟩) 1 1]) (by simp)).own_row,fun y hy => by
  simp only [List.mem_cons,List.not_mem_nil,or_false] at hy
  rcases hy with rfl | rfl
  ·exact hr1 (row (some ⟨p1,0,none⟩) (bv [97])) (by simp)
  ·exact hr1 (row (some ⟨p2,0,none⟩) (bv [98])) (by simp)⟩
 refine Zaa _ rfl rfl rfl rfl rfl (Qbn rd fs [] (by simp) (by simp) tb x ra rc L _ _ 2 _ _ (hT.mono hw) (hL1.mono hw) (hG1.mono hw) (hw _ htb) hB (by simp) (by simp) hTL hBL hrc hcc) ?_
 rintro _ w ⟨l',ra',rc',L',X2,k,hl',hk,rfl,hX2,hTL',hBL',hrc',hS⟩
 replace hS := hbk hS
 clear hbk hw hcc hr1 hB
 obtain rfl : k = 2 := hk
 obtain rfl : l' = [[97],[98]] := hl'
 rw [if_pos (by simp)]
 repeat (first|refine Yeg ?_|refine Yfk ?_|refine Yeh ?_|refine Yab ?_)
 obtain ⟨_,hcc,_,hw,hbk⟩ := hS.call [false,false,true]
 refine Zaa _ rfl rfl rfl rfl rfl (Z48 rd fs [[97],[98]] (by decide) (by simp) tb _ _ (hT.mono hw) (hL1.mono hw) (hG1.mono hw) (hw _ htb) hcc) ?_
 rintro _ w ⟨X3,rfl,_,hS⟩
 replace hS := hbk hS
 clear hbk hw hcc
 repeat (first|refine Yeg ?_|refine Yfk ?_|refine Yeh ?_|refine Yab ?_)
 refine Zaa _ rfl rfl rfl rfl rfl (Zyy 7 (by decide) _ (hL1.at_ hS)) ?_
 rintro _ w ⟨rfl,hS'⟩
 replace hS := hS.plus hS'
 clear hS'
 rw [key7]
 repeat (first|refine Yex ?_|(refine X_id ?_;first|refine Yaf ?_|refine Yag ?_|refine Ybe ?_|refine Ybh ?_|refine Yc0 ?_|refine X_yl (Zfm rfl rfl rfl) rfl rfl ?_)|refine Yah ?_|refine Yei ?_)
 exact ⟨rfl,(hbk1 hS).drops⟩
end Cr
namespace Cr
open Go Go.Proofs
set_option maxRecDepth 100000
set_option maxHeartbeats 64000000

theorem BsIn.bss {L : List Bs} {X : List RowD} {W : World} {F : Nat → Prop} {a : Option Addr} {c : Nat} (h : BsIn L X) (h1 : Ro W F (own 35 1 a c (L.map Bs.val))) (h2 : Ro W F (bag X)) : Bss W F a L := ⟨h1.own_row,fun x hx => h2.bag (h.inn x hx)⟩
theorem Zwb {l : List (List UInt8)} {L : List Bs} (hT : Zam L = cutL (l.take 6)) : L.length ≤ 6 ∧ ∀ x ∈ L,x.s.length ≤ 420 := by
 refine ⟨?_,fun x hx => ?_⟩
 ·have := congrArg List.length hT
  simp [Zam,cutL] at this; omega
 ·have : x.s ∈ Zam L := List.mem_map.2 ⟨x,hx,rfl⟩
  rw [hT] at this
  obtain ⟨s,_,e⟩ := List.mem_map.1 this
  rw [← e]
  exact Zsh s
theorem Rd.cellsC {w : World} {b off o' i n : Nat} {cs seg : List Value} (H : Rd w (row (some ⟨b,off,none⟩) cs)) (hi : o' = off + i) (h : (cs.drop i).take n = seg) (hn : seg.length = n) : Zes w ⟨b,o',none⟩ n seg := by
 subst hi; subst h
 exact ⟨H.seg _ _,hn⟩
theorem Zvr (rd fs : List Int) (l : List (List UInt8)) {n i : Nat} (h : i < n) : ((Zg6 rd fs l n).drop (i * 32)).take 32 = bv (Zaz rd fs l (i + 1)) :=
 Zcr (f := fun i => bv (Zaz rd fs l (i + 1))) (fun i _ => by rw [Zag,Zbi]) (by simp [h])
end Cr
namespace Cr
open Go Go.Proofs
set_option maxRecDepth 100000
set_option maxHeartbeats 64000000
attribute [local irreducible] Calls

theorem chainMarks_ (a1 : Option Addr) (c1 : Nat) (l1 : List Bs) (ah : List UInt8) (hah : ah.length = 32) (no : Int) (W : World) (hG : Gl W noF roundL firstL) (hL : Lg W noF) (hB1 : Bss W noF a1 l1) (hk1 : ∀ x ∈ l1,x.s.length ≤ x.c) :
  Calls Tryz.prog 4 #[.slice a1 l1.length c1,.agg (bv ah).toArray,.int .i64 no] W (Ret fun v w => v = .bool true ∧ St W noF [] w) := by
 have hS := St.start W
 have ha32 : LenO (bv ah) 32 := ⟨by rw [Zag]; exact hah⟩
 have hl72 : LenO (ints .i64 (Zc7 310)) 72 := ⟨by rw [ints_length]; exact Zbw 310⟩
 have hd0 : (Zb0 roundL firstL Zcb).length = 32 := Zbq _ _ _
 have hd32 : LenO (bv (Zb0 roundL firstL Zcb)) 32 := ⟨by rw [Zag]; exact hd0⟩
 refine Zab Tryz.func4 rfl Tryz.ntmps4 rfl ?_
 repeat (first|refine Yeg ?_|refine Yev ?_|refine Ya7 (fun _ _ hS _ => ?_)|refine Yeh ?_|refine Yab ?_)
 rename_i b4 _ _
 refine Zaa _ rfl rfl rfl rfl rfl (Z8v a1 c1 l1 _ (hB1.mono fun r hr => (hr.rd hS).ro) hk1) ?_
 rintro _ w ⟨b1,d1,L,X,rfl,hT1,hX1,hd1,hS'⟩
 replace hS := hS.plus hS'
 clear hS'
 obtain ⟨hL6,hL4⟩ := Zwb hT1
 repeat (first|refine Yeg ?_|refine Yag ?_|refine Yeh ?_|refine Yab ?_)
 refine Zaa _ rfl rfl rfl rfl rfl (Qa5 _) ?_
 rintro _ w ⟨rfl,hS'⟩
 replace hS := hS.plus hS'
 clear hS'
 repeat (first|refine Yeg ?_|refine Ybf ?_|refine Yao (fun _ hS _ => ?_)|refine Yar (fun _ _ hS _ => ?_)|refine Yeh ?_|refine Yab ?_)
 rename_i b8 _ _ _ _ _
 refine Zaa _ rfl rfl rfl rfl rfl (Z32 _) ?_
 rintro _ w ⟨rfl,hS'⟩
 replace hS := hS.plus hS'
 clear hS'
 repeat (first|refine Yeg ?_|refine Yaf ?_|refine Yao (fun _ hS _ => ?_)|refine Yar (fun _ _ hS _ => ?_)|refine Yeh ?_|refine Yab ?_)
 rename_i b9 _ _ _ _ _
 refine Zaa _ rfl rfl rfl rfl rfl (Z8c b1 d1 L roundL firstL _ (hG.mono fun r hr => (hr.rd hS).ro) (hX1.bss (hS.rd (r := own 35 1 b1 d1 (L.map Bs.val)) (by simp)).ro (hS.rd (r := bag X) (by simp)).ro) (by omega) (fun x hx => by have := hL4 x hx; omega)) ?_
 rintro _ w ⟨e1,f1,rfl,hf1,hS'⟩
 replace hS := hS.plus hS'
 clear hS'
 repeat (first|refine Yeg ?_|refine Yag ?_|refine Yae ?_|refine Yab ?_)
 refine Zan (.s 1 (.h 0 (.s 2 (.s 3 (.s 4 (.s 5 (.s 6 (.s 7 (.s 8 (.s 9 (.s 10 (.s 11 (.s 13 (.h 12 (.h 14 (.s 15 (.s 16 .nil)) .no) .no)))))))))))) .no)) mixed (by kernel_rfl) rfl ?_
 have hS := hS.drew
 repeat (first|(refine Zae ?_;first|refine Ybx ?_|refine Yas ?_))
 refine Zaa _ rfl rfl rfl rfl rfl (Z2g roundL firstL _ (hG.mono fun r hr => (hr.rd hS).ro)) ?_
 rintro _ w ⟨rfl,hS'⟩
 replace hS := hS.plus hS'
 clear hS'
 repeat (first|(refine Zac ?_;first|refine Yc6 ?_))
 refine Zak rfl rfl (fun _ => Zfl rfl rfl rfl hd0 hd0) rfl rfl ?_
 rw [decide_eq_false (fun h => h rfl)]
 repeat (first|(refine Zae ?_;first|refine Ya0 ?_|refine Ycc ?_|refine Yca ?_|refine Ydo ?_|refine Zcg rfl rfl rfl rfl (fun _ => Zkg rfl rfl rfl (by omega)) rfl rfl ?_|refine Ycv ?_))
 refine Zaa _ rfl rfl rfl rfl rfl (Z88 no _ (hL.at_ hS)) ?_
 rintro _ w ⟨rfl,hS'⟩
 replace hS := hS.plus hS'
 clear hS'
 repeat (first|(refine Zae ?_;first|refine Ycv ?_)|(refine Zac ?_;first|refine Yc6 ?_))
 refine Zaa _ rfl rfl rfl rfl rfl (Z6n no _) ?_
 rintro _ w ⟨rfl,hS'⟩
 replace hS := hS.plus hS'
 clear hS'
 repeat (first|refine Yab ?_|(refine Zae ?_;first|refine Yaw ?_|refine Ycc ?_|refine Zcg rfl rfl rfl rfl (fun _ => Zzc rfl rfl rfl) rfl rfl ?_)|(refine Zac ?_;first|refine Yc6 ?_))
 rw [decide_eq_false (show ¬ ¬ keyI no = keyI no from fun h => h rfl)]
 repeat (first|refine Yeg ?_|refine Yag ?_|refine Ye9 ?_|refine Yab ?_)
 refine Zbk (α := Unit) (fun _ => [(2,.int .i64 no),(4,.pointer (some ⟨b4,0,none⟩)),(7,.slice b1 L.length d1),(8,.pointer (some ⟨b8,0,none⟩)),(9,.pointer (some ⟨b9,0,none⟩)),(10,.slice e1 L.length f1)]) (fun _ w' => St W noF [pts b9 (.cells (bv (Zaz roundL firstL (Zam L) L.length)).toArray 56),own 56 32 e1 f1 (Zg6 roundL firstL (Zam L) L.length),pts b8 (.cells (ints .i64 (Zc7 310)).toArray 61),own 35 1 b1 d1 (L.map Bs.val),bag X,pts b4 (.cells (bv ah).toArray 56)] w') ?_ ?_
 ·refine Zaj (α := Nat) (fun z => [(2,.int .i64 no),(4,.pointer (some ⟨b4,0,none⟩)),(7,.slice b1 L.length d1),(8,.pointer (some ⟨b8,0,none⟩)),(9,.pointer (some ⟨b9,0,none⟩)),(10,.slice e1 L.length f1),(11,.int .i64 (z : Nat))])
   (fun z w' => z ≤ L.length ∧ St W noF [pts b9 (.cells (bv (Zaz roundL firstL (Zam L) z)).toArray 56),own 56 32 e1 f1 (Zg6 roundL firstL (Zam L) L.length),pts b8 (.cells (ints .i64 (Zc7 310)).toArray 61),own 35 1 b1 d1 (L.map Bs.val),bag X,pts b4 (.cells (bv ah).toArray 56)] w') (fun z => L.length - z) 0 ⟨rfl,rfl,rfl,rfl,rfl,rfl,rfl,trivial⟩ ⟨Nat.zero_le _,hS.pick [1,0,0,0,0,0]⟩ ?_
  clear hS
  rintro i w ⟨hi,hS⟩
  obtain ⟨m,hm⟩ : ∃ m,m = Zaz roundL firstL (Zam L) i := ⟨_,rfl⟩
  have hm32 : m.length = 32 := by rw [hm]; exact Zbi _ _ _ _
  rw [← hm] at hS
  have hmL : LenO (bv m) 32 := ⟨by rw [Zag]; exact hm32⟩
  by_cases hlt : i < L.length
  ·have hx0 : L[i]? = some L[i] := List.getElem?_eq_getElem hlt
   generalize L[i] = y at hx0
   have hym := List.mem_of_getElem? hx0
   have hy4 := hL4 y hym
   have hin := hX1.inn y hym
   have hnx : Zaz roundL firstL (Zam L) (i + 1) = digest roundL firstL [m,be8 (i : Nat),y.s] := by
    show digest roundL firstL [Zaz roundL firstL (Zam L) i,be8 (i : Nat),(Zam L).getD i []] = _
    rw [← hm]
    simp [Zam,List.getD,hx0]
   have lN : (Zaz roundL firstL (Zam L) (i + 1)).length = 32 := Zbi _ _ _ _
   have hnL : LenO (bv (Zaz roundL firstL (Zam L) (i + 1))) 32 := ⟨by rw [Zag]; exact lN⟩
   have sM := Zvr roundL firstL (Zam L) hlt
   have lM : (bv (Zaz roundL firstL (Zam L) (i + 1))).length = 32 := by rw [Zag]; exact lN
   have hxi : (L.map Bs.val)[i]? = some (.slice y.a y.s.length y.c) := by simp [hx0,Bs.val]
   obtain ⟨bb,hbb⟩ := St.ownBase (hS.pick [3]) (by intro e; rw [e] at hxi; simp at hxi)
   obtain ⟨eb,heb⟩ := St.ownBase (hS.pick [1]) (by intro e; rw [e] at sM; have := congrArg List.length sM; rw [lM] at this; simp at this)
   rw [hbb,heb] at hS ⊢
   repeat (first|refine Yeg ?_|refine Yaf ?_|refine Yau ?_|refine Ya1 ?_|refine Yek ?_|refine Yab ?_)
   refine Zan (.s 0 (.s 1 (.s 2 (.s 3 (.s 4 (.s 5 (.s 6 (.h 7 (.h 8 .nil .no) .no)))))))) mixed (by kernel_rfl) rfl ?_
   have hS := hS.drew
   repeat (first|(refine Zae ?_;first|refine Ya0 ?_|refine Yb9 ?_|refine Ybx ?_))
   refine Za6 (fun w' => w'.cell? _ = some _) rfl rfl ((hS.ownRd (a := some ⟨bb,0,none⟩)).cellF (by first | omega | (dsimp only; omega)) hxi) (fun _ hc => Zav rfl rfl hc) rfl rfl ?_
   repeat (first|(refine Zae ?_;first|refine Yas ?_))
   refine Zaa _ rfl rfl rfl rfl rfl (Z2m m (i : Nat) y.a y.c y.s _ hm32 ((hS.rd (r := bag X) (by repeat (first|exact List.mem_cons_self ..|refine List.mem_cons_of_mem _ ?_))).bag hin).ro (by omega)) ?_
   rintro _ w ⟨rfl,hS'⟩
   replace hS := hS.plus hS'
   clear hS'
   rw [← hnx]
   repeat (first|refine Yb6 (fun _ hS => ?_)|refine Yae ?_|refine Yab ?_|(refine Zae ?_;first|refine Yaw ?_|refine Yas ?_)|(refine Zac ?_;first|refine Yc6 ?_))
   refine Zan (.s 0 (.s 1 (.s 2 (.s 3 (.s 4 (.s 5 .nil)))))) mixed (by kernel_rfl) rfl ?_
   have hS := hS.drew
   repeat (first|(refine Zae ?_;first|refine Ya0 ?_|refine Yb9 ?_))
   refine Za6 (fun w' => Zes w' _ _ _) rfl rfl ((hS.ownRd (a := some ⟨eb,0,none⟩)).cellsC (by first | omega | (dsimp only; omega)) sM lM) (fun _ hc => Zc3 rfl rfl hc) rfl rfl ?_
   repeat (first|(refine Zae ?_;first|refine Ybx ?_))
   refine Zak rfl rfl (fun _ => Zfl rfl rfl rfl lN lN) rfl rfl ?_
   rw [decide_eq_false (fun h => h rfl)]
   repeat (first|refine Yeg ?_|refine Yew ?_|refine Ye8 ?_|refine Yeo ?_|(refine Zae ?_;first|refine Yaw ?_))
   exact Zaf (i + 1) ⟨rfl,rfl,rfl,rfl,rfl,rfl,rfl,trivial⟩ ⟨hlt,hS⟩ (by omega)
  ·obtain rfl : i = L.length := by omega
   rw [hm] at hS
   repeat (first|refine Yeg ?_|refine Yaf ?_|refine Yau ?_|refine Yaz ?_|refine Yet ?_|refine Yem ?_)
   exact Zbj () ⟨rfl,rfl,rfl,rfl,rfl,rfl,trivial⟩ hS
 clear hS
 rintro ⟨⟩ w hS
 repeat (first|refine Yae ?_)
 refine Zan (.h 0 (.s 1 (.s 2 (.s 3 (.s 7 (.s 8 (.s 9 (.h 4 (.h 5 (.h 6 (.h 10 (.h 11 (.h 12 (.s 13 (.s 14 (.s 15 .nil))) .no) .no) .no) (.h 10 (.h 6 (.h 11 (.h 12 (.s 13 (.s 14 (.s 15 .nil))) .no) .no) (.h 11 (.h 6 (.h 12 (.s 13 (.s 14 (.s 15 .nil))) .no) .no) .no)) .no)) (.h 10 (.h 5 (.h 6 (.h 11 (.h 12 (.s 13 (.s 14 (.s 15 .nil))) .no) .no) (.h 11 (.h 6 (.h 12 (.s 13 (.s 14 (.s 15 .nil))) .no) .no) .no)) (.h 11 (.h 5 (.h 6 (.h 12 (.s 13 (.s 14 (.s 15 .nil))) .no) .no) .no) .no)) .no)) (.h 10 (.h 4 (.h 5 (.h 6 (.h 11 (.h 12 (.s 13 (.s 14 (.s 15 .nil))) .no) .no) (.h 11 (.h 6 (.h 12 (.s 13 (.s 14 (.s 15 .nil))) .no) .no) .no)) (.h 11 (.h 5 (.h 6 (.h 12 (.s 13 (.s 14 (.s 15 .nil))) .no) .no) .no) .no)) (.h 11 (.h 4 (.h 5 (.h 6 (.h 12 (.s 13 (.s 14 (.s 15 .nil))) .no) .no) .no) .no) .no)) .no)))))))) .no) mixed (by kernel_rfl) rfl ?_
 have hS := hS.drew
 repeat (first|(refine Zae ?_;first|refine Yas ?_))
 refine Zaa _ rfl rfl rfl rfl rfl (Zx3 roundL firstL _ (hG.mono fun r hr => (hr.rd hS).ro) (hL.at_ hS)) ?_
 rintro _ w ⟨rfl,hS'⟩
 replace hS := hS.plus hS'
 clear hS'
 repeat' (first|(refine Zcw rfl rfl rfl rfl hS (by simp) (fun _ hS => ?_))|refine Zer ?_ ?_|refine Ybd (fun _ _ hS _ => ?_)|(refine Zae ?_;first|refine Ya0 ?_|refine Yca ?_|refine Ycv ?_|refine Ydy ?_)|(refine Zac ?_;first|refine Yc6 ?_))
 all_goals
  refine Zaa 26 rfl rfl rfl rfl rfl (Zvs ah no _ _ [120] roundL firstL _ hah (hG.mono fun r hr => (hr.rd hS).ro) (by first | exact (hS.rd (List.mem_cons_self ..)).ro | exact (hS.rd (List.mem_cons_of_mem _ (List.mem_cons_self ..))).ro | exact (hS.rd (List.mem_cons_of_mem _ (List.mem_cons_of_mem _ (List.mem_cons_self ..)))).ro) (by decide)) ?_
  rintro _ w ⟨rfl,hS'⟩
  replace hS := hS.plus hS'
  clear hS'
 repeat' (first|(refine Zcw rfl rfl rfl rfl hS (by simp) (fun _ hS => ?_))|refine Zer ?_ ?_|refine Ybd (fun _ _ hS _ => ?_)|(refine Zae ?_;first|refine Ycv ?_)|(refine Zac ?_;first|refine Yc6 ?_))
 all_goals
  refine Zaa 24 rfl rfl rfl rfl rfl (Z2m ah no _ _ [120] _ hah (by first | exact (hS.rd (List.mem_cons_self ..)).ro | exact (hS.rd (List.mem_cons_of_mem _ (List.mem_cons_self ..))).ro | exact (hS.rd (List.mem_cons_of_mem _ (List.mem_cons_of_mem _ (List.mem_cons_self ..)))).ro) (by decide)) ?_
  rintro _ w ⟨rfl,hS'⟩
  replace hS := hS.plus hS'
  clear hS'
 repeat' (first|refine Zer ?_ ?_|(refine Zac ?_;first|refine Yc6 ?_))
 all_goals
  refine Zcg rfl rfl rfl rfl (fun _ => Zzh rfl rfl rfl (Zao _ _ _) (Zao _ _ _)) rfl rfl ?_
  rw [decide_eq_true rfl]
 repeat' (first | refine Zer ?_ ?_ | (refine C_id ?_; first | refine Zj6 ?_) | (refine E_id ?_; first | refine Zcx ?_ | refine Zhc rfl (Zbt rfl) (Ret.mk ?_)) | (refine Zae ?_; first | refine Zzu ?_ | refine Zak rfl rfl (fun _ => Zbf rfl rfl) rfl rfl ?_ | refine Zak rfl rfl (fun _ => Zip rfl rfl rfl) rfl rfl ?_))
 all_goals exact ⟨rfl,hS.drops⟩
end Cr
