/-
  Two more rules of the walk: a join behind a test (the rest is walked once),and an assertion in the middle.
  Layer 11 (chain): Start.
  bytes.Join (without a separator) and bytes.Equal.
  Layer 4 (wal): big,small,full,front,note.
  Layer 11 (chain): Mark.
  Layer 1 (block): Read.
  Layer 4 (wal): full,front,note.
  Numbers as bytes,there and back. No program is in sight.
  A segment of a row that can be read. Over any program.
  Layer 4 (wal): number,sum.
  Layer 4 (wal): sum.
  Maps with keys of an integer type or strings: made,looked up,updated. Over any program.
  Layer 4 (wal): Check.
  Layer 4 (wal): a log in memory,what it tells; steps.
  Layer 4 (wal): lay.
-/
import Derived.Test.YtfoigjehifalpaaGreatDoorCda2
import Derived.Test.YtfoigjehifalpaaGreatDoorCda4
import Derived.KernelRfl
import Derived.Test.YtfoigjehifalpaaGreatDoorCda3
import Derived.Lib.MakeNoZero
import Derived.Laws.Externs
import Derived.MapKept
namespace Cr
open Go
section
variable {P : Program} {Q : Exit → Act → World → Prop} {N : Nat} {ds : Md} {σ : Env} {w : World} {x y : Code}
theorem Zjq {F : Fence} {n : Nat} {c : Code} {Q Q' : Exit → Act → World → Prop} {a : Act} (hq : ∀ e a w,Q e a w → Q' e a w) (h : c.wpIn F n P Q a w) : c.wpIn F n P Q' a w := by
 intro b k cs hro hb hr
 obtain ⟨e,a',w',hQ,harr⟩ := h b k cs hro hb hr
 exact ⟨e,a',w',hq _ _ _ hQ,harr⟩
def Mid {α : Type} (S : α → Env) (R : α → World → Prop) (N : Nat) (ds : Md) : Act → World → Prop := fun a w => ∃ z,Fr (S z) N ds a ∧ R z w
theorem Zk2 {α : Type} (S : α → Env) (R : α → World → Prop) (h1 : C P x (Exit.then (Mid S R N ds) Q) N ds σ w) (h2 : ∀ z w,R z w → C P y Q N ds (S z) w) : C P x (Exit.then (y.wpIn (Fc ds) 0 P Q) Q) N ds σ w := ⟨fun a ha =>
 Zjq (fun e a w hh => by
  cases e with
  | normal => obtain ⟨z,hF,hR⟩ := hh; exact (h2 z w hR).run a hF
  | exit id => exact hh
  | goto l => exact hh
  | ret => exact hh
  | panic ch => exact hh
  | outgrown => exact hh) (h1.run a ha)⟩
theorem Zo4 {Q1 Q2 : Exit → Act → World → Prop} {id : Nat} (hq : ∀ e a w,Q1 e a w → Q2 e a w) : ∀ e a w,Exit.inBlock id Q1 e a w → Exit.inBlock id Q2 e a w := fun e a w h => by
 cases e with
 | exit id' =>
  by_cases he : id' = id
  ·simp only [Exit.inBlock,if_pos he] at h ⊢; exact hq _ _ _ h
  ·simp only [Exit.inBlock,if_neg he] at h ⊢; exact hq _ _ _ h
 | _ => exact hq _ _ _ h
theorem Zbt {α : Type} {id : Nat} (S : α → Env) (R : α → World → Prop) (h1 : C P x (Exit.inBlock id (Exit.then (Mid S R N ds) Q)) N ds σ w) (h2 : ∀ z w,R z w → C P y Q N ds (S z) w) : C P x (Exit.inBlock id (Exit.then (y.wpIn (Fc ds) 0 P Q) Q)) N ds σ w := ⟨fun a ha =>
 Zjq (Zo4 fun e a w hh => by
  cases e with
  | normal => obtain ⟨z,hF,hR⟩ := hh; exact (h2 z w hR).run a hF
  | exit id => exact hh
  | goto l => exact hh
  | ret => exact hh
  | panic ch => exact hh
  | outgrown => exact hh) (h1.run a ha)⟩
theorem Zbg {α : Type} {S : α → Env} {R : α → World → Prop} (z : α) (hσ : subs σ (S z)) (hR : R z w) : E (Exit.then (Mid S R N ds) Q) .normal N ds σ w := ⟨fun _ ha => ⟨z,ha.sub hσ,hR⟩⟩
theorem Rd.cellF {b off o' i : Nat} {cs : List Value} {v : Value} (H : Rd w (row (some ⟨b,off,none⟩) cs)) (hi : o' = off + i) (h : cs[i]? = some v) : w.cell? ⟨b,o',none⟩ = some v := by
 subst hi; exact H.cells i v h
end
section
variable {P : Program} {o : Oper} {σ : Env} {w : World} {t e : TypeId}
end
theorem St.ownRd {W : World} {F : Nat → Prop} {rs rest : List Res} {w : World} {a : Option Addr} {T e c : Nat} {cs : List Value} (hS : St W F rs w) [hh : HasOwn rs a T e c cs rest] : Rd w (row a cs) := ((hS.perm hh.has).rd (List.mem_cons_self ..)).own_row
/-! ### resources in another order -/
class Take1 (rs : List Res) (r : Res) (rest : outParam (List Res)) : Prop where
 perm : rs.Perm (r :: rest)
instance Take1.there (q r : Res) (rs rest : List Res) [h : Take1 rs r rest] : Take1 (q :: rs) r (q :: rest) := ⟨(List.Perm.cons q h.perm).trans (.swap ..)⟩
instance Take1.here (r : Res) (rs : List Res) : Take1 (r :: rs) r rs := ⟨.refl _⟩
class Takes (rs out : List Res) : Prop where
 took : ∀ {W F w},St W F rs w → St W F out w
instance Takes.nil (rs : List Res) : Takes rs [] := ⟨fun h => h.drops⟩
instance Takes.cons (rs rest out : List Res) (r : Res) [h : Take1 rs r rest] [h2 : Takes rest out] : Takes rs (r :: out) := ⟨fun hS => (hS.perm h.perm).under h2.took⟩
theorem St.took {W : World} {F : Nat → Prop} {rs out : List Res} {w : World} (hS : St W F rs w) [h : Takes rs out] : St W F out w := h.took hS
end Cr
namespace Cr
open Go Go.Proofs
set_option maxRecDepth 100000
set_option maxHeartbeats 8000000
attribute [local irreducible] Calls

def Zec : List UInt8 := [99,104,97,105,110]
theorem Zzo (rd fs : List Int) (W : World) (hG : Gl W noF rd fs) : Calls Tryz.prog 21 #[] W (Ret fun v w => v = .agg (bv (Zc5 rd fs Zec)).toArray ∧ St W noF [] w) := by
 have hS := St.start W
 have hcl : bv Zec = [.int .u8 99,.int .u8 104,.int .u8 97,.int .u8 105,.int .u8 110] := rfl
 refine Zab Tryz.func21 rfl Tryz.ntmps21 rfl ?_
 repeat (first|refine Yd7 ?_|refine Yar (fun _ _ hS _ => ?_)|refine Ybf (fun _ _ hS _ => ?_)|refine Yd8 ?_|refine Yab ?_)
 rename_i b0 _ _
 refine Zdt rfl rfl rfl rfl hS (by simp) (fun w hS => ?_)
 repeat (first|refine Yaa ?_|refine Ybf (fun _ _ hS _ => ?_))
 rename_i b1 w1 _
 have hB : Bss w1 noF (some ⟨b1,0,none⟩) [⟨some ⟨b0,0,none⟩,5,Zec⟩] := ⟨(show Rd w1 (row (some ⟨b1,0,none⟩) _) by simpa [Bs.val,Zec] using hS.ownRd (a := some ⟨b1,0,none⟩)).ro,fun x hx => by
  rw [List.mem_singleton] at hx
  subst hx
  exact (hS.rd (r := bytes (some ⟨b0,0,none⟩) Zec) (by simp [bytes,← hcl])).ro⟩
 have hl32 : LenO (bv (Zc5 rd fs (Zaj [⟨some ⟨b0,0,none⟩,5,Zec⟩]))) 32 := ⟨by rw [Zaf]; exact Zbx _ _ _⟩
 refine Zae _ rfl rfl rfl rfl rfl hS (dof_ _ 1 _ rd fs _ (by simp [Zaj,Zec]) (by simp) (hG.mono fun r hr => (hr.rd hS).ro) hB) ?_
 rintro _ w rfl hS
 clear hB
 repeat (first|refine Yd7 ?_|refine Yao (fun _ hS _ => ?_)|refine Yah ?_|refine Yab ?_|refine Ybv ?_)
 exact ⟨by rw [show Zaj [⟨some ⟨b0,0,none⟩,5,Zec⟩] = Zec by simp [Zaj]],hS.drops⟩
end Cr
namespace Cr
open Go Go.Proofs
set_option maxRecDepth 100000
set_option maxHeartbeats 4000000
attribute [local irreducible] Calls

theorem Zsq (a b : Option Addr) (n m c c' : Nat) (s t : List UInt8) (W : World) (ha : Rd W (bytes a s)) (hb : Rd W (bytes b t)) (hn : s.length = n) (hm : t.length = m) :
  Calls Tryz.prog 58 #[.slice a n c,.slice b m c'] W (Ret fun v w => v = .bool (decide (s = t)) ∧ W = w) := by
 refine Zab Tryz.func58 rfl Tryz.ntmps58 rfl ?_
 repeat (first|refine Yd7 ?_|refine Yel ?_|refine Yd8 ?_|refine Yab ?_)
 refine X_yl (Zcn rfl rfl ha hn) rfl rfl ?_
 repeat (first|refine Yaa ?_|refine Yaf ?_)
 refine X_yl (Zcn rfl rfl hb hm) rfl rfl ?_
 repeat (first|refine Yaa ?_)
 refine X_yl (Ze5 rfl rfl rfl) rfl rfl ?_
 repeat (first|refine Yd7 ?_|refine Yag ?_|refine Yah ?_|refine Yd9 ?_)
 exact ⟨rfl,rfl⟩

theorem Zyf (n : Nat) (w : World) (hn : n ≤ 281474976710656) : ∃ cs : Array Value,(callFunc 221 #[.int .i64 n]).run Tryz.prog w = .ok (.value (.slice (some ⟨w.heap.size,0,none⟩) n cs.size)) (w.drew.drew.alloc (.cells cs 5)) ∧ n ≤ cs.size := by
 obtain ⟨cs,hrun,hle,_⟩ := Lib.run_makeNoZero (P := Tryz.prog) (w := w) #[3] 35 5 (Und.und (P := Tryz.prog) (t := 35) (d := .slice 5)) n hn
 refine ⟨cs,?_,hle⟩
 rw [run_callFunc_extern Tryz.func221 (by kernel_rfl) (by kernel_rfl) (by kernel_rfl) (e := Extern.BytealgMakeNoZero.makeNoZero #[3] #[35]) (by kernel_rfl),hrun]
 rfl
theorem St.alloc2 {W : World} {F : Nat → Prop} {rs : List Res} {w : World} (hS : St W F rs w) (o : Obj) : St W F (pts w.heap.size o :: rs) (w.drew.drew.alloc o) := hS.drew.drew.alloc o

theorem Z5h (ab ao c : Nat) (l : List Bs) (W : World) (hB : Bss W noF (some ⟨ab,ao,none⟩) l) (h2 : 2 ≤ l.length) (hc : l.length ≤ c) (hl : l.length ≤ 1099511627776) (hn : (Zaj l).length ≤ 1099511627776) :
  Calls Tryz.prog 229 #[.slice (some ⟨ab,ao,none⟩) l.length c,.slice none 0 0] W (Ret fun v w => ∃ p,v = .slice (some ⟨p,0,none⟩) (Zaj l).length (Zaj l).length ∧ St W noF [bytes (some ⟨p,0,none⟩) (Zaj l)] w) := by
 have hS := St.start W
 refine Zab Tryz.func229 rfl Tryz.ntmps229 rfl ?_
 repeat (first|refine Yd7 ?_|(refine X_id ?_;first|refine Yaf ?_|refine Yag ?_|refine Yas ?_|refine Ybi ?_|refine Ybt ?_)|refine Yez ?_|refine Yab ?_)
 refine Zal (α := Nat) (fun i => [(0,.slice (some ⟨ab,ao,none⟩) l.length c),(1,.slice none 0 0),(5,.int .i64 ((Zaj (l.take i)).length : Nat)),(42,.slice (some ⟨ab,ao,none⟩) l.length c),(43,.int .i64 (l.length : Nat)),(44,.int .i64 (i : Nat))])
  (fun i w => i ≤ l.length ∧ St W noF [] w) (fun i => l.length - i) 0 ⟨rfl,rfl,rfl,rfl,rfl,rfl,trivial⟩ ⟨Nat.zero_le _,hS⟩ ?_
 clear hS
 rintro i w ⟨hi,hS⟩
 have hr := hB.row
 by_cases hlt : i < l.length
 ·have hx0 : l[i]? = some l[i] := List.getElem?_eq_getElem hlt
  generalize l[i] = x at hx0
  have hx : (l.map Bs.val)[i]? = some (.slice x.a x.s.length x.c) := by simp [hx0,Bs.val]
  have hj := Zc0 hx0
  have hle := Zbk l (i + 1)
  have hjl : (Zaj (l.take (i + 1))).length = (Zaj (l.take i)).length + x.s.length := by rw [hj]; simp
  rw [hjl] at hle
  clear hj
  repeat (first|refine Yd7 ?_|(refine X_id ?_;first|refine Yaf ?_|refine Yag ?_|refine Yas ?_|refine Ya1 ?_|refine Ybt ?_|refine Ybb ?_|refine Yax ?_|refine Yb1 ?_|refine Ybw ?_)|refine Yee ?_|refine Yef ?_)
  refine Zag (i + 1) ⟨rfl,rfl,by rw [hjl]; rfl,rfl,rfl,rfl,trivial⟩ ⟨by omega,hS⟩ (by omega)
 ·obtain rfl : i = l.length := by omega
  rw [List.take_length]
  repeat (first|refine Yd7 ?_|refine Yaf ?_|refine Ya3 ?_|refine Yej ?_|refine Yed ?_)
  obtain ⟨cs,hrun,hcs⟩ := Zyf (Zaj l).length w (by omega)
  refine Znu rfl rfl rfl hrun rfl rfl ?_
  replace hS := hS.alloc2 (.cells cs 5)
  generalize w.drew.drew.alloc (.cells cs 5) = w2 at hS ⊢
  generalize w.heap.size = p at hS ⊢
  clear hrun
  obtain ⟨T,hT⟩ : ∃ T,T = (Zaj l).length := ⟨_,rfl⟩
  have hjt := Zbk l
  rw [← hT] at hcs hn hjt ⊢
  repeat (first|refine Yaa ?_|refine Yaf ?_)
  refine X_yl (Zkv (l := 0) (h := T) (k := T) rfl rfl rfl rfl rfl ⟨_,_,rfl,by omega,by omega,hcs⟩ ⟨_,_,rfl,by omega,by omega,Nat.le_refl _⟩ (.inl ⟨rfl,rfl⟩)) rfl rfl ?_
  rw [sub_zero,Nat.sub_zero]
  obtain ⟨x,hx0⟩ : ∃ x,l[0]? = some x := ⟨_,List.getElem?_eq_getElem (by omega)⟩
  have hx : (l.map Bs.val)[0]? = some (.slice x.a x.s.length x.c) := by simp [hx0,Bs.val]
  have hbx := hB.all x (List.mem_of_getElem? hx0)
  have hj0 := Zc0 hx0
  simp only [List.take_zero,Nat.zero_add] at hj0
  replace hj0 : Zaj (l.take 1) = x.s := by rw [hj0]; rfl
  have hx1 := hjt 1
  rw [hj0] at hx1
  obtain ⟨c0,rfl⟩ : ∃ c0 : List Value,cs = c0.toArray := ⟨cs.toList,by simp⟩
  have hc0 : T ≤ c0.length := by simpa using hcs
  repeat (first|refine Yd7 ?_|refine Yaf ?_|refine Yag ?_|refine Ybb ?_|refine Ybw ?_|refine Yd8 ?_|refine Yab ?_)
  refine Zp3 rfl rfl rfl rfl rfl hS (hbx.rd hS) (by simp) Zcu (by omega) (fun w hS => ?_)
  rw [List.take_of_length_le (by simp; omega)] at hS
  replace hS : St W noF [pts p (.cells (bv (Zaj (l.take 1)) ++ c0.drop x.s.length).toArray 5)] w := by
   rw [hj0]; simpa [Zai] using hS
  have hmin : min x.s.length T = (Zaj (l.take 1)).length := by rw [hj0]; omega
  rw [hmin]
  have hjx : (Zaj (l.take 1)).length = x.s.length := by rw [hj0]
  clear hmin hx hx0 hbx hj0
  repeat (first|refine Yd7 ?_|refine Yel ?_|refine Yd8 ?_|refine Yab ?_)
  refine X_yl (Zaq (l := 1) (h := l.length) rfl rfl rfl rfl (.inl ⟨rfl,rfl⟩) (.inr ⟨_,_,rfl,by omega,by omega,by omega⟩)) rfl rfl ?_
  rw [show sub (some ⟨ab,ao,none⟩) 1 1 c = some ⟨ab,ao + 1,none⟩ by unfold sub; rw [if_neg (by omega)]; simp [Zbi]]
  have hr' : Ro W noF (row (some ⟨ab,ao + 1,none⟩) ((l.map Bs.val).drop 1)) := hr.mono fun h hh => by
   have := row.part (a := some ⟨ab,ao,none⟩) (cs' := (l.map Bs.val).drop 1) (i := 1) (fun j v hv => by simpa [Nat.add_comm] using hv) h hh
   simpa [adr] using this
  clear hr
  repeat (first|refine Yd7 ?_|refine Yaf ?_|refine Yas ?_|refine Yak ?_|refine Yab ?_)
  refine Zal (α := Nat) (fun i => [(1,.slice none 0 0),(8,.slice (some ⟨p,0,none⟩) T T),(9,.int .i64 ((Zaj (l.take (i + 1))).length : Nat)),(70,.slice (some ⟨ab,ao + 1,none⟩) (l.length - 1) (c - 1)),(71,.int .i64 ((l.length - 1 : Nat) : Int)),(72,.int .i64 (i : Nat))])
   (fun i w => i ≤ l.length - 1 ∧ ∃ r,r.length + (Zaj (l.take (i + 1))).length = c0.length ∧ St W noF [pts p (.cells (bv (Zaj (l.take (i + 1))) ++ r).toArray 5)] w) (fun i => l.length - 1 - i) 0 ⟨rfl,rfl,rfl,rfl,rfl,rfl,trivial⟩ ⟨Nat.zero_le _,_,by simp; omega,hS⟩ ?_
  clear hS
  rintro i w ⟨hi,r,hrl,hS⟩
  have hjt1 := hjt (i + 1)
  obtain ⟨J,hJ⟩ : ∃ J,J = Zaj (l.take (i + 1)) := ⟨_,rfl⟩
  rw [← hJ] at hS hrl hjt1 ⊢
  by_cases hlt : i < l.length - 1
  ·obtain ⟨x,hx0⟩ : ∃ x,l[i + 1]? = some x := ⟨_,List.getElem?_eq_getElem (by omega)⟩
   have hbx := hB.all x (List.mem_of_getElem? hx0)
   have hj0 := Zc0 hx0
   have hx : ((l.map Bs.val).drop 1)[i]? = some (.slice x.a x.s.length x.c) := by simp [hx0,Bs.val]
   have hx1 := hjt (i + 1 + 1)
   rw [hj0,← hJ,List.length_append] at hx1
   have hr := hr'
   repeat (first|refine Yd7 ?_|refine Ye8 ?_|refine Yeb ?_|refine Yab ?_)
   refine X_yl (Zaq (l := J.length) (h := T) rfl rfl rfl rfl (.inl ⟨rfl,rfl⟩) (.inr ⟨_,_,rfl,by omega,by omega,by omega⟩)) rfl rfl ?_
   obtain ⟨off,hoff,hof⟩ : ∃ off,sub (some ⟨p,0,none⟩) J.length 1 T = some ⟨p,off,none⟩ ∧ (off = J.length ∨ (T = J.length ∧ off = 0)) := by
    unfold sub
    by_cases e : T = J.length
    ·exact ⟨0,by rw [if_pos e],.inr ⟨e,rfl⟩⟩
    ·exact ⟨J.length,by rw [if_neg e]; simp [Zbi],.inl rfl⟩
   rw [hoff]
   repeat (first|refine Yaa ?_|refine Yaf ?_)
   refine Zp3 (news := []) rfl rfl rfl rfl rfl hS (Zmi _ _) rfl (fun _ h => by cases h) (by simp; omega) (fun w hS => ?_)
   rw [show Zai (bv J ++ r) off (([] : List Value).take (T - J.length)) = bv J ++ r by simp [Zai]] at hS
   rw [show ((min 0 (T - J.length) : Nat) : Int) = 0 by omega]
   repeat (first|refine Yd7 ?_|refine Yem ?_|refine Yad ?_|refine Yab ?_)
   rw [show (J.length : Int) + 0 = (J.length : Nat) by omega]
   refine X_yl (Zaq (l := J.length) (h := T) rfl rfl rfl rfl (.inl ⟨rfl,rfl⟩) (.inr ⟨_,_,rfl,by omega,by omega,by omega⟩)) rfl rfl ?_
   rw [hoff]
   repeat (first|refine Yaa ?_|refine Yaf ?_)
   refine Zp3 rfl rfl rfl rfl rfl hS (hbx.rd hS) (by simp) Zcu (by simp; omega) (fun w hS => ?_)
   repeat (first|refine Yd7 ?_|refine Yem ?_|refine Yad ?_|refine Yef ?_)
   refine Zag (i + 1) ⟨rfl,rfl,?_,rfl,rfl,rfl,trivial⟩ ⟨by omega,r.drop x.s.length,by rw [hj0,← hJ]; simp; omega,?_⟩ (by omega)
   ·show some _ = some _
    rw [hj0,← hJ]
    congr 2
    simp
    omega
   ·rw [hj0,← hJ,Zed]
    rcases hof with rfl | ⟨e,rfl⟩
    ·rw [List.take_of_length_le (by simp; omega)] at hS
     have : Zai (bv J ++ r) J.length (bv x.s) = bv J ++ bv x.s ++ r.drop x.s.length := by
      have := Ztk (l := bv J) (m := r) (vs := bv x.s) (k := J.length) (n := 0) (by simp)
      rw [Nat.add_zero] at this
      rw [this]; simp [Zai]
     rw [this] at hS
     exact hS
    ·have h0 : x.s = [] := List.length_eq_zero_iff.1 (by omega)
     rw [h0] at hS ⊢
     simpa [Zai,bv] using hS
  ·obtain rfl : i = l.length - 1 := by omega
   have hJj : J = Zaj l := by rw [hJ,show l.length - 1 + 1 = l.length by omega,List.take_length]
   repeat (first|refine Yd7 ?_|refine Ye1 ?_|refine Yeg ?_|refine Ye2 ?_)
   refine ⟨p,rfl,hS.head fun h hh => Zga (n := J.length) ?_ h hh⟩
   rw [← hJj]; simp
end Cr
namespace Cr
open Go Go.Proofs
set_option maxRecDepth 100000
set_option maxHeartbeats 4000000
attribute [local irreducible] Calls

/-! ### big -/
def Zzc (n : Int) (c i : Nat) : UInt8 := b8 (ishr .u64 (IntKind.u64.wrap n) (8 * (c - 1 - i)))
def Zkt (n : Int) (c : Nat) : Nat → List UInt8
 | 0 => List.replicate c 0
 | i + 1 => (Zkt n c i).set i (Zzc n c i)
theorem Zek (n : Int) (c : Nat) : ∀ i,(Zkt n c i).length = c
 | 0 => by simp [Zkt]
 | i + 1 => by simp [Zkt,Zek n c i]
def bigB (n : Int) (c : Nat) : List UInt8 := Zkt n c c
theorem Zah (n : Int) (c : Nat) : (bigB n c).length = c := Zek n c c
attribute [irreducible] bigB
theorem big_ (n : Int) (c : Nat) (W : World) (hc : c ≤ 1048576) :
  Calls Tryz.prog 193 #[.int .i64 n,.int .i64 (c : Nat)] W (Ret fun v w => ∃ p,v = .slice (some ⟨p,0,none⟩) c c ∧ St W noF [pts p (.cells (bv (bigB n c)).toArray 5)] w) := by
 have hS := St.start W
 refine Zab Tryz.func193 rfl Tryz.ntmps193 rfl ?_
 repeat (first|refine Yd7 ?_|(refine X_id ?_;first|refine Ye7 ?_|refine Zkx rfl rfl rfl (by omega) (by omega) rfl rfl hS (fun _ _ hS => ?_))|refine Yea ?_|refine Yab ?_)
 rename_i p w0
 refine Zal (α := Nat) (fun i => [(0,.int .i64 n),(1,.int .i64 (c : Nat)),(5,.slice (some ⟨p,0,none⟩) c c),(10,.int .i64 (c : Nat)),(11,.int .i64 (i : Nat))])
  (fun i w => i ≤ c ∧ St W noF [pts p (.cells (bv (Zkt n c i)).toArray 5)] w) (fun i => c - i) 0 ⟨rfl,rfl,rfl,rfl,rfl,trivial⟩ ⟨Nat.zero_le _,hS⟩ ?_
 clear hS
 rintro i w ⟨hi,hS⟩
 obtain ⟨L,hLe⟩ : ∃ L,L = Zkt n c i := ⟨_,rfl⟩
 have hL : L.length = c := by rw [hLe]; exact Zek n c i
 rw [← hLe] at hS
 by_cases hlt : i < c
 ·repeat (first|refine Yd7 ?_|(refine X_id ?_;first|refine Yaf ?_|refine Yag ?_|refine Ya1 ?_|refine Ybb ?_|refine Yax ?_|refine Yb1 ?_|refine Ycc ?_|refine Yc3 ?_|refine Ydc ?_|refine Ycx ?_|refine Zp1 rfl rfl rfl rfl hS (by omega) (fun _ hS => ?_))|refine Yeb ?_|refine Yef ?_)
  refine Zag (i + 1) ⟨rfl,rfl,rfl,rfl,rfl,trivial⟩ ⟨by omega,?_⟩ (by omega)
  simp only [Zkt,Zzc]
  rw [← hLe]
  rw [show 0 + (i : Int).toNat * 1 = i by omega,show (8 * ((c : Int) - 1 - (i : Int))).toNat = 8 * (c - 1 - i) by omega] at hS
  exact hS
 ·obtain rfl : i = c := by omega
  repeat (first|refine Yd7 ?_|refine Ye1 ?_|refine Yeg ?_|refine Ye2 ?_)
  refine ⟨p,rfl,?_⟩
  unfold bigB
  rw [← hLe]
  exact hS

/-! ### small -/
def Zmt (s : List UInt8) : Nat → Int
 | 0 => 0
 | i + 1 => ior .i64 (ishl .i64 (Zmt s i) 8) ((s.getD i 0).toNat : Int)
def Zcx (s : List UInt8) : Int := Zmt s s.length
theorem Zzq (a : Option Addr) (c : Nat) (s : List UInt8) (W : World) (hs : Rd W (bytes a s)) (hl : s.length ≤ 1048576) :
  Calls Tryz.prog 190 #[.slice a s.length c] W (Ret fun v w => v = .int .i64 (Zcx s) ∧ W = w) := by
 have hS := St.start W
 have hso := hs.ro
 refine Zab Tryz.func190 rfl Tryz.ntmps190 rfl ?_
 repeat (first|refine Yd7 ?_|refine Ye7 ?_|refine Yea ?_|refine Yab ?_)
 refine Zal (α := Nat) (fun i => [(3,.int .i64 (Zmt s i)),(6,.slice a s.length c),(7,.int .i64 (s.length : Nat)),(8,.int .i64 (i : Nat))])
  (fun i w => i ≤ s.length ∧ w = W) (fun i => s.length - i) 0 ⟨rfl,rfl,rfl,rfl,trivial⟩ ⟨Nat.zero_le _,rfl⟩ ?_
 rintro i w ⟨hi,rfl⟩
 by_cases hlt : i < s.length
 ·obtain ⟨xb,xo,rfl⟩ := hs.base (by intro e; have := Zaf s; rw [e] at this; simp at this; omega)
  have hb : Ro w noF (bytes (some ⟨xb,xo,none⟩) s) := hso
  have h256 := UInt8.toNat_lt (s.getD ((i : Int).toNat * 1) 0)
  repeat (first|refine Yd7 ?_|(refine X_id ?_;first|refine Yaf ?_|refine Yag ?_|refine Ya1 ?_|refine Ybb ?_|refine Yax ?_|refine X_yl (Zgk rfl rfl (w64 (by omega) (by omega))) rfl rfl ?_|refine X_yl (Z4k rfl rfl rfl) rfl rfl ?_|refine X_yl (Zws rfl rfl rfl (by omega)) rfl rfl ?_|refine X_yl (Zat rfl rfl ((hb.rd hS).cellB' (by omega))) rfl rfl ?_)|refine Yeb ?_|refine Yef ?_)
  refine Zag (i + 1) ⟨?_,rfl,rfl,rfl,trivial⟩ ⟨by omega,rfl⟩ (by omega)
  show some _ = some _
  simp only [Zmt]
  rw [show (i : Int).toNat * 1 = i by omega]
  rfl
 ·obtain rfl : i = s.length := by omega
  repeat (first|refine Yd7 ?_|refine Ye1 ?_|refine Yeg ?_|refine Ye2 ?_)
  exact ⟨rfl,rfl⟩
end Cr
namespace Cr
open Go Go.Proofs
set_option maxRecDepth 100000
set_option maxHeartbeats 8000000
attribute [local irreducible] Calls

theorem Zgx {w : World} {b : Nat} {t : TypeId} {s : List UInt8} (h : Rd w (pts b (.cells (bv s).toArray t (0,0)))) : Rd w (bytes (some ⟨b,0,none⟩) s) :=
 let ⟨g,hg,ha⟩ := h
 ⟨g,.inr ⟨b,0,(bv s).toArray,t,_,rfl,hg,fun i v hv => by simpa using hv⟩,ha⟩
def mkAt (no : Int) (i : Nat) : UInt8 := b8 (ishr .u64 (IntKind.u64.wrap no) (8 * i))
def mkTo (no : Int) : Nat → List UInt8
 | 0 => List.replicate 8 0
 | i + 1 => (mkTo no i).set (7 - i) (mkAt no i)
theorem Zj5 (no : Int) : ∀ i,(mkTo no i).length = 8
 | 0 => by simp [mkTo]
 | i + 1 => by simp [mkTo,Zj5 no i]
def be8 (no : Int) : List UInt8 := mkTo no 8
attribute [irreducible] be8
theorem Zvo (ah : List UInt8) (no : Int) (a : Option Addr) (c : Nat) (b : List UInt8) (rd fs : List Int) (W : World) (hah : ah.length = 32) (hG : Gl W noF rd fs) (hb : Ro W noF (bytes a b)) (hbl : b.length < 1000000000) :
  Calls Tryz.prog 26 #[.agg (bv ah).toArray,.int .i64 no,.slice a b.length c] W (Ret fun v w => v = .agg (bv (digest rd fs [ah,be8 no,b])).toArray ∧ St W noF [] w) := by
 have hS := St.start W
 have ha32 : LenO (bv ah) 32 := ⟨by rw [Zaf]; exact hah⟩
 refine Zab Tryz.func26 rfl Tryz.ntmps26 rfl ?_
 repeat (first|refine Yd7 ?_|refine Ya9 (fun _ _ hS _ => ?_)|refine Yar (fun _ _ hS _ => ?_)|refine Yd8 ?_|refine Yab ?_)
 rename_i b3 _ _ _ b6 _ _
 refine Zkx (c := 8) rfl rfl rfl (by omega) (by omega) rfl rfl hS (fun p w hS => ?_)
 repeat (first|refine Yd7 ?_|refine Ye7 ?_|refine Yea ?_|refine Yab ?_)
 refine Zal (α := Nat) (fun i => [(1,.int .i64 no),(2,.slice a b.length c),(3,.pointer (some ⟨b3,0,none⟩)),(6,.pointer (some ⟨b6,0,none⟩)),(7,.slice (some ⟨p,0,none⟩) 8 8),(11,.int .i64 8),(12,.int .i64 (i : Nat))])
  (fun i w => i ≤ 8 ∧ St W noF [pts p (.cells (bv (mkTo no i)).toArray 5),pts b6 (.cells (List.replicate 32 (Value.int .u8 0)).toArray 56),pts b3 (.cells (bv ah).toArray 56)] w) (fun i => 8 - i) 0 ⟨rfl,rfl,rfl,rfl,rfl,rfl,rfl,trivial⟩ ⟨Nat.zero_le _,hS⟩ ?_
 clear hS
 rintro i w ⟨hi,hS⟩
 obtain ⟨L,hLe⟩ : ∃ L,L = mkTo no i := ⟨_,rfl⟩
 have hL : L.length = 8 := by rw [hLe]; exact Zj5 no i
 rw [← hLe] at hS
 by_cases hlt : i < 8
 ·repeat (first|refine Yd7 ?_|(refine X_id ?_;first|refine Yaf ?_|refine Yag ?_|refine Ya1 ?_|refine Ybb ?_|refine Yax ?_|refine Yb1 ?_|refine Ycc ?_|refine Yc3 ?_|refine Ydc ?_|refine Ycx ?_|refine Zp1 rfl rfl rfl rfl hS (by omega) (fun _ hS => ?_))|refine Yeb ?_|refine Yef ?_)
  refine Zag (i + 1) ⟨rfl,rfl,rfl,rfl,rfl,rfl,rfl,trivial⟩ ⟨by omega,?_⟩ (by omega)
  simp only [mkTo,mkAt]
  rw [← hLe]
  rw [show 0 + (7 - (i : Int)).toNat * 1 = 7 - i by omega,show (8 * (i : Int)).toNat = 8 * i by omega] at hS
  exact hS
 ·obtain rfl : i = 8 := by omega
  repeat (first|refine Yd7 ?_|refine Yaf ?_|refine Ya3 ?_|refine Yc6 ?_|refine Ybf (fun _ _ hS _ => ?_)|refine Yej ?_|refine Yed ?_)
  rename_i s3 w1 _
  have e32 : ((ah.length : Nat) : Int) = 32 := by omega
  have hB : Bss w1 noF (some ⟨s3,0,none⟩) [⟨some ⟨b3,0,none⟩,32,ah⟩,⟨some ⟨p,0,none⟩,8,L⟩,⟨a,c,b⟩] := ⟨(show Rd w1 (row (some ⟨s3,0,none⟩) _) by simpa [Bs.val,hah,hL] using hS.ownRd (a := some ⟨s3,0,none⟩)).ro,fun x hx => by
   simp only [List.mem_cons,List.not_mem_nil,or_false] at hx
   rcases hx with rfl | rfl | rfl
   ·exact (Zgx (hS.rd (r := pts b3 (.cells (bv ah).toArray 56)) (by simp))).ro
   ·exact (Zgx (hS.rd (r := pts p (.cells (bv L).toArray 5)) (by simp))).ro
   ·exact (hb.rd hS).ro⟩
  have hn : (Zbq (Zar [⟨some ⟨b3,0,none⟩,32,ah⟩,⟨some ⟨p,0,none⟩,8,L⟩,⟨a,c,b⟩])).length < 1152921504606846976 := by
   simp [Zar,Zbq,Zb8,hah,hL]; omega
  have hl32 : LenO (bv (digest rd fs (Zar [⟨some ⟨b3,0,none⟩,32,ah⟩,⟨some ⟨p,0,none⟩,8,L⟩,⟨a,c,b⟩]))) 32 := ⟨by rw [Zaf]; exact Zap _ _ _⟩
  refine Zae _ rfl rfl rfl rfl rfl hS (Zne _ 3 _ rd fs _ hn (by simp) (hG.mono fun r hr => (hr.rd hS).ro) hB) ?_
  rintro _ w rfl hS
  clear hB
  repeat (first|refine Yd7 ?_|refine Yao (fun _ hS _ => ?_)|refine Yah ?_|refine Yab ?_|refine Ybv ?_)
  refine ⟨?_,hS.drops⟩
  unfold be8
  rw [← hLe]
  rfl
end Cr
namespace Cr
open Go Go.Proofs
set_option maxRecDepth 100000
set_option maxHeartbeats 4000000

theorem Zf0 {F : Fence} {n : Nat} {P : Program} {f : FuncId} {args : Array Value} {w : World} {R R' : Value → World → Prop} (h : CallsIn F n P f args w (Ret R)) (hm : ∀ v w,R v w → R' v w) : CallsIn F n P f args w (Ret R') := by
 obtain ⟨h1,h2⟩ := h
 refine ⟨h1,fun cs hr => ?_⟩
 obtain ⟨e,w3,fr,⟨v,he,hR⟩,hrest⟩ := h2 cs hr
 exact ⟨e,w3,fr,⟨v,he,hm _ _ hR⟩,hrest⟩
theorem Fr.round2 {σ : Env} {N : Nat} {tm : Array Value} (hsz : tm.size = N) (h : ∀ n v,look σ n = some v → tm[n]? = some v) (l : Nat) {a b : Nat} (x y : Value) (ha : a < N) (hb : b < N) :
  Fr ((b,y) :: (a,x) :: σ) N ⟨[],some l⟩ { tmps := (#[a,b].zip #[x,y]).foldl (fun tmps (t,v) => tmps.setIfInBounds t v) tm,defers := [] } := by
 have := ((Fr.round hsz h l).put ha x).put hb y
 simpa [Act.put] using this
theorem Zgc {T : TypeId} {e c : Nat} {a : Option Addr} {cs : List Value} : ∀ h,own T e a c cs h → row a cs h := fun h hh => by
 obtain ⟨h1,_,⟨rfl,h0⟩ | ⟨b,cells,rfl,rfl,hc,ht⟩⟩ := hh
 ·exact .inl ⟨by rw [Nat.zero_mul] at h1; exact List.length_eq_zero_iff.1 (by omega),h0⟩
 ·refine .inr ⟨b,0,cells,T,(0,0),rfl,rfl,fun i v hv => ?_⟩
  rw [← ht,List.getElem?_take] at hv
  split at hv
  ·simpa using hv
  ·cases hv
theorem Zpf {α : Type} {l : List α} {k : Nat} {x : α} (hk : k ≠ 0) (hx : l[k - 1]? = some x) : l.drop (k - 1) = x :: l.drop k := by
 obtain ⟨h,rfl⟩ := List.getElem?_eq_some_iff.1 hx
 have := List.drop_eq_getElem_cons h
 rwa [show k - 1 + 1 = k by omega] at this
theorem Zv8 {α : Type} {l : List α} {k : Nat} {x : α} {f : α → Bool} (hk : k ≠ 0) (hx : l[k - 1]? = some x) (hf : (l.drop k).reverse.find? f = none) (h : f x = false) : (l.drop (k - 1)).reverse.find? f = none := by
 rw [Zpf hk hx,List.reverse_cons,List.find?_append,hf]
 simp [h]
theorem Zv9 {α : Type} {l : List α} {k : Nat} {x : α} {f : α → Bool} (hk : k ≠ 0) (hx : l[k - 1]? = some x) (hf : (l.drop k).reverse.find? f = none) (h : f x = true) : l.reverse.find? f = some x := by
 have e : l = l.take (k - 1) ++ (x :: l.drop k) := by rw [← Zpf hk hx]; simp
 rw [e,List.reverse_append,List.reverse_cons,List.find?_append,List.find?_append,hf]
 simp [h]
theorem Rd.slide {w : World} {b o : Nat} {cs : List Value} (H : Rd w (row (some ⟨b,o,none⟩) cs)) (k n : Nat) : Rd w (row (some ⟨b,o + k,none⟩) ((cs.drop k).take n)) :=
 H.mono fun h hr => by
  rcases hr with ⟨rfl,h0⟩ | ⟨b',off,cells,T,fz,hb,rfl,hc⟩
  ·exact ⟨h,.inl ⟨by simp,h0⟩,fun _ _ e => e⟩
  ·obtain ⟨rfl,rfl⟩ : b = b' ∧ o = off := by simpa using hb
   refine ⟨_,.inr ⟨b,o + k,cells,T,fz,rfl,rfl,fun i v hv => ?_⟩,fun _ _ e => e⟩
   rw [List.getElem?_take] at hv
   split at hv
   ·rw [List.getElem?_drop] at hv
    have := hc _ _ hv
    rwa [Nat.add_assoc]
   ·cases hv
theorem Zve (p : Nat) (D : DiskM) (no : Int) (W : World) (hd : Rd W (disk p D)) (hline : D.line.length < 1073741824) :
  Calls Tryz.prog 127 #[.pointer (some ⟨p,0,none⟩),.int .i64 no] W (Ret fun v w => ∃ a c,v = .tuple #[.slice a (D.read no).2.length c,.int .i64 (D.read no).1] ∧ (D.read no).2.length ≤ c ∧ St W noF [bytes a (D.read no).2] w) := by
 have hS := St.start W
 obtain ⟨hok,al,cl,ai,ci,c1,c2,hcd,hrl,hri⟩ := hd.disk
 have hdo := hd.ro
 cases hoff : D.off
 ·cases hin : Zdf D no
  ·refine Zab Tryz.func127 rfl Tryz.ntmps127 rfl ?_
   repeat (first|refine Yd7 ?_|(refine X_id ?_;first|(refine Zaa 76 rfl rfl rfl rfl rfl (on_b p D _ hoff _ (hdo.rd hS)) ?_;rintro _ _ ⟨rfl,rfl⟩)|(refine Zaa 187 rfl rfl rfl rfl rfl (Z3n p D no _ hin _ (hdo.rd hS)) ?_;rintro _ _ ⟨rfl,rfl⟩)|refine Yaf ?_|refine Yag ?_|refine Ybc ?_|refine Ybr ?_|refine Yap ?_|refine Yao (fun _ hS _ => ?_)|refine Ya9 (fun _ _ hS _ => ?_)|refine Yar (fun _ _ hS _ => ?_))|refine Yer ?_|refine Yab ?_|refine Yaq ?_|refine Ya8 ?_|refine Yby ?_)
   rw [show D.read no = (1,[]) by simp [DiskM.read,hoff,hin]]
   exact ⟨none,0,rfl,Nat.le_refl _,hS.drops.row_none⟩
  ·refine Zab Tryz.func127 rfl Tryz.ntmps127 rfl ?_
   repeat (first|refine Yd7 ?_|(refine X_id ?_;first|(refine Zaa 76 rfl rfl rfl rfl rfl (on_b p D _ hoff _ (hdo.rd hS)) ?_;rintro _ _ ⟨rfl,rfl⟩)|(refine Zaa 187 rfl rfl rfl rfl rfl (Z3n p D no _ hin _ (hdo.rd hS)) ?_;rintro _ _ ⟨rfl,rfl⟩)|refine Yaf ?_|refine Yag ?_|refine Yat ?_|refine Yan ?_|refine Ybc ?_|refine Yap ?_|refine Ya9 (fun _ _ hS _ => ?_)|refine Yar (fun _ _ hS _ => ?_))|refine Yez ?_|refine Yef ?_)
   have hcd1 := hS.kept hcd
   repeat (first|refine Yaa ?_|refine Yb2 ?_)
   obtain ⟨_,hc,hr,hw,hbk⟩ := hS.call []
   refine Zaa _ rfl rfl rfl rfl rfl (Zra _ _ _ _) ?_
   rintro _ w ⟨bx,rfl,hS⟩
   replace hS := hbk hS.more
   clear hc hr hw hbk
   repeat (first|refine Yac ?_|refine Yak ?_|refine Yab ?_)
   rename_i b3 _ _ _ b4 _ _ _ b5 _ _ _ _
   refine Zg7 (first := []) (captured := [.pointer (some ⟨bx,0,none⟩)])
    (fun l r j w => (j = none ∧ D.line.reverse.find? (fun x => x.1 == no) = none ∧ ∃ lo,St W noF [pts l lo,pts r (.deferred (some [])),pts bx (.cells #[.slice ai D.line.length ci] 160),pts b5 (.cells #[.int .i64 0] 31),pts b4 (.cells #[.slice none 0 0] 35),pts b3 (.cells #[.int .i64 no] 3)] w) ∨
     (j = some .ret ∧ ∃ x tb,D.line.reverse.find? (fun x => x.1 == no) = some x ∧ ∃ lo,St W noF [pts l lo,pts r (.deferred (some [])),pts tb (.cells (.int .i64 x.1 :: bv x.2).toArray 326),pts b5 (.cells #[.int .i64 0] 31),pts b4 (.cells #[.slice (some ⟨tb,1,none⟩) 64 64] 35)] w))
    rfl rfl hS ?_ ?_ ?_
   ·intro A B hA hB fn tm l r w1 htm hlook hS
    have hln : ∀ x ∈ D.line,(Value.int .i64 x.1 :: bv x.2).length = 65 := fun x hx => by simp [(hok.line64 x hx).1]
    have hll := Zdh fun x hx => (hok.line64 x hx).1
    have hW := fun (w : World) rs (h : St W noF rs w) => hri.ro.rd h
    refine Zf0 (Zjb l bx D.line.length ci ai (Za8 D.line) w1 160 (by omega) hll
     (fun k w => k ≤ D.line.length ∧ (D.line.drop k).reverse.find? (fun x => x.1 == no) = none ∧ St W noF [pts l (.loop (recd fn tm #[22,23] A B r .ready none)),pts r (.deferred (some [])),pts bx (.cells #[.slice ai D.line.length ci] 160),pts b5 (.cells #[.int .i64 0] 31),pts b4 (.cells #[.slice none 0 0] 35),pts b3 (.cells #[.int .i64 no] 3)] w)
     (fun w => ∃ x tb,D.line.reverse.find? (fun x => x.1 == no) = some x ∧ St W noF [pts l (.loop (recd fn tm #[22,23] A B r .done (some .ret))),pts r (.deferred (some [])),pts tb (.cells (.int .i64 x.1 :: bv x.2).toArray 326),pts b5 (.cells #[.int .i64 0] 31),pts b4 (.cells #[.slice (some ⟨tb,1,none⟩) 64 64] 35)] w)
     (fun k w h => h.2.2.has) (fun k w h => hW _ _ h.2.2) ?_ ⟨Nat.le_refl _,by rw [List.drop_length]; rfl,hS⟩) ?_
    ·rintro k w ⟨hkl,hf,hS⟩
     refine ⟨_,rfl,hS.has,fun hk => ?_⟩
     obtain ⟨x,hx⟩ : ∃ x,D.line[k - 1]? = some x := by
      have : k - 1 < D.line.length := by omega
      exact ⟨_,List.getElem?_eq_getElem this⟩
     have hxm := List.mem_of_getElem? hx
     have hlen : LenIs (bv x.2) 64 := ⟨by simp [(hok.line64 x hxm).1]⟩
     have hagg : ((Za8 D.line).drop ((k - 1) * 65)).take 65 = .int .i64 x.1 :: bv x.2 := Zcl hln hx
     rw [hagg]
     show RoundIn Fence.wide 0 Tryz.prog l fn ((#[22,23].zip _).foldl _ tm) A B w _
     refine Zqk (Fr.round2 htm hlook l (.int .i64 ((k - 1 : Nat) : Int)) (.agg (.int .i64 x.1 :: bv x.2).toArray) (by decide) (by decide)) ?_
     refine C_eq hA ?_
     by_cases hno : x.1 = no
     ·repeat (first|refine Yd7 ?_|refine Yao (fun _ hS _ => ?_)|refine Yar (fun _ _ hS _ => ?_)|refine Yad ?_)
      refine Zn1 hS.has (fun w hset => ?_)
      replace hS := hS.upd hset
      refine C_eq hB ?_
      repeat (first|refine Yd7 ?_|(refine X_id ?_;first|refine Yan ?_|refine Ybh ?_|refine Yc6 ?_|refine Yap ?_|refine Yao (fun _ hS _ => ?_))|refine Yeu ?_|refine Yab ?_|refine Ya8 ?_)
      refine Zrk hS.has (fun w hset => ⟨_,rfl,.inr ⟨rfl,x,_,?_,(hS.upd hset).pick [1,1,0,1,1]⟩⟩)
      exact Zv9 hk hx hf (by simpa using hno)
     ·repeat (first|refine Yd7 ?_|refine Yao (fun _ hS _ => ?_)|refine Yar (fun _ _ hS _ => ?_)|refine Yad ?_)
      refine Zn1 hS.has (fun w hset => ?_)
      replace hS := hS.upd hset
      refine C_eq hB ?_
      repeat (first|refine Yd7 ?_|refine Yan ?_|refine Ybi ?_|refine Yap ?_|refine Yez ?_|refine Yef ?_)
      refine Zkz hS.has (fun w hset => ⟨_,rfl,.inl ⟨rfl,by omega,?_,(hS.upd hset).pick [1,1,1,1,1,1]⟩⟩)
      exact Zv8 hk hx hf (by simpa using hno)
    ·rintro _ w3 (⟨_,hf,hS⟩ | ⟨x,tb,hf,hS⟩)
     ·exact ⟨_,_,by simp,hS.has,fun w4 hset => .inl ⟨rfl,by simpa using hf,_,hS.upd hset⟩⟩
     ·exact ⟨_,_,by simp,hS.has,fun w4 hset => .inr ⟨rfl,x,tb,hf,_,hS.upd hset⟩⟩
   ·intro l r w4 hJ
    rcases hJ with ⟨_,hf,lo,hS⟩ | ⟨h,_⟩
    ·repeat (first|refine Yae ?_|refine Znz rfl ?_|refine Yav ?_)
     have hin2 : 0 ≤ no ∧ no < D.laid.length := by simpa [Zdf] using hin
     have hin0 := hin2.1
     have hin1 := hin2.2
     obtain ⟨lb,lo,rfl⟩ := hrl.base (by intro e; have h := Zdi hok.laid64; rw [e] at h; simp at h; omega)
     refine Zao (.s 0 (.s 1 (.s 2 (.s 3 (.s 4 (.s 5 (.s 6 (.h 7 (.h 8 (.h 9 .nil .no) .no) .no)))))))) mixed (by kernel_rfl) rfl ?_
     have hS := hS.drew
     have hcd3 := hS.kept hcd
     repeat (first|(refine Zad ?_;first|refine Ya2 ?_|refine Ybp ?_|refine Ybe ?_|refine Yc4 ?_|refine Yb3 ?_|refine Ybm ?_|refine Yc0 ?_|refine Yau ?_))
     have hseg : ((Zbc D.laid).drop (no.toNat * 64)).take 64 = bv (D.laid.getD no.toNat []) := by
      obtain ⟨s,hs⟩ : ∃ s,D.laid[no.toNat]? = some s := ⟨_,List.getElem?_eq_getElem (by omega)⟩
      rw [List.getD_eq_getElem?_getD,hs]
      exact Zcl (fun x hx => by simp [hok.laid64 x hx]) hs
     have hrs := (hrl.ro.rd hS).slide (no.toNat * 64) 64
     rw [hseg] at hrs
     have h64 : (D.laid.getD no.toNat []).length = 64 := by rw [← Zaf,← hseg,List.length_take,List.length_drop,Zdi hok.laid64]; omega
     obtain ⟨_,hc,hr,hw,hbk⟩ := hS.call []
     refine Zaa _ rfl rfl rfl rfl rfl (Z34 _ 64 _ (D.laid.getD no.toNat []) _ hrs h64 (by omega)) ?_
     rintro _ w ⟨a',c',rfl,_,hcc,hS⟩
     replace hS := hbk hS.more
     clear hc hr hw hbk
     have hcd4 := hS.kept hcd
     refine And.intro (by repeat (first|exact trivial|refine And.intro (.inl (by decide +kernel)) ?_|refine And.intro (.inr (by first|exact hS.cell|exact Za9 hcd4)) ?_)) ?_
     repeat (first|refine Yao (fun _ hS _ => ?_)|refine Yah ?_|refine Yab ?_|(refine Zad ?_;first|refine Yaz ?_|refine Yau ?_)|(refine Zac ?_;first|refine Ya0 ?_))
     refine Ztd (.inl rfl) hS.has (fun w hset => ?_)
     replace hS := hS.upd hset
     repeat (first|refine Yby ?_)
     rw [show D.read no = (0,D.laid.getD no.toNat []) by simp only [DiskM.read,hoff,hin,DiskM.find,hf]; rfl]
     refine ⟨a',c',by rw [h64],by rw [h64]; exact hcc,(hS.pick [0]).head fun h hh => ?_⟩
     exact Zgc h hh
    ·cases h
   ·intro l r c w4 hJ
    rcases hJ with ⟨h,_⟩ | ⟨h,x,tb,hf,lo,hS⟩
    ·cases h
    ·cases h
     repeat (first|refine Yah ?_|refine Yaq ?_|refine Ya8 ?_)
     refine Ztd (.inl rfl) hS.has (fun w hset => ?_)
     replace hS := hS.upd hset
     repeat (first|refine Yby ?_)
     have hx64 : x.2.length = 64 := (hok.line64 x (by simpa using List.mem_of_find?_eq_some hf)).1
     rw [show D.read no = (0,x.2) by simp only [DiskM.read,hoff,hin,DiskM.find,hf]; rfl]
     refine ⟨some ⟨tb,1,none⟩,64,by rw [hx64],by rw [hx64]; exact Nat.le_refl _,(hS.pick [2]).head (Zqj (n := 64) ?_)⟩
     simp [← hx64,← Zaf]
 ·refine Zab Tryz.func127 rfl Tryz.ntmps127 rfl ?_
  repeat (first|refine Yd7 ?_|(refine X_id ?_;first|(refine Zaa 76 rfl rfl rfl rfl rfl (on_b p D _ hoff _ (hdo.rd hS)) ?_;rintro _ _ ⟨rfl,rfl⟩)|refine Yaf ?_|refine Yag ?_|refine Ybr ?_|refine Yao (fun _ hS _ => ?_)|refine Ya9 (fun _ _ hS _ => ?_)|refine Yar (fun _ _ hS _ => ?_))|refine Yeu ?_|refine Yab ?_|refine Yaq ?_|refine Ya8 ?_|refine Yby ?_)
  rw [show D.read no = (9,[]) by simp [DiskM.read,hoff]]
  exact ⟨none,0,rfl,Nat.le_refl _,hS.drops.row_none⟩
end Cr
namespace Cr
open Go Go.Proofs
set_option maxRecDepth 100000
set_option maxHeartbeats 4000000
attribute [local irreducible] Calls

def Zc1 (l : List UInt8) : List UInt8 := (l ++ List.replicate 64 0).take 64
theorem Zbu (l : List UInt8) : (Zc1 l).length = 64 := by simp [Zc1]
theorem Zyd {T e c : Nat} {a : Option Addr} {cs cs' : List Value} (n : Nat) (h : cs.take n = cs') : ∀ g,own T e a c cs g → row a cs' g := fun g hg => by
 have := Zgc g hg
 subst h
 rcases this with ⟨rfl,h0⟩ | ⟨b,off,cells,T',fz,hb,hp,hc⟩
 ·exact .inl ⟨by simp,h0⟩
 ·refine .inr ⟨b,off,cells,T',fz,hb,hp,fun i v hv => ?_⟩
  rw [List.getElem?_take] at hv
  split at hv
  ·exact hc i v hv
  ·cases hv
theorem Z3r (ab ao c : Nat) (l : List Bs) (W : World) (hB : Bss W noF (some ⟨ab,ao,none⟩) l) (h2 : 2 ≤ l.length) (hc : l.length ≤ c) (hl : l.length ≤ 1099511627776) (hn : (Zaj l).length ≤ 1099511627776) :
  Calls Tryz.prog 195 #[.slice (some ⟨ab,ao,none⟩) l.length c] W (Ret fun v w => ∃ p k,v = .slice (some ⟨p,0,none⟩) 64 k ∧ St W noF [bytes (some ⟨p,0,none⟩) (Zc1 (Zaj l))] w) := by
 have hS := St.start W
 refine Zab Tryz.func195 rfl Tryz.ntmps195 rfl ?_
 repeat (first|refine Yd7 ?_|refine Yel ?_|refine Yd8 ?_|refine Yab ?_)
 refine Zaa _ rfl rfl rfl rfl rfl (Z5h ab ao c l _ hB h2 hc hl hn) ?_
 rintro _ w ⟨p,rfl,hS'⟩
 replace hS := hS.plus hS'
 clear hS'
 repeat (first|refine Yaa ?_)
 refine Zlb (m := 64) rfl rfl rfl rfl rfl rfl hS (hS.rd (List.mem_cons_self ..)) (by simp) (by omega) (by omega) (by omega) (by simp only [maxLen]; omega) (fun b k w hS hk => ?_)
 repeat (first|refine Yaa ?_)
 refine X_yl (Zaq (l := 0) (h := 64) rfl rfl rfl rfl (.inr ⟨_,_,rfl,by omega,by omega,by omega⟩) (.inl ⟨rfl,rfl⟩)) rfl rfl ?_
 rw [sub_zero]
 repeat (first|refine Yd7 ?_|refine Yag ?_|refine Yah ?_|refine Yd9 ?_)
 refine ⟨b,k,rfl,(hS.pick [0]).head fun h hh => Zyd 64 ?_ h hh⟩
 unfold Zc1
 rw [Zf1,← Zed,← Zkp]
theorem Bss.ofRd {w : World} {a : Option Addr} {l : List Bs} (hr : Rd w (Cr.row a (l.map Bs.val))) (hall : ∀ x ∈ l,Rd w (bytes x.a x.s)) : Bss w noF a l := ⟨hr.ro,fun x hx => (hall x hx).ro⟩
theorem Rd.ptsB {w : World} {b : Nat} {s : List UInt8} {T : TypeId} (h : Rd w (Cr.pts b (.cells (bv s).toArray T))) : Rd w (bytes (some ⟨b,0,none⟩) s) := h.mono fun g hg => ⟨g,Zm0 g hg,fun _ _ e => e⟩

/-! ### front -/
def Zez (rd fs : List Int) (n : Int) : List UInt8 := Zc1 (bigB n 8 ++ digest rd fs [bigB n 8])
theorem Zht (rd fs : List Int) (n : Int) : (Zez rd fs n).length = 64 := Zbu _
theorem Zzy (n : Int) (rd fs : List Int) (W : World) (hG : Gl W noF rd fs) :
  Calls Tryz.prog 191 #[.int .i64 n] W (Ret fun v w => ∃ p k,v = .slice (some ⟨p,0,none⟩) 64 k ∧ St W noF [bytes (some ⟨p,0,none⟩) (Zez rd fs n)] w) := by
 have hS := St.start W
 refine Zab Tryz.func191 rfl Tryz.ntmps191 rfl ?_
 repeat (first|refine Yd7 ?_|refine Yel ?_|refine Yd8 ?_|refine Yab ?_)
 refine Zaa _ rfl rfl rfl rfl rfl (big_ n 8 _ (by omega)) ?_
 rintro _ w ⟨p,rfl,hS'⟩
 replace hS := hS.plus hS'
 clear hS'
 repeat (first|refine Yd7 ?_|refine Yel ?_|refine Ybf (fun _ _ hS _ => ?_)|refine Yd8 ?_|refine Yab ?_)
 rename_i q wq _
 have hB := Bss.ofRd (w := wq) (a := some ⟨q,0,none⟩) (l := [⟨some ⟨p,0,none⟩,8,bigB n 8⟩]) (by simpa [Bs.val,Zah] using (hS.rd (List.mem_cons_self ..)).own_row) (fun x hx => by
  simp only [List.mem_singleton] at hx
  subst hx
  exact (hS.rd (List.mem_cons_of_mem _ (List.mem_cons_self ..))).ptsB)
 have hfl : (Zbq (Zar [⟨some ⟨p,0,none⟩,8,bigB n 8⟩])).length < 1152921504606846976 := by simp [Zbq,Zar,Zb8,Zah]
 have hl32 : LenO (bv (digest rd fs (Zar [⟨some ⟨p,0,none⟩,8,bigB n 8⟩]))) 32 := ⟨by rw [Zaf]; exact Zap _ _ _⟩
 refine Zae _ rfl rfl rfl rfl rfl hS (Zne _ 1 _ rd fs _ hfl (by simp) (hG.mono fun r hr => (hr.rd hS).ro) hB) ?_
 rintro _ w rfl hS
 clear hB hfl
 repeat (first|refine Yd7 ?_|(refine X_id ?_;first|refine Yaf ?_|refine Yc6 ?_|refine Yao (fun _ hS _ => ?_)|refine Yar (fun _ _ hS _ => ?_)|refine Ybf (fun _ _ hS _ => ?_))|refine Yd8 ?_|refine Yab ?_)
 rename_i b4 _ _ _ _ _ _ b6 w6 _
 have hB := Bss.ofRd (w := w6) (a := some ⟨b6,0,none⟩) (l := [⟨some ⟨p,0,none⟩,8,bigB n 8⟩,⟨some ⟨b4,0,none⟩,32,digest rd fs [bigB n 8]⟩]) (by simpa [Bs.val,Zah,Zap] using (hS.rd (List.mem_cons_self ..)).own_row) (fun x hx => by
  simp only [List.mem_cons,List.not_mem_nil,or_false] at hx
  rcases hx with rfl | rfl
  ·exact (hS.rd (by simp)).ptsB (T := 5)
  ·exact (hS.rd (List.mem_cons_of_mem _ (List.mem_cons_self ..))).ptsB)
 refine Zaa _ rfl rfl rfl rfl rfl (Z3r b6 0 2 _ _ hB (by simp) (by simp) (by simp) (by simp [Zaj,Zah,Zap])) ?_
 rintro _ w ⟨r,k,rfl,hS'⟩
 replace hS := hS.plus hS'
 clear hS' hB
 repeat (first|refine Yd7 ?_|refine Yag ?_|refine Yah ?_|refine Yd9 ?_)
 refine ⟨r,k,rfl,?_⟩
 have := hS.pick [0]
 unfold Zez
 simpa [Zaj] using this

/-! ### note -/
def Zhn (number at_ count no : Int) (d : List UInt8) : List UInt8 := Zc1 (bigB number 8 ++ (bigB at_ 4 ++ (bigB count 4 ++ (bigB no 4 ++ d))))
theorem Zfr (number at_ count no : Int) (d : List UInt8) : (Zhn number at_ count no d).length = 64 := Zbu _
theorem Z28 (number at_ count no : Int) (d : List UInt8) (hd : d.length = 32) (W : World) :
  Calls Tryz.prog 138 #[.int .i64 number,.int .i64 at_,.int .i64 count,.int .i64 no,.agg (bv d).toArray] W (Ret fun v w => ∃ p k,v = .slice (some ⟨p,0,none⟩) 64 k ∧ St W noF [bytes (some ⟨p,0,none⟩) (Zhn number at_ count no d)] w) := by
 have hS := St.start W
 have hl32 : LenO (bv d) 32 := ⟨by rw [Zaf]; exact hd⟩
 refine Zab Tryz.func138 rfl Tryz.ntmps138 rfl ?_
 repeat (first|refine Yd7 ?_|refine Yag ?_|refine Ya9 (fun _ _ hS _ => ?_)|refine Yd8 ?_|refine Yab ?_)
 rename_i bd _ _
 refine Zao (.s 0 (.s 2 (.s 4 (.s 6 (.s 8 (.h 1 (.h 3 (.h 5 (.h 7 (.h 9 (.h 10 (.s 11 .nil) .no) .no) .no) .no) .no) .no)))))) mixed (by kernel_rfl) rfl ?_
 have hS := hS.drew
 repeat (first|(refine Zad ?_;first|refine Ya2 ?_|refine Yc4 ?_|refine Yau ?_))
 refine Zaa _ rfl rfl rfl rfl rfl (big_ number 8 _ (by omega)) ?_
 rintro _ w ⟨p1,rfl,hS'⟩
 replace hS := hS.plus hS'
 clear hS'
 repeat (first|(refine Zad ?_;first|refine Yau ?_)|(refine Zac ?_;first|refine Ya0 ?_))
 refine Zaa _ rfl rfl rfl rfl rfl (big_ at_ 4 _ (by omega)) ?_
 rintro _ w ⟨p2,rfl,hS'⟩
 replace hS := hS.plus hS'
 clear hS'
 repeat (first|(refine Zad ?_;first|refine Yau ?_)|(refine Zac ?_;first|refine Ya0 ?_))
 refine Zaa _ rfl rfl rfl rfl rfl (big_ count 4 _ (by omega)) ?_
 rintro _ w ⟨p3,rfl,hS'⟩
 replace hS := hS.plus hS'
 clear hS'
 repeat (first|(refine Zad ?_;first|refine Yau ?_)|(refine Zac ?_;first|refine Ya0 ?_))
 refine Zaa _ rfl rfl rfl rfl rfl (big_ no 4 _ (by omega)) ?_
 rintro _ w ⟨p4,rfl,hS'⟩
 replace hS := hS.plus hS'
 clear hS'
 repeat (first|refine Ybf (fun _ _ hS _ => ?_)|(refine Zad ?_;first|refine Yau ?_)|(refine Zac ?_;first|refine Ya0 ?_))
 rename_i b6 w6 _
 have hB := Bss.ofRd (w := w6) (a := some ⟨b6,0,none⟩) (l := [⟨some ⟨p1,0,none⟩,8,bigB number 8⟩,⟨some ⟨p2,0,none⟩,4,bigB at_ 4⟩,⟨some ⟨p3,0,none⟩,4,bigB count 4⟩,⟨some ⟨p4,0,none⟩,4,bigB no 4⟩,⟨some ⟨bd,0,none⟩,32,d⟩])
  (by simpa [Bs.val,Zah,hd] using (hS.rd (List.mem_cons_self ..)).own_row) (fun x hx => by
   simp only [List.mem_cons,List.not_mem_nil,or_false] at hx
   rcases hx with rfl | rfl | rfl | rfl | rfl
   ·exact (hS.rd (by simp)).ptsB (T := 5)
   ·exact (hS.rd (by simp)).ptsB (T := 5)
   ·exact (hS.rd (by simp)).ptsB (T := 5)
   ·exact (hS.rd (by simp)).ptsB (T := 5)
   ·exact (hS.rd (by simp)).ptsB (T := 56))
 refine Zaa _ rfl rfl rfl rfl rfl (Z3r b6 0 5 _ _ hB (by simp) (by simp) (by simp) (by simp [Zaj,Zah,hd])) ?_
 rintro _ w ⟨r,k,rfl,hS'⟩
 replace hS := hS.plus hS'
 clear hS' hB
 repeat (first|refine Yah ?_|refine Yd9 ?_|(refine Zad ?_;first|refine Ye6 ?_)|(refine Zac ?_;first|refine Ya0 ?_))
 refine ⟨r,k,rfl,?_⟩
 have := hS.pick [0]
 unfold Zhn
 simpa [Zaj] using this
end Cr
namespace Cr
open Go Go.Proofs
set_option maxRecDepth 10000
theorem Zyo {n : Nat} (k : Nat) (hk : k ≤ 64) : ishr .u64 (n : Int) k = ((n / 2 ^ k : Nat) : Int) := by
 unfold ishr
 rw [show IntKind.u64.bits = 64 from rfl,Nat.min_eq_left hk,Int.fdiv_eq_ediv_of_nonneg _ (Int.le_of_lt (Int.pow_pos (by omega)))]
 simp
theorem Zpo (n : Int) (c i : Nat) (hi : i < c) : ∀ j,j ≤ c → (Zkt n c j).getD i 0 = if i < j then Zzc n c i else 0
 | 0,_ => by simp [Zkt,List.getD_eq_getElem?_getD,hi]
 | j + 1,hj => by
  have ih := Zpo n c i hi j (by omega)
  rw [Zkt,List.getD_eq_getElem?_getD,List.getElem?_set]
  by_cases h : j = i
  ·rw [if_pos h,if_pos (by rw [Zek]; omega),if_pos (by omega),h]; rfl
  ·rw [if_neg h,← List.getD_eq_getElem?_getD,ih]
   by_cases h2 : i < j
   ·rw [if_pos h2,if_pos (by omega)]
   ·rw [if_neg h2,if_neg (by omega)]
theorem Zyy {l : List UInt8} (h : l.length ≤ 64) : Zc1 l = l ++ List.replicate (64 - l.length) 0 := by
 unfold Zc1
 rw [List.take_append,List.take_of_length_le h,List.take_replicate,show min (64 - l.length) 64 = 64 - l.length by omega]
end Cr
namespace Cr
open Go
theorem Rd.cellsX {w : World} {a : Option Addr} {cs seg : List Value} {i' i n : Nat} (H : Rd w (Cr.row a cs)) (hi : i' = i) (h : (cs.drop i).take n = seg) (hn : seg.length = n) : Zdm w (adr a i') n seg := by
 subst hi; subst h
 exact ⟨H.seg _ _,hn⟩
end Cr
namespace Cr
open Go Go.Proofs
set_option maxRecDepth 100000
set_option maxHeartbeats 4000000
attribute [local irreducible] Calls

/-! ### number -/
def Zih (rd fs : List Int) (b : List UInt8) : Bool := decide (0 ≤ Zcx (b.take 8)) && decide (Zcx (b.take 8) ≤ 1152921504606846976) && decide (b = Zez rd fs (Zcx (b.take 8)))
def Zbb (rd fs : List Int) (b : List UInt8) : Int × Bool := if b = List.replicate 64 0 then (0,true) else (Zcx (b.take 8),Zih rd fs b)
theorem Z1a (a : Option Addr) (c : Nat) (b : List UInt8) (rd fs : List Int) (W : World) (hG : Gl W noF rd fs) (hb : Rd W (bytes a b)) (h64 : b.length = 64) (hc : 64 ≤ c) :
  Calls Tryz.prog 128 #[.slice a 64 c] W (Ret fun v w => v = .tuple #[.int .i64 (Zbb rd fs b).1,.bool (Zbb rd fs b).2] ∧ St W noF [] w) := by
 have hS := St.start W
 have hbo := hb.ro
 obtain ⟨ab,ao,rfl⟩ := hb.base (by intro e; have := Zaf b; rw [e] at this; simp at this; omega)
 have hb8 : Rd W (bytes (some ⟨ab,ao,none⟩) (b.take 8)) := by
  have := hb.subBytes (l := 0) (h := 8) (c := c) (by omega) (by omega)
  rw [sub_zero] at this
  simpa using this
 have h8 : (b.take 8).length = 8 := by simp [h64]
 have hsm := Zzq (some ⟨ab,ao,none⟩) c (b.take 8) W hb8 (by omega)
 rw [h8] at hsm
 obtain ⟨n,hn⟩ : ∃ n,n = Zcx (b.take 8) := ⟨_,rfl⟩
 rw [← hn] at hsm
 refine Zab Tryz.func128 rfl Tryz.ntmps128 rfl ?_
 repeat (first|refine Yd7 ?_|refine Yel ?_|refine Yd8 ?_|refine Yab ?_)
 refine X_yl (Zaq (l := 0) (h := 8) rfl rfl rfl rfl (.inr ⟨_,_,rfl,by omega,by omega,by omega⟩) (.inl ⟨rfl,rfl⟩)) rfl rfl ?_
 rw [sub_zero,Nat.sub_zero,Nat.sub_zero]
 repeat (first|refine Yd7 ?_|(refine X_id ?_;first|(refine Zaa 190 rfl rfl rfl rfl rfl hsm ?_;rintro _ _ ⟨rfl,rfl⟩)|refine Ye7 ?_|refine Zkx rfl rfl rfl (by omega) (by omega) rfl rfl hS (fun _ _ hS => ?_))|refine Yd8 ?_|refine Yab ?_)
 refine Zaa _ rfl rfl rfl rfl rfl (Zsq _ _ _ _ _ _ b (List.replicate 64 0) _ (hbo.rd hS) ((hS.rd (List.mem_cons_self ..)).ptsB) h64 (by simp)) ?_
 rintro _ _ ⟨rfl,rfl⟩
 by_cases hz : b = List.replicate 64 0
 ·repeat (first|refine Yd7 ?_|refine Yag ?_|refine Yae ?_|refine Yad ?_|refine Yah ?_|refine Zxh rfl (by first|assumption|omega) ?_|refine Yab ?_|refine Yaq ?_|refine Ybo ?_)
  exact ⟨by rw [Zbb,if_pos hz],hS.drops⟩
 ·have e2 : Zbb rd fs b = (n,Zih rd fs b) := by rw [Zbb,if_neg hz,hn]
  by_cases h0 : 0 ≤ n
  ·by_cases h1 : n ≤ 1152921504606846976
   ·repeat (first|refine Yen ?_|refine Yaf ?_|refine Ybd ?_|refine Ydx ?_|refine Yb7 ?_|refine Yae ?_|refine Yad ?_|refine Yal ?_|refine Ydy ?_|refine Yab ?_)
    refine Zaa _ rfl rfl rfl rfl rfl (Zzy n rd fs _ (hG.mono fun r hr => (hr.rd hS).ro)) ?_
    rintro _ w ⟨p,k,rfl,hS'⟩
    replace hS := hS.plus hS'
    clear hS'
    repeat (first|refine Yaw ?_)
    refine Zaa _ rfl rfl rfl rfl rfl (Zsq _ _ _ _ _ _ b (Zez rd fs n) _ (hbo.rd hS) (hS.rd (List.mem_cons_self ..)) h64 (Zht ..)) ?_
    rintro _ _ ⟨rfl,rfl⟩
    repeat (first|refine Yd7 ?_|refine Yag ?_|refine Ybd ?_|refine Yah ?_|refine Yev ?_)
    refine ⟨?_,hS.drops⟩
    rw [e2]
    simp [Zih,← hn,h0,h1]
   ·repeat (first|refine Ye4 ?_|(refine X_id ?_;first|refine Yaf ?_|refine Yag ?_|refine Ybd ?_|refine Ya4 ?_|refine X_yl (Znp rfl rfl rfl (by omega)) rfl rfl ?_|refine Yb7 ?_)|refine Yae ?_|refine Yad ?_|refine Yah ?_|refine Yal ?_|refine Ydy ?_|refine Yev ?_)
    refine ⟨?_,hS.drops⟩
    rw [e2]
    simp [Zih,← hn,h1]
  ·repeat (first|refine Yeq ?_|refine Yaf ?_|refine Yag ?_|refine Ya4 ?_|refine Yb9 ?_|refine Yae ?_|refine Yad ?_|refine Yah ?_|refine Yal ?_|refine Ydy ?_|refine Yev ?_)
   refine ⟨?_,hS.drops⟩
   rw [e2]
   simp [Zih,← hn,h0]
end Cr
namespace Cr
open Go Go.Proofs
set_option maxRecDepth 100000
set_option maxHeartbeats 4000000
attribute [local irreducible] Calls

structure Wr where
 no : Int
 x : Bs
def Wr.cells (v : Wr) : List Value := [.int .i64 v.no,.slice v.x.a v.x.s.length v.x.c]
def Wr.data (v : Wr) : Int × List UInt8 := (v.no,v.x.s)
structure Wrs (W : World) (F : Nat → Prop) (a : Option Addr) (l : List Wr) : Prop where
 row : Ro W F (row a (l.flatMap Wr.cells))
 all : ∀ v ∈ l,Ro W F (bytes v.x.a v.x.s)
theorem Wrs.mono {W w : World} {F F' : Nat → Prop} {a : Option Addr} {l : List Wr} (h : Wrs W F a l) (hw : ∀ r,Ro W F r → Ro w F' r) : Wrs w F' a l := ⟨hw _ h.row,fun x hx => hw _ (h.all x hx)⟩
theorem Zn3 {l : List Wr} {i : Nat} {v : Wr} (h : l[i]? = some v) : ((l.flatMap Wr.cells).drop (i * 2)).take 2 = v.cells := Zcl (f := Wr.cells) (fun _ _ => rfl) h
theorem Z2m (l : List Wr) : (l.flatMap Wr.cells).length = l.length * 2 := Zfc (fun _ _ => rfl)
def Zf9 (number : Int) (l : List (Int × List UInt8)) : List (List UInt8) := [bigB number 8,bigB (l.length : Nat) 4] ++ l.flatMap fun v => [bigB v.1 4,v.2]
def sumB (rd fs : List Int) (number : Int) (l : List (Int × List UInt8)) : List UInt8 := digest rd fs (Zf9 number l)
theorem Zjy (rd fs : List Int) (number : Int) (l : List (Int × List UInt8)) : (sumB rd fs number l).length = 32 := Zap _ _ _
attribute [irreducible] sumB
theorem St.rdsPut {W : World} {F : Nat → Prop} {rs : List Res} {w : World} {b : Nat} {T : TypeId} {s : List UInt8} {l : List Bs} (k : Nat) (hS : St W F (pts b (.cells (bv s).toArray T) :: rds l :: rs) w) : St W F (rds (l ++ [⟨some ⟨b,0,none⟩,k,s⟩]) :: rs) w :=
 St.rdsCons (x := ⟨some ⟨b,0,none⟩,k,s⟩) (hS.head fun h hh => Zm0 h hh)
theorem Z2j (number : Int) (a : Option Addr) (c : Nat) (l : List Wr) (rd fs : List Int) (W : World) (hG : Gl W noF rd fs) (hW : Wrs W noF a l) (hl : l.length ≤ 1048576) (hn : (Zbq (Zf9 number (l.map Wr.data))).length < 1152921504606846976) :
  Calls Tryz.prog 136 #[.int .i64 number,.slice a l.length c] W (Ret fun v w => v = .agg (bv (sumB rd fs number (l.map Wr.data))).toArray ∧ St W noF [] w) := by
 have hS := St.start W
 refine Zab Tryz.func136 rfl Tryz.ntmps136 rfl ?_
 repeat (first|refine Yd7 ?_|refine Yaf ?_|refine Yar (fun _ _ hS _ => ?_)|refine Yd8 ?_|refine Yab ?_)
 rename_i b4 _ _
 refine Zaa _ rfl rfl rfl rfl rfl (big_ number 8 _ (by omega)) ?_
 rintro _ w ⟨p1,rfl,hS'⟩
 replace hS := hS.plus hS'
 clear hS'
 repeat (first|refine Yaa ?_|refine Yaf ?_|refine Yas ?_)
 refine Zaa _ rfl rfl rfl rfl rfl (big_ (l.length : Nat) 4 _ (by omega)) ?_
 rintro _ w ⟨p2,rfl,hS'⟩
 replace hS := hS.plus hS'
 clear hS'
 repeat (first|refine Yd7 ?_|refine Ye7 ?_|refine Ybf (fun _ _ hS _ => ?_)|refine Yea ?_|refine Yab ?_)
 rename_i b5 w5 _
 refine Zal (α := Nat × Option Addr × Nat × List Bs × List Bs) (fun z => [(4,.pointer (some ⟨b4,0,none⟩)),(5,.slice z.2.1 z.2.2.2.1.length z.2.2.1),(14,.slice a l.length c),(15,.int .i64 (l.length : Nat)),(16,.int .i64 (z.1 : Nat))])
  (fun z w => z.1 ≤ l.length ∧ Zar z.2.2.2.1 = [bigB number 8,bigB (l.length : Nat) 4] ++ (l.take z.1).flatMap (fun v => [bigB v.no 4,v.x.s]) ∧ z.2.2.2.1.length = 2 + 2 * z.1 ∧ z.2.2.2.1.length ≤ z.2.2.1 ∧ (∀ x ∈ z.2.2.2.1,x ∈ z.2.2.2.2 ∨ ∃ v ∈ l,x = v.x) ∧
   St W noF [own 35 1 z.2.1 z.2.2.1 (z.2.2.2.1.map Bs.val),rds z.2.2.2.2,pts b4 (.cells (List.replicate 32 (.int .u8 0)).toArray 56)] w) (fun z => l.length - z.1)
  (0,some ⟨b5,0,none⟩,2,[⟨some ⟨p1,0,none⟩,8,bigB number 8⟩,⟨some ⟨p2,0,none⟩,4,bigB (l.length : Nat) 4⟩],[⟨some ⟨p2,0,none⟩,4,bigB (l.length : Nat) 4⟩,⟨some ⟨p1,0,none⟩,8,bigB number 8⟩])
  ⟨rfl,rfl,rfl,rfl,rfl,trivial⟩ ⟨Nat.zero_le _,rfl,rfl,Nat.le_refl _,by simp,?_⟩ ?_
 ·replace hS := hS.rdsNil
  have hS := hS.pick [2,0,1,0,0]
  replace hS := hS.rdsPut 4
  have hS := hS.pick [1,0,0,0]
  replace hS := hS.rdsPut 8
  have hS := hS.pick [1,0,0]
  simpa [Bs.val,Zah] using hS
 clear hS
 rintro ⟨i,a5,c5,L,O⟩ w ⟨hi,hT,hL,hLc,hO,hS⟩
 simp only at hi hT hL hLc hO hS ⊢
 by_cases hlt : i < l.length
 ·have hx0 : l[i]? = some l[i] := List.getElem?_eq_getElem hlt
  generalize l[i] = v at hx0
  have hr := hW.row
  have hxs : ((l.flatMap Wr.cells).drop (i * 2)).take 2 = [.int .i64 v.no,.slice v.x.a v.x.s.length v.x.c] := Zn3 hx0
  obtain ⟨ab,ao,rfl⟩ := (hW.row.rd hS).base (by intro e; rw [e] at hxs; simp at hxs)
  repeat (first|refine Yd7 ?_|(refine X_id ?_;first|refine Ya1 ?_|refine Ybb ?_|refine Ybs ?_|refine Yao (fun _ hS _ => ?_)|refine Yar (fun _ _ hS _ => ?_))|refine Yeb ?_|refine Yab ?_)
  refine Zao (.s 0 (.s 1 (.s 2 (.s 4 (.s 5 (.h 3 (.h 6 (.h 7 (.s 8 .nil) .no) .no) .no)))))) mixed (by kernel_rfl) rfl ?_
  have hS := hS.drew
  repeat (first|(refine Zad ?_;first|refine Ya2 ?_|refine Ybe ?_|refine Ybm ?_|refine Yau ?_))
  refine Zaa _ rfl rfl rfl rfl rfl (big_ v.no 4 _ (by omega)) ?_
  rintro _ w ⟨p,rfl,hS'⟩
  replace hS := hS.plus hS'
  clear hS'
  repeat (first|refine Ybf (fun _ _ hS _ => ?_)|(refine Zad ?_;first|refine Yau ?_)|(refine Zac ?_;first|refine Ya0 ?_))
  refine Zas rfl rfl rfl rfl rfl hS (by simp) hLc (hS.rd (List.mem_cons_self ..)).own_row rfl (fun u hu => by
   simp only [List.mem_cons,List.not_mem_nil,or_false] at hu
   rcases hu with rfl | rfl <;> rfl) (by omega) (by simp only [maxLen]; omega) (fun a' c' w hS hc' hnil => ?_)
  repeat (first|refine Yd7 ?_|refine Yec ?_|refine Yad ?_|refine Yef ?_|(refine Zad ?_;first|refine Ye6 ?_)|(refine Zac ?_;first|refine Ya0 ?_))
  refine Zag (z := (i,a5,c5,L,O)) (i + 1,a',c',L ++ [(⟨some ⟨p,0,none⟩,4,bigB v.no 4⟩ : Bs),v.x],O ++ [(⟨some ⟨p,0,none⟩,4,bigB v.no 4⟩ : Bs)]) ⟨rfl,?_,rfl,rfl,rfl,trivial⟩ ⟨by simp only; omega,?_,by simp; omega,by simp; omega,?_,?_⟩ (by simp only; omega)
  ·show some _ = some _
   simp
  ·have hi : i < l.length := hlt
   rw [List.take_succ_eq_append_getElem hi]
   have hv : l[i] = v := by
    have := List.getElem?_eq_getElem hi
    rw [hx0] at this
    exact (Option.some.inj this).symm
   rw [hv]
   simp only [Zar,List.map_append,List.flatMap_append,List.flatMap_cons,List.flatMap_nil,List.map_cons,List.map_nil] at hT ⊢
   rw [hT]
   simp
  ·intro x hx
   simp only [List.mem_append,List.mem_cons,List.not_mem_nil,or_false] at hx ⊢
   rcases hx with hx | rfl | rfl
   ·rcases hO x hx with h | h
    ·exact .inl (.inl h)
    ·exact .inr h
   ·exact .inl (.inr rfl)
   ·exact .inr ⟨v,List.mem_of_getElem? hx0,rfl⟩
  ·skip
   have hS := hS.pick [2,3,0,2]
   replace hS := hS.rdsPut 4
   have hS := hS.pick [1,0,0]
   simpa [Bs.val,Zah] using hS
 ·obtain rfl : i = l.length := by omega
  repeat (first|refine Yd7 ?_|refine Yaf ?_|refine Ya3 ?_|refine Yej ?_|refine Yed ?_)
  have hB := Bss.ofRd (w := w) (a := a5) (l := L) ((hS.rd (List.mem_cons_self ..)).own_row) (fun x hx => by
   rcases hO x hx with h | ⟨v,hv,rfl⟩
   ·have h1 : Ro w noF (rds O) := (hS.rd (by simp)).ro
    exact (h1.rds x h).start
   ·exact (hW.all v hv).rd hS)
  have hTT : Zar L = Zf9 number (l.map Wr.data) := by
   rw [hT,List.take_length]
   simp [Zf9,Wr.data,List.flatMap_map]
  have hl32 : LenO (bv (digest rd fs (Zar L))) 32 := ⟨by rw [Zaf]; exact Zap _ _ _⟩
  refine Zae _ rfl rfl rfl rfl rfl hS (Zne _ c5 L rd fs _ (by rw [hTT]; exact hn) (by omega) (hG.mono fun r hr => (hr.rd hS).ro) hB) ?_
  rintro _ w rfl hS
  clear hB
  repeat (first|refine Yd7 ?_|refine Yao (fun _ hS _ => ?_)|refine Yah ?_|refine Yab ?_|refine Ybv ?_)
  refine ⟨?_,hS.drops⟩
  rw [hTT]
  unfold sumB
  rfl
end Cr
namespace Cr
open Go Go.MapKept
set_option maxRecDepth 10000
class Key (d : TypeDesc) {α : Type} [DecidableEq α] (mk : α → Value) : Prop where
 same : ∀ a b,Instr.sameNow d (mk a) (mk b) = some (decide (a = b))
 isKey : ∀ a,IsKey d (mk a)
 bits : ∀ a n,Instr.sameBits n (mk a) (mk a) = true
instance : Key (.int .i64) (Value.int .i64) := ⟨fun a b => by
 have : (a == b) = decide (a = b) := by by_cases h : a = b <;> simp [h]
 simp [Instr.sameNow,this],fun a => by simp [IsKey],fun a n => by cases n <;> simp [Instr.sameBits]⟩
def mapr {α : Type} (mk : α → Value) (r : Nat) (L : List (α × Value)) : Res := fun h => ∃ (es : Array MapEntry) (clock : Nat),es.toList.map (fun e => (e.key,e.val)) = L.map (fun x => (mk x.1,x.2)) ∧ pts r (.map es clock) h
section
variable {α : Type} [DecidableEq α]
def getM (k : α) : List (α × Value) → Option Value
 | [] => none
 | x :: l => if k = x.1 then some x.2 else getM k l
def setM (k : α) (v : Value) : List (α × Value) → List (α × Value)
 | [] => [(k,v)]
 | x :: l => if k = x.1 then (k,v) :: l else x :: setM k v l
theorem Zc2 {d : TypeDesc} {mk : α → Value} [hk : Key d mk] (k : α) : ∀ (L : List (α × Value)) (es : List MapEntry) (i : Nat),es.map (fun e => (e.key,e.val)) = L.map (fun x => (mk x.1,x.2)) →
  ∃ r,Instr.findNow d (mk k) es i = some r ∧ r.map (·.2) = getM k L ∧ (∀ p,r = some p → i ≤ p.1 ∧ ∃ e,es[p.1 - i]? = some e ∧ e.key = mk k ∧ (es.modify (p.1 - i) fun e => { e with key := mk k,val := p.2 }).map (fun e => (e.key,e.val)) = L.map (fun x => (mk x.1,x.2)))
 | [],[],i,_ => ⟨none,rfl,rfl,fun p h => by cases h⟩
 | [],_ :: _,_,h => by simp at h
 | _ :: _,[],_,h => by simp at h
 | x :: L,e :: es,i,h => by
  simp only [List.map_cons,List.cons.injEq,Prod.mk.injEq] at h
  obtain ⟨⟨h1,h2⟩,h3⟩ := h
  unfold Instr.findNow getM
  rw [h1,hk.same]
  by_cases hkx : k = x.1
  ·subst hkx
   refine ⟨some (i,e.val),by simp,by simp [h2],fun p hp => ?_⟩
   cases hp
   exact ⟨Nat.le_refl _,e,by simp,h1,by simp [h2,h3]⟩
  ·obtain ⟨r,g1,g2,g3⟩ := Zc2 (d := d) k L es (i + 1) h3
   refine ⟨r,by simp [hkx,g1],by rw [g2,if_neg hkx],fun p hp => ?_⟩
   obtain ⟨h4,e',h5,h6,h7⟩ := g3 p hp
   have e1 : p.1 - i = (p.1 - (i + 1)) + 1 := by omega
   refine ⟨by omega,e',by rw [e1]; simpa using h5,h6,?_⟩
   rw [e1,List.modify_succ_cons,List.map_cons,h7,h1,h2]
   rfl
variable {P : Program} {o : Oper} {σ : Env} {w : World} {x y : Operand} {t kt et : TypeId} {N : Nat} {ds : Md} {K : Env → World → Prop} {mk : α → Value} {dd : TypeDesc}
theorem Zw6 {β : Type} {d : Nat} {W : World} {F : Nat → Prop} {rs : List Res} (mk : β → Value) (ho : o.op = .makeMap t none) (hd : o.dst = some d) (hN : Nat.blt d N = true) (hS : St W F rs w)
  (hk : ∀ r w',St W F (mapr mk r [] :: rs) w' → K ((d,.map (some r)) :: σ) w') : X P o N ds σ w K := ⟨fun f ha K' Q' hK => by
 unfold Oper.wp
 have hexec : (execOp f.eval o).run P w = .ok (.value (.map (some w.heap.size))) (w.alloc (.map #[] 0)) := by
  have : (Instr.makeMap t none).run P w = .ok (.map (some w.heap.size)) (w.alloc (.map #[] 0)) := rfl
  simp [execOp,ho,this]
 rw [hexec]
 have := hK _ _ _ (ha.put (Zan hN) (.map (some w.heap.size))) (hk w.heap.size _ ((hS.alloc (.map #[] 0)).head fun h hh => ⟨#[],0,by simp,hh⟩))
 rw [← hd] at this
 exact this⟩
theorem Zh2 {r : Nat} {L : List (α × Value)} {k : α} {z : Value} {n m : Nat} (ho : o.op = .lookup t x y false) (hx : ev σ x = some (.map (some r))) (hy : ev σ y = some (mk k)) [hu : Und P t (.map kt et)] [hkt : Und P kt dd] [hK : Key dd mk] [hi : Inf P et z n m]
  (hr : Rd w (mapr mk r L)) : Yl P o σ w ((getM k L).getD z) := ⟨fun N ds f ha => by
 obtain ⟨h,⟨es,clock,hes,rfl⟩,hag⟩ := hr
 have hb : w.heap[r]? = some (.map es clock) := hag r _ (Zam _ _)
 obtain ⟨q,g1,g2,_⟩ := Zc2 (hk := hK) k L es.toList 0 hes
 obtain ⟨i,hi',hz',_⟩ := info_parts hi.inf
 have hc := run_checkKey (P := P) (w := w) hkt.und (hK.isKey k) es.isEmpty 9999
 have hf := run_findKey (P := P) (w := w) hkt.und g1
 have hg : (getObj r).run P w = .ok (.map es clock) w := by simp [getObj,Sem.run,hb]
 simp only [execOp,ho,ha.eval hx,ha.eval hy,Instr.lookup,Sem.run_bind,run_underlying hu.und,hg,hc,hf,Result.andThen_ok,Sem.run_pure]
 rw [← g2]
 cases q <;> simp [zeroValue,typeInfo,hi',hz']⟩
theorem Zhf {k : α} {v : Value} : ∀ {L : List (α × Value)},getM k L = none → setM k v L = L ++ [(k,v)]
 | [],_ => rfl
 | x :: L,h => by
  unfold getM at h
  split at h
  ·cases h
  ·rename_i hne
   simp [setM,hne,Zhf h]
theorem Zhe {k : α} {v : Value} : ∀ (L : List (α × Value)) (es : List MapEntry) (i : Nat),es.map (fun e => (e.key,e.val)) = L.map (fun x => (mk x.1,x.2)) → ∀ [Key dd mk] (j : Nat) (u : Value),Instr.findNow dd (mk k) es i = some (some (j,u)) →
  (es.modify (j - i) fun e => { e with key := mk k,val := v }).map (fun e => (e.key,e.val)) = (setM k v L).map (fun x => (mk x.1,x.2)) ∧ i ≤ j ∧ (es[j - i]?).map (·.key) = some (mk k)
 | [],[],i,_,_,j,u,h => by simp [Instr.findNow] at h
 | [],_ :: _,_,h,_,_,_,_ => by simp at h
 | _ :: _,[],_,h,_,_,_,_ => by simp at h
 | x :: L,e :: es,i,h,hK,j,u,hf => by
  simp only [List.map_cons,List.cons.injEq,Prod.mk.injEq] at h
  obtain ⟨⟨h1,h2⟩,h3⟩ := h
  unfold Instr.findNow at hf
  rw [h1,hK.same] at hf
  unfold setM
  by_cases hkx : k = x.1
  ·subst hkx
   simp at hf
   obtain ⟨rfl,_⟩ := hf
   simp [h3,h1]
  ·simp [hkx] at hf
   obtain ⟨g1,g2,g3⟩ := Zhe (v := v) L es (i + 1) h3 j u hf
   have e1 : j - i = (j - (i + 1)) + 1 := by omega
   refine ⟨?_,by omega,by rw [e1]; simpa using g3⟩
   rw [e1,List.modify_succ_cons,List.map_cons,g1,if_neg hkx,h1,h2]
   rfl
theorem Zkw {r : Nat} {L : List (α × Value)} {k : α} {v : Value} {W : World} {F : Nat → Prop} {rs : List Res} {z : Operand} (ho : o.op = .mapUpdate t x y z) (hx : ev σ x = some (.map (some r))) (hy : ev σ y = some (mk k)) (hz : ev σ z = some v) [hu : Und P t (.map kt et)] [hkt : Und P kt dd] [hK : Key dd mk]
  (hd : o.dst = none) (hS : St W F (mapr mk r L :: rs) w) (hk : ∀ w',St W F (mapr mk r (setM k v L) :: rs) w' → K σ w') : X P o N ds σ w K := ⟨fun f ha K' Q' hKK => by
 obtain ⟨h,⟨h1,h2,⟨es,clock,hes,hp⟩,hs,hdj,hun⟩,s⟩ := hS
 have hS2 : St W F (pts r (.map es clock) :: rs) w := ⟨h,⟨h1,h2,hp,hs,hdj,hun⟩,s⟩
 have hb : w.heap[r]? = some (.map es clock) := hS2.get
 obtain ⟨q,g1,g2,_⟩ := Zc2 (hk := hK) k L es.toList 0 hes
 have hc := run_checkKey (P := P) (w := w) hkt.und (hK.isKey k) false 9999
 have hf := run_findKey (P := P) (w := w) hkt.und g1
 have hg : (getObj r).run P w = .ok (.map es clock) w := by simp [getObj,Sem.run,hb]
 have hset : ∀ o',(setObj r o').run P w = .ok () { w with heap := w.heap.setIfInBounds r o' } := fun o' => run_setObj_map o' hb
 unfold Oper.wp
 have key : ∃ es' clock',(execOp f.eval o).run P w = .ok .skip { w with heap := w.heap.setIfInBounds r (.map es' clock') } ∧ es'.toList.map (fun e => (e.key,e.val)) = (setM k v L).map (fun x => (mk x.1,x.2)) := by
  cases hq : q with
  | none =>
   subst hq
   refine ⟨es.push { key := mk k,val := v,born := clock },clock + 1,?_,?_⟩
   ·simp only [execOp,ho,ha.eval hx,ha.eval hy,ha.eval hz,Instr.mapUpdate,Sem.run_bind,run_underlying hu.und,hg,hc,hf,hset,Result.andThen_ok,Sem.run_pure]
   ·rw [Zhf (by rw [← g2]; rfl)]
    simp [hes]
  | some p =>
   obtain ⟨j,u⟩ := p
   subst hq
   obtain ⟨g4,g5,g6⟩ := Zhe (v := v) L es.toList 0 hes j u g1
   simp only [Nat.sub_zero] at g4 g6
   have hek : ((es[j]?).map (·.key)).getD (mk k) = mk k := by
    rw [← Array.getElem?_toList,g6]; rfl
   refine ⟨es.modify j fun e => { e with key := mk k,val := v },clock,?_,?_⟩
   ·simp only [execOp,ho,ha.eval hx,ha.eval hy,ha.eval hz,Instr.mapUpdate,Sem.run_bind,run_underlying hu.und,hg,hc,hf,hset,Result.andThen_ok,Sem.run_pure,hek,Instr.keyThatStays,hK.bits,if_true]
   ·simpa [Array.toList_modify] using g4
 obtain ⟨es',clock',hexec,hes'⟩ := key
 rw [hexec]
 have u := Za7 (o' := .map es' clock') hb
 refine hKK _ _ _ (?_ : Fr σ N ds _) (hk _ ((hS2.set u).head fun h hh => ⟨es',clock',hes',hh⟩))
 rw [hd]; exact ha⟩
end
end Cr
namespace Cr
open Go Go.Proofs
set_option maxRecDepth 100000
set_option maxHeartbeats 4000000
attribute [local irreducible] Calls

def badW (x : Int × List UInt8) : Bool := decide (x.1 < 0) || decide (¬ (x.2.length : Int) = 64)
def Zbh (l : List (Int × List UInt8)) : Nat → Bool
 | 0 => false
 | i + 1 => Zbh l i || decide ((l.getD i (0,[])).1 ∈ (l.take i).map (·.1))
def Zca (l : List (Int × List UInt8)) : Int := if l.any badW then 1 else if Zbh l l.length then 8 else 0
def Zj1 (l : List (Int × List UInt8)) : Nat → List (Int × Value)
 | 0 => []
 | i + 1 => setM (l.getD i (0,[])).1 (.bool true) (Zj1 l i)
theorem Zkd (k k' : Int) (v : Value) : ∀ L,getM k (setM k' v L) = if k = k' then some v else getM k L
 | [] => by by_cases h : k = k' <;> simp [setM,getM,h]
 | x :: L => by
  unfold setM
  by_cases h : k' = x.1
  ·subst h
   by_cases h2 : k = x.1 <;> simp [getM,h2]
  ·rw [if_neg h]
   unfold getM
   rw [Zkd k k' v L]
   by_cases h1 : k = x.1
   ·have : ¬ k = k' := fun e => h (by rw [← e,h1])
    simp [h1,Ne.symm h]
   ·simp [h1]
theorem Zo8 (l : List (Int × List UInt8)) (k : Int) : ∀ i,i ≤ l.length → (getM k (Zj1 l i)).getD (.bool false) = .bool (decide (k ∈ (l.take i).map (·.1)))
 | 0,_ => by simp [Zj1,getM]
 | i + 1,h => by
  have ih := Zo8 l k i (by omega)
  simp only [Zj1]
  rw [Zkd,List.take_succ_eq_append_getElem (by omega)]
  have e : l.getD i (0,[]) = l[i] := by simp [List.getD_eq_getElem?_getD,show i < l.length by omega]
  have e2 : (l.take i ++ [l[i]]).map (·.1) = (l.take i).map (·.1) ++ [l[i].1] := by rw [List.map_append]; rfl
  rw [e,e2]
  simp only [List.mem_append,List.mem_singleton]
  by_cases hk : k = l[i].1
  ·rw [if_pos hk,decide_eq_true (Or.inr hk)]; rfl
  ·rw [if_neg hk,ih]
   congr 1
   exact decide_eq_decide.2 ⟨Or.inl,fun h => h.resolve_right hk⟩
theorem Zkl (a : Option Addr) (c : Nat) (l : List Wr) (W : World) (hW : Wrs W noF a l) (hl : l.length ≤ 1048576) (hx64 : ∀ v ∈ l,v.x.s.length ≤ 140737488355328) :
  Calls Tryz.prog 133 #[.slice a l.length c] W (Ret fun v w => v = .int .i64 (Zca (l.map Wr.data)) ∧ St W noF [] w) := by
 have hS := St.start W
 obtain ⟨d,hd⟩ : ∃ d,d = l.map Wr.data := ⟨_,rfl⟩
 rw [← hd]
 have hdl : d.length = l.length := by rw [hd]; simp
 refine Zab Tryz.func133 rfl Tryz.ntmps133 rfl ?_
 repeat (first|refine Yd7 ?_|refine Yag ?_|refine Yd8 ?_|refine Yab ?_)
 refine Zw6 (Value.int .i64) rfl rfl rfl hS (fun r w hS => ?_)
 repeat (first|refine Yd7 ?_|refine Ye7 ?_|refine Yea ?_|refine Yab ?_)
 refine Zal (α := Nat) (fun i => [(3,.map (some r)),(4,.bool (Zbh d i)),(8,.slice a l.length c),(9,.int .i64 (l.length : Nat)),(10,.int .i64 (i : Nat))])
  (fun i w => i ≤ l.length ∧ (∀ x ∈ d.take i,badW x = false) ∧ St W noF [mapr (Value.int .i64) r (Zj1 d i)] w) (fun i => l.length - i) 0 ⟨rfl,rfl,rfl,rfl,rfl,trivial⟩ ⟨Nat.zero_le _,by simp,hS⟩ ?_
 clear hS
 rintro i w ⟨hi,hbad,hS⟩
 by_cases hlt : i < l.length
 ·have hx0 : l[i]? = some l[i] := List.getElem?_eq_getElem hlt
  generalize l[i] = v at hx0
  have hv64 := hx64 v (List.mem_of_getElem? hx0)
  have hdi : d[i]? = some v.data := by rw [hd]; simp [hx0]
  have hdg : d.getD i (0,[]) = (v.no,v.x.s) := by rw [List.getD_eq_getElem?_getD,hdi]; rfl
  have hr := hW.row
  have hxs : ((l.flatMap Wr.cells).drop (i * 2)).take 2 = [.int .i64 v.no,.slice v.x.a v.x.s.length v.x.c] := Zn3 hx0
  obtain ⟨ab,ao,rfl⟩ := (hW.row.rd hS).base (by intro e; rw [e] at hxs; simp at hxs)
  have hbadr : badW v.data = true → Zca d = 1 := fun h => by
   unfold Zca
   rw [if_pos (List.any_eq_true.2 ⟨_,List.mem_of_getElem? hdi,h⟩)]
  by_cases hn : v.no < 0
  ·repeat (first|refine Yeq ?_|(refine X_id ?_;first|refine Yaf ?_|refine Yag ?_|refine Yan ?_|refine Ybd ?_|refine Ya1 ?_|refine Ybb ?_|refine Yap ?_|refine Ybs ?_|refine Yao (fun _ hS _ => ?_)|refine Yar (fun _ _ hS _ => ?_))|refine Yae ?_|refine Yad ?_|refine Yak ?_|refine Yah ?_|refine Yal ?_|refine Yaj ?_|refine Yes ?_)
   exact ⟨by rw [hbadr (by simp [badW,Wr.data,hn])],hS.drops⟩
  ·by_cases h64 : (v.x.s.length : Int) = 64
   ·have hgood : badW v.data = false := by unfold badW Wr.data; rw [decide_eq_false hn]; simp [h64]
    obtain ⟨b,hb⟩ : ∃ b,b = Zbh d i := ⟨_,rfl⟩
    rw [← hb]
    have ht : Zbh d (i + 1) = (b || decide (v.no ∈ (d.take i).map (·.1))) := by rw [Zbh,hdg,← hb]
    have hb1 : ∀ x ∈ d.take (i + 1),badW x = false := fun x hx => by
     have hid : i < d.length := by omega
     rw [List.take_succ_eq_append_getElem hid] at hx
     have hvd : d[i] = v.data := by
      have := List.getElem?_eq_getElem hid
      rw [hdi] at this
      exact (Option.some.inj this).symm
     rw [hvd] at hx
     rcases List.mem_append.1 hx with h | h
     ·exact hbad x h
     ·rw [List.mem_singleton.1 h]; exact hgood
    cases b
    ·repeat (first|refine Yen ?_|(refine X_id ?_;first|refine Yaf ?_|refine Yan ?_|refine Ya4 ?_|refine Yas ?_|refine Yba ?_|refine Ya1 ?_|refine Ya3 ?_|refine Ybb ?_|refine Yap ?_|refine Ybs ?_|refine Yao (fun _ hS _ => ?_)|refine Yar (fun _ _ hS _ => ?_))|refine Yee ?_|refine Yab ?_)
     refine X_yl (Zh2 (mk := Value.int .i64) (k := v.no) rfl rfl rfl (hS.rd (List.mem_cons_of_mem _ (List.mem_cons_self ..)))) rfl rfl ?_
     rw [Zo8 d v.no i (by omega)]
     repeat (first|refine Yd7 ?_|(refine X_id ?_;first|refine Yaf ?_|refine Yag ?_|refine Yan ?_|refine Ya4 ?_|refine Yap ?_)|refine Yad ?_|refine Yab ?_)
     replace hS := hS.pick [1]
     refine Zkw (mk := Value.int .i64) (k := v.no) rfl rfl rfl rfl rfl hS (fun w hS => ?_)
     repeat (first|refine Yd7 ?_|refine Yec ?_|refine Yad ?_|refine Yef ?_)
     refine Zag (i + 1) ⟨rfl,by rw [ht]; rfl,rfl,rfl,rfl,trivial⟩ ⟨by omega,hb1,?_⟩ (by omega)
     simp only [Zj1,hdg]
     exact hS
    ·repeat (first|refine Ye4 ?_|(refine X_id ?_;first|refine Yaf ?_|refine Yag ?_|refine Yan ?_|refine Ybd ?_|refine Ya4 ?_|refine Yas ?_|refine Yba ?_|refine Ya1 ?_|refine Ya3 ?_|refine Ybb ?_|refine Yap ?_|refine Ybs ?_|refine Yao (fun _ hS _ => ?_)|refine Yar (fun _ _ hS _ => ?_))|refine Yee ?_|refine Yab ?_)
     replace hS := hS.pick [1]
     refine Zkw (mk := Value.int .i64) (k := v.no) rfl rfl rfl rfl rfl hS (fun w hS => ?_)
     repeat (first|refine Yd7 ?_|refine Yec ?_|refine Yad ?_|refine Yef ?_)
     refine Zag (i + 1) ⟨rfl,by rw [ht]; rfl,rfl,rfl,rfl,trivial⟩ ⟨by omega,hb1,?_⟩ (by omega)
     simp only [Zj1,hdg]
     exact hS
   ·repeat (first|refine Yen ?_|(refine X_id ?_;first|refine Yaf ?_|refine Yag ?_|refine Yan ?_|refine Ya4 ?_|refine Yas ?_|refine Ybl ?_|refine Ya1 ?_|refine Ya3 ?_|refine Ybb ?_|refine Yap ?_|refine Ybs ?_|refine Yao (fun _ hS _ => ?_)|refine Yar (fun _ _ hS _ => ?_))|refine Yae ?_|refine Yad ?_|refine Yak ?_|refine Yah ?_|refine Yal ?_|refine Yaj ?_|refine Yes ?_)
    exact ⟨by rw [hbadr (by simp [badW,Wr.data,h64])],hS.drops⟩
 ·obtain rfl : i = l.length := by omega
  have hany : d.any badW = false := by
   rw [← hdl,List.take_length] at hbad
   simpa using hbad
  cases ht : Zbh d l.length
  ·rw [show Zca d = 0 by unfold Zca; rw [if_neg (by simp [hany]),hdl,ht]; rfl]
   repeat (first|refine Yd7 ?_|refine Ye1 ?_|refine Yae ?_|refine Yad ?_|refine Yah ?_|refine Yal ?_|refine Ya5 ?_|refine Yai ?_|refine Ye2 ?_)
   exact ⟨rfl,hS.drops⟩
  ·rw [show Zca d = 8 by unfold Zca; rw [if_neg (by simp [hany]),hdl,ht]; rfl]
   repeat (first|refine Yd7 ?_|refine Ye1 ?_|refine Yae ?_|refine Yad ?_|refine Yah ?_|refine Ya5 ?_|refine Yaj ?_|refine Yai ?_|refine Yab ?_|refine Yaq ?_|refine Ya6 ?_|refine Ya7 ?_|refine Yam ?_)
   exact ⟨rfl,hS.drops⟩
end Cr
namespace Cr
open Go Go.Proofs
set_option maxRecDepth 100000
set_option maxHeartbeats 4000000
attribute [local irreducible] Calls

abbrev Zyi (p : Nat) (o s m : Int) (j : Nat) (done : Int) (rd : Bool) : List Value := [.pointer (some ⟨p,0,none⟩),.int .u32 o,.int .i32 s,.int .u32 m,.int .i64 (j : Nat),.int .i64 done,.bool rd]
abbrev Zcg (lp p : Nat) (o s m : Int) (j : Nat) (done : Int) (rd : Bool) : Res := pts lp (.cells (Zyi p o s m j done rd).toArray 174)
section
variable (lp p : Nat) (o s m : Int) (j : Nat) (done : Int) (rd : Bool) (D : DiskM) (W : World)
theorem Zeu (hL : Rd W (Zcg lp p o s m j done rd)) (hD : Rd W (disk p D)) (hj : j ≤ 4096) :
  Calls Tryz.prog 132 #[.pointer (some ⟨lp,0,none⟩)] W (Ret fun v w => v = .int .i64 ((D.laid.length : Int) - 1 - j) ∧ St W noF [] w) := by
 have hc := hL.pts
 have hS := St.start W
 have hm := hD.disk.1.most
 have hLo := hL.ro
 have hDo := hD.ro
 refine Zab Tryz.func132 rfl Tryz.ntmps132 rfl ?_
 repeat (first|refine Yd7 ?_|refine Yaf ?_|refine Yag ?_|refine Ybq ?_|refine Yei ?_|refine Yab ?_)
 refine Zao (.s 0 (.s 1 (.s 2 (.s 3 (.s 6 (.s 7 (.s 8 (.s 9 (.h 4 (.s 5 (.s 10 (.s 11 .nil))) .no))))))))) mixed (by kernel_rfl) rfl ?_
 have hS := hS.drew
 have hc := (hLo.rd hS).pts
 repeat (first|(refine X_id ?_;first|(refine Zaa 77 rfl rfl rfl rfl rfl (Zmw p D _ (hDo.rd hS)) ?_;rintro _ _ ⟨rfl,rfl⟩))|refine Yah ?_|refine Yd9 ?_|(refine Zad ?_;first|refine Yaz ?_|refine Ya2 ?_|refine Ybk ?_|refine Ybp ?_|refine Ybe ?_|refine Ycw ?_|refine Yc0 ?_|refine Yau ?_)|(refine Zac ?_;first|refine Ya0 ?_))
 exact ⟨rfl,hS⟩
theorem Zrm (hL : Rd W (Zcg lp p o s m j done rd)) (hj : j ≤ 4096) :
  Calls Tryz.prog 135 #[.pointer (some ⟨lp,0,none⟩)] W (Ret fun v w => v = .int .i64 ((j : Int) / 2) ∧ W = w) := by
 have hc := hL.pts
 have hS := St.start W
 refine Zab Tryz.func135 rfl Tryz.ntmps135 rfl ?_
 repeat (first|refine Yd7 ?_|(refine X_id ?_;first|refine Yaf ?_|refine Yag ?_|refine Yat ?_|refine Yan ?_|refine Yda ?_|refine Ybq ?_|refine Yb2 ?_)|refine Yew ?_|refine Yd9 ?_)
 exact ⟨rfl,rfl⟩
def hasM (n : Int) (l : List (Int × List UInt8)) : Bool := l.all fun x => decide (x.1 < n)
theorem Zus (a : Option Addr) (c : Nat) (l : List Wr) (hL : Rd W (Zcg lp p o s m j done rd)) (hD : Rd W (disk p D)) (hj : j ≤ 4096) (hW : Wrs W noF a l) (hl : l.length ≤ 1048576) :
  Calls Tryz.prog 134 #[.pointer (some ⟨lp,0,none⟩),.slice a l.length c] W (Ret fun v w => v = .bool (hasM ((D.laid.length : Int) - 1 - j) (l.map Wr.data)) ∧ St W noF [] w) := by
 have hS := St.start W
 have hLo := hL.ro
 have hDo := hD.ro
 obtain ⟨n,hn⟩ : ∃ n,n = (D.laid.length : Int) - 1 - j := ⟨_,rfl⟩
 rw [← hn]
 refine Zab Tryz.func134 rfl Tryz.ntmps134 rfl ?_
 repeat (first|refine Yd7 ?_|refine Ye7 ?_|refine Yea ?_|refine Yab ?_)
 refine Zal (α := Nat) (fun i => [(0,.pointer (some ⟨lp,0,none⟩)),(7,.slice a l.length c),(8,.int .i64 (l.length : Nat)),(9,.int .i64 (i : Nat))])
  (fun i w => i ≤ l.length ∧ (∀ v ∈ l.take i,v.no < n) ∧ St W noF [] w) (fun i => l.length - i) 0 ⟨rfl,rfl,rfl,rfl,trivial⟩ ⟨Nat.zero_le _,by simp,hS⟩ ?_
 clear hS
 rintro i w ⟨hi,hok,hS⟩
 by_cases hlt : i < l.length
 ·have hx0 : l[i]? = some l[i] := List.getElem?_eq_getElem hlt
  have htk := List.take_succ_eq_append_getElem hlt
  generalize l[i] = v at hx0 htk
  have hr := hW.row
  have hxs : ((l.flatMap Wr.cells).drop (i * 2)).take 2 = [.int .i64 v.no,.slice v.x.a v.x.s.length v.x.c] := Zn3 hx0
  obtain ⟨ab,ao,rfl⟩ := (hW.row.rd hS).base (by intro e; rw [e] at hxs; simp at hxs)
  by_cases hno : v.no < n
  ·repeat (first|refine Yd7 ?_|(refine X_id ?_;first|refine Ya1 ?_|refine Ybb ?_|refine Ybs ?_|refine Yao (fun _ hS _ => ?_)|refine Yar (fun _ _ hS _ => ?_))|refine Yeb ?_|refine Yab ?_)
   refine Zao (.s 0 (.s 1 (.s 2 (.h 3 (.s 4 .nil) .no)))) mixed (by kernel_rfl) rfl ?_
   have hS := hS.drew
   repeat (first|refine Yd7 ?_|(refine X_id ?_;first|(refine Zae 132 rfl rfl rfl rfl rfl hS (Zeu lp p o s m j done rd D _ (hLo.rd hS) (hDo.rd hS) hj) ?_;rintro _ _ rfl hS)|refine Yec ?_)|refine Yey ?_|refine Yef ?_|(refine Zad ?_;first|refine Yaz ?_|refine Ya2 ?_|refine Ybe ?_|refine Zak rfl rfl (fun _ => Znr rfl rfl rfl (by omega)) rfl rfl ?_|refine Ybm ?_|refine Yau ?_)|(refine Zac ?_;first|refine Ya0 ?_))
   refine Zag (i + 1) ⟨rfl,rfl,rfl,rfl,trivial⟩ ⟨by omega,?_,hS.drops⟩ (by omega)
   rw [htk]
   intro x hx
   rcases List.mem_append.1 hx with h | h
   ·exact hok x h
   ·rw [List.mem_singleton.1 h]; exact hno
  ·repeat (first|refine Yd7 ?_|(refine X_id ?_;first|refine Ya1 ?_|refine Ybb ?_|refine Ybs ?_|refine Yao (fun _ hS _ => ?_)|refine Yar (fun _ _ hS _ => ?_))|refine Yeb ?_|refine Yab ?_)
   refine Zao (.s 0 (.s 1 (.s 2 (.h 3 (.s 4 .nil) .no)))) mixed (by kernel_rfl) rfl ?_
   have hS := hS.drew
   repeat (first|refine Yd7 ?_|(refine X_id ?_;first|(refine Zae 132 rfl rfl rfl rfl rfl hS (Zeu lp p o s m j done rd D _ (hLo.rd hS) (hDo.rd hS) hj) ?_;rintro _ _ rfl hS)|refine Yag ?_)|refine Yeo ?_|refine Yes ?_|(refine Zad ?_;first|refine Yaz ?_|refine Ya2 ?_|refine Ybe ?_|refine Zak rfl rfl (fun _ => Zjn rfl rfl rfl (by omega)) rfl rfl ?_|refine Ybm ?_|refine Yau ?_)|(refine Zac ?_;first|refine Ya0 ?_))
   refine ⟨?_,hS.drops⟩
   have : hasM n (l.map Wr.data) = false := by
    unfold hasM
    rw [List.all_eq_false]
    exact ⟨v.data,List.mem_map.2 ⟨v,List.mem_of_getElem? hx0,rfl⟩,by simp [Wr.data,hno]⟩
   rw [this]
 ·obtain rfl : i = l.length := by omega
  repeat (first|refine Yd7 ?_|refine Yag ?_|refine Ya3 ?_|refine Yeg ?_|refine Ye2 ?_)
  refine ⟨?_,hS⟩
  have : hasM n (l.map Wr.data) = true := by
   unfold hasM
   rw [List.all_eq_true]
   intro x hx
   obtain ⟨v,hv,rfl⟩ := List.mem_map.1 hx
   rw [List.take_length] at hok
   exact decide_eq_true (hok v hv)
  rw [this]
end

/-! ### steps -/
def Zdn (x : Int × DiskM) (no : Int) (b : List UInt8) : Int × DiskM := if x.1 = 0 then x.2.write no b else x
def Zdg (x : Int × DiskM) : Int × DiskM := if x.1 = 0 then x.2.flush else x
abbrev Ziv (sp p : Nat) (e : Int) : Res := pts sp (.cells #[.pointer (some ⟨p,0,none⟩),.int .i64 e] 263)
theorem Zjx (sp p : Nat) (x : Int × DiskM) (no : Int) (a : Option Addr) (n c : Nat) (b : List UInt8) (W : World) (F : Nat → Prop) (hS : St W F [Ziv sp p x.1,disk p x.2] W) (hb : Ro W F (bytes a b)) (hn : b.length = n) (hline : x.2.line.length < 1073741824) :
  Calls Tryz.prog 137 #[.pointer (some ⟨sp,0,none⟩),.int .i64 no,.slice a n c] W (Ret fun _ w => True ∧ St W F [Ziv sp p (Zdn x no b).1,disk p (Zdn x no b).2] w) := by
 obtain ⟨e,D⟩ := x
 simp only at hS hline ⊢
 by_cases he : e = 0
 ·subst he
  refine Zab Tryz.func137 rfl Tryz.ntmps137 rfl ?_
  repeat (first|refine Yd7 ?_|(refine X_id ?_;first|refine Yaf ?_|refine Yat ?_|refine Yan ?_|refine Ybh ?_|refine Yap ?_)|refine Yeh ?_|refine Yab ?_)
  obtain ⟨_,hc,hr,hw,hbk⟩ := hS.call [false,true]
  refine Zaa _ rfl rfl rfl rfl rfl (Z2k p D no a n c b _ _ hc (hw _ hb) hn hline) ?_
  rintro _ w ⟨rfl,hS⟩
  replace hS := hbk hS
  clear hc hr hw hbk
  repeat (first|refine Yd7 ?_|refine Yat ?_|refine Yan ?_|refine Yao (fun _ hS _ => ?_)|refine Ybu ?_)
  refine ⟨trivial,?_⟩
  simp only [Zdn,if_true]
  have hS := hS.pick [1,0]
  exact hS
 ·refine Zab Tryz.func137 rfl Tryz.ntmps137 rfl ?_
  repeat (first|refine Yd7 ?_|(refine X_id ?_;first|refine Yaf ?_|refine Yat ?_|refine Yan ?_|refine Ybi ?_|refine Yap ?_)|refine Yei ?_|refine Yab ?_|refine Ybu ?_)
  refine ⟨trivial,?_⟩
  simp only [Zdn,if_neg he]
  exact hS
theorem Zmu (sp p : Nat) (x : Int × DiskM) (W : World) (F : Nat → Prop) (hS : St W F [Ziv sp p x.1,disk p x.2] W) (hline : x.2.line.length < 1073741824) :
  Calls Tryz.prog 139 #[.pointer (some ⟨sp,0,none⟩)] W (Ret fun _ w => True ∧ St W F [Ziv sp p (Zdg x).1,disk p (Zdg x).2] w) := by
 obtain ⟨e,D⟩ := x
 simp only at hS hline ⊢
 by_cases he : e = 0
 ·subst he
  refine Zab Tryz.func139 rfl Tryz.ntmps139 rfl ?_
  repeat (first|refine Yd7 ?_|(refine X_id ?_;first|refine Yaf ?_|refine Yat ?_|refine Yan ?_|refine Ybh ?_|refine Yap ?_)|refine Yeh ?_|refine Yab ?_)
  obtain ⟨_,hc,hr,hw,hbk⟩ := hS.call [false,true]
  refine Zaa _ rfl rfl rfl rfl rfl (Z3t p D _ _ hc hline) ?_
  rintro _ w ⟨rfl,hS⟩
  replace hS := hbk hS
  clear hc hr hw hbk
  repeat (first|refine Yd7 ?_|refine Yat ?_|refine Yan ?_|refine Yao (fun _ hS _ => ?_)|refine Ybu ?_)
  refine ⟨trivial,?_⟩
  simp only [Zdg,if_true]
  have hS := hS.pick [1,0]
  exact hS
 ·refine Zab Tryz.func139 rfl Tryz.ntmps139 rfl ?_
  repeat (first|refine Yd7 ?_|(refine X_id ?_;first|refine Yaf ?_|refine Yat ?_|refine Yan ?_|refine Ybi ?_|refine Yap ?_)|refine Yei ?_|refine Yab ?_|refine Ybu ?_)
  refine ⟨trivial,?_⟩
  simp only [Zdg,if_neg he]
  exact hS
end Cr
namespace Cr
open Go Go.Proofs
set_option maxRecDepth 100000
set_option maxHeartbeats 4000000
attribute [local irreducible] Calls

theorem Ztf (D : DiskM) (no : Int) (b : List UInt8) : (D.write no b).2.line.length ≤ D.line.length + 1 ∧ (D.write no b).2.laid.length = D.laid.length := by
 unfold DiskM.write
 split
 ·simp
 ·split
  ·simp
  ·split <;> simp [DiskM.used]
theorem Zt6 (D : DiskM) : D.flush.2.line.length ≤ D.line.length ∧ D.flush.2.laid.length = D.laid.length := by
 unfold DiskM.flush
 split
 ·simp
 ·split <;> simp [DiskM.used,DiskM.flushed,Zax]
theorem Zdr (x : Int × DiskM) (no : Int) (b : List UInt8) : (Zdn x no b).2.line.length ≤ x.2.line.length + 1 ∧ (Zdn x no b).2.laid.length = x.2.laid.length := by
 unfold Zdn
 split
 ·exact Ztf x.2 no b
 ·simp
theorem Zlh (x : Int × DiskM) : (Zdg x).2.line.length ≤ x.2.line.length ∧ (Zdg x).2.laid.length = x.2.laid.length := by
 unfold Zdg
 split
 ·exact Zt6 x.2
 ·simp
def Zgl (k : Int) (x : Int × DiskM) (l : List (Int × List UInt8)) : Int × DiskM := l.foldl (fun x v => Zdn x (k + v.1) v.2) x
theorem Zts (k : Int) (x : Int × DiskM) {l : List (Int × List UInt8)} {i : Nat} {v : Int × List UInt8} (h : l[i]? = some v) : Zgl k x (l.take (i + 1)) = Zdn (Zgl k x (l.take i)) (k + v.1) v.2 := by
 obtain ⟨hi,rfl⟩ := List.getElem?_eq_some_iff.1 h
 rw [List.take_succ_eq_append_getElem hi]
 unfold Zgl
 rw [List.foldl_append]
 rfl
theorem Zln (k : Int) : ∀ (l : List (Int × List UInt8)) (x : Int × DiskM),(Zgl k x l).2.line.length ≤ x.2.line.length + l.length ∧ (Zgl k x l).2.laid.length = x.2.laid.length
 | [],x => by simp [Zgl]
 | v :: l,x => by
  have h1 := Zdr x (k + v.1) v.2
  have h2 := Zln k l (Zdn x (k + v.1) v.2)
  simp only [Zgl,List.foldl_cons,List.length_cons] at h2 ⊢
  exact ⟨by omega,by rw [h2.2,h1.2]⟩
def layM (rd fs : List Int) (j : Nat) (x : Int × DiskM) (number : Int) (l : List (Int × List UInt8)) : Int × DiskM := Zdg (Zdn (Zdg (Zgl (1 + j) x l)) 0 (Zez rd fs number))
theorem Z2o (lp sp p : Nat) (o s m : Int) (j : Nat) (done : Int) (rdn : Bool) (x : Int × DiskM) (number : Int) (a : Option Addr) (c : Nat) (l : List Wr) (rd fs : List Int) (W : World) (F : Nat → Prop) (hG : Gl W F rd fs) (hW : Wrs W F a l)
  (hj : j ≤ 4096) (hl : l.length ≤ 1048576) (hno : ∀ v ∈ l,-4611686018427387904 ≤ v.no ∧ v.no ≤ 4611686018427387904) (hline : x.2.line.length + l.length + 1 < 1073741824) (hS : St W F [Zcg lp p o s m j done rdn,Ziv sp p x.1,disk p x.2] W) :
  Calls Tryz.prog 130 #[.pointer (some ⟨lp,0,none⟩),.pointer (some ⟨sp,0,none⟩),.int .i64 number,.slice a l.length c] W (Ret fun v w => v = .int .i64 (layM rd fs j x number (l.map Wr.data)).1 ∧
   St W F [Zcg lp p o s m j (if (layM rd fs j x number (l.map Wr.data)).1 = 0 then number else done) rdn,Ziv sp p (layM rd fs j x number (l.map Wr.data)).1,disk p (layM rd fs j x number (l.map Wr.data)).2] w) := by
 obtain ⟨d,hd⟩ : ∃ d,d = l.map Wr.data := ⟨_,rfl⟩
 have hdl : d.length = l.length := by rw [hd]; simp
 rw [← hd]
 refine Zab Tryz.func130 rfl Tryz.ntmps130 rfl ?_
 repeat (first|refine Yd7 ?_|refine Ye7 ?_|refine Yea ?_|refine Yab ?_)
 refine Zal (α := Nat) (fun i => [(0,.pointer (some ⟨lp,0,none⟩)),(1,.pointer (some ⟨sp,0,none⟩)),(2,.int .i64 number),(11,.slice a l.length c),(12,.int .i64 (l.length : Nat)),(13,.int .i64 (i : Nat))])
  (fun i w => i ≤ l.length ∧ St W F [Zcg lp p o s m j done rdn,Ziv sp p (Zgl (1 + j) x (d.take i)).1,disk p (Zgl (1 + j) x (d.take i)).2] w) (fun i => l.length - i) 0 ⟨rfl,rfl,rfl,rfl,rfl,rfl,trivial⟩ ⟨Nat.zero_le _,hS⟩ ?_
 clear hS
 rintro i w ⟨hi,hS⟩
 have hlt1 := Zln (1 + j) (d.take i) x
 rw [List.length_take] at hlt1
 by_cases hlt : i < l.length
 ·have hx0 : l[i]? = some l[i] := List.getElem?_eq_getElem hlt
  generalize l[i] = v at hx0
  have hvm := List.mem_of_getElem? hx0
  have hdi : d[i]? = some (v.no,v.x.s) := by rw [hd]; simp [hx0,Wr.data]
  have hsn := Zts (1 + j) x hdi
  have hv := hno v hvm
  have hv1 := hv.1
  have hv2 := hv.2
  have hr := hW.row
  have hxs : ((l.flatMap Wr.cells).drop (i * 2)).take 2 = [.int .i64 v.no,.slice v.x.a v.x.s.length v.x.c] := Zn3 hx0
  obtain ⟨ab,ao,rfl⟩ := (hW.row.rd hS).base (by intro e; rw [e] at hxs; simp at hxs)
  obtain ⟨X,hX⟩ : ∃ X,X = Zgl (1 + j) x (d.take i) := ⟨_,rfl⟩
  rw [← hX] at hS hlt1 hsn
  repeat (first|refine Yd7 ?_|(refine X_id ?_;first|refine Ya1 ?_|refine Ybb ?_|refine Ybs ?_|refine Yao (fun _ hS _ => ?_)|refine Yar (fun _ _ hS _ => ?_))|refine Yeb ?_|refine Yab ?_)
  refine Zao (.s 0 (.s 1 (.s 2 (.s 3 (.s 4 (.s 5 (.s 6 (.s 7 (.s 8 (.s 9 (.s 10 (.h 11 .nil .no)))))))))))) mixed (by kernel_rfl) rfl ?_
  have hS := hS.drew
  repeat (first|(refine Zad ?_;first|refine Ya2 ?_|refine Ybp ?_|refine Ybe ?_|refine Yc7 ?_|refine Ybm ?_|refine Yau ?_))
  obtain ⟨_,hc,hr,hw,hbk⟩ := hS.call [false,false,true,true]
  refine Zaa _ rfl rfl rfl rfl rfl (Zjx sp p X _ _ _ _ v.x.s _ _ hc (hw _ (hW.all v hvm)) rfl (by omega)) ?_
  rintro _ w ⟨_,hS⟩
  replace hS := hbk hS
  clear hc hr hw hbk
  repeat (first|refine Yd7 ?_|refine Yec ?_|refine Yad ?_|refine Yef ?_|(refine Zad ?_;first|refine Yaz ?_)|(refine Zac ?_;first|refine Ya0 ?_))
  refine Zag (i + 1) ⟨rfl,rfl,rfl,rfl,rfl,rfl,trivial⟩ ⟨by omega,?_⟩ (by omega)
  rw [hsn]
  have hS := hS.pick [3,0,0]
  exact hS
 ·obtain rfl : i = l.length := by omega
  rw [List.take_of_length_le (by omega)] at hS hlt1
  obtain ⟨X,hX⟩ : ∃ X,X = Zgl (1 + j) x d := ⟨_,rfl⟩
  rw [← hX] at hS hlt1
  have h2 := Zlh X
  repeat (first|refine Yd7 ?_|refine Yaf ?_|refine Ya3 ?_|refine Yej ?_|refine Yed ?_)
  obtain ⟨_,hc,hr,hw,hbk⟩ := hS.call [false,true,true]
  refine Zaa _ rfl rfl rfl rfl rfl (Zmu sp p X _ _ hc (by omega)) ?_
  rintro _ w ⟨_,hS⟩
  replace hS := hbk hS
  clear hc hr hw hbk
  repeat (first|refine Yd7 ?_|refine Yaf ?_|refine Yd8 ?_|refine Yab ?_)
  refine Zaa _ rfl rfl rfl rfl rfl (Zzy number rd fs _ (hG.mono fun r hr => (hr.rd hS).ro)) ?_
  rintro _ w ⟨r,k,rfl,hS'⟩
  replace hS := hS.plus hS'
  clear hS'
  repeat (first|refine Yaa ?_)
  have h3 := Zdr (Zdg X) 0 (Zez rd fs number)
  obtain ⟨_,hc,hr,hw,hbk⟩ := hS.call [false,true,true,false]
  refine Zaa _ rfl rfl rfl rfl rfl (Zjx sp p (Zdg X) 0 _ 64 k (Zez rd fs number) _ _ hc (hr _ (List.mem_cons_self ..)) (Zht ..) (by omega)) ?_
  rintro _ w ⟨_,hS⟩
  replace hS := hbk hS
  clear hc hr hw hbk
  repeat (first|refine Yd7 ?_|refine Yaf ?_|refine Yd8 ?_|refine Yab ?_)
  obtain ⟨_,hc,hr,hw,hbk⟩ := hS.call [true,true,false,false]
  refine Zaa _ rfl rfl rfl rfl rfl (Zmu sp p (Zdn (Zdg X) 0 (Zez rd fs number)) _ _ hc (by omega)) ?_
  rintro _ w ⟨_,hS⟩
  replace hS := hbk hS
  clear hc hr hw hbk
  have hlay : layM rd fs j x number d = Zdg (Zdn (Zdg X) 0 (Zez rd fs number)) := by unfold layM; rw [← hX]
  obtain ⟨Y,hY⟩ : ∃ Y,Y = layM rd fs j x number d := ⟨_,rfl⟩
  rw [← hlay,← hY] at hS
  rw [← hY]
  clear hlay
  obtain ⟨e,D⟩ := Y
  simp only at hS ⊢
  by_cases he : e = 0
  ·subst he
   repeat (first|refine Yd7 ?_|(refine X_id ?_;first|refine Yaf ?_|refine Yag ?_|refine Yat ?_|refine Yan ?_|refine Ybh ?_|refine Yap ?_|refine Yao (fun _ hS _ => ?_))|refine Yeo ?_|refine Yd9 ?_)
   refine ⟨rfl,?_⟩
   rw [if_pos rfl]
   have hS := hS.pick [3,0,0]
   exact hS
  ·repeat (first|refine Yd7 ?_|(refine X_id ?_;first|refine Yaf ?_|refine Yag ?_|refine Yat ?_|refine Yan ?_|refine Ybi ?_|refine Yap ?_)|refine Yew ?_|refine Yd9 ?_)
   refine ⟨rfl,?_⟩
   rw [if_neg he]
   have hS := hS.pick [3,0,0]
   exact hS
end Cr
