/-
  Layer 4 (wal): lay.
  Layer 4 (wal): entry.
  Layer 4 (wal): clear; Once.Do.
  Layer 4 (wal): found.
  Layer 4 (wal): redo.
  sync.Mutex,sync.Once,as one goroutine meets them.
  Layer 4 (wal): Once.Do at Open; Open.
  Layer 4 (wal): Open,Read.
  Layer 4 (wal): Commit.
  Places that are met twice.
  A disk that is on and not armed: what writes and flushes leave on it. No program is in sight.
  What a transaction leaves behind on a disk that is on and not armed (as Pl1,without the document's check). No program is in sight.
-/
import Derived.Test.YtpbgaojjlepkcaaGreatDoorTba6
import Derived.Laws.LoneSync
namespace Cr
open Go Go.Proofs
set_option maxRecDepth 100000
set_option maxHeartbeats 4000000
attribute [local irreducible] Calls

theorem Zs4 (D : DiskM) (no : Int) (b : List UInt8) : (D.write no b).2.line.length ≤ D.line.length + 1 ∧ (D.write no b).2.laid.length = D.laid.length := by
 unfold DiskM.write
 split
 ·simp
 ·split
  ·simp
  ·split <;> simp [DiskM.used]
theorem Ztr (D : DiskM) : D.flush.2.line.length ≤ D.line.length ∧ D.flush.2.laid.length = D.laid.length := by
 unfold DiskM.flush
 split
 ·simp
 ·split <;> simp [DiskM.used,DiskM.flushed,Zat]
theorem Zdf (x : Int × DiskM) (no : Int) (b : List UInt8) : (Zde x no b).2.line.length ≤ x.2.line.length + 1 ∧ (Zde x no b).2.laid.length = x.2.laid.length := by
 unfold Zde
 split
 ·exact Zs4 x.2 no b
 ·simp
theorem Zk4 (x : Int × DiskM) : (Zc5 x).2.line.length ≤ x.2.line.length ∧ (Zc5 x).2.laid.length = x.2.laid.length := by
 unfold Zc5
 split
 ·exact Ztr x.2
 ·simp
def Zf4 (k : Int) (x : Int × DiskM) (l : List (Int × List UInt8)) : Int × DiskM := l.foldl (fun x v => Zde x (k + v.1) v.2) x
theorem Ztd (k : Int) (x : Int × DiskM) {l : List (Int × List UInt8)} {i : Nat} {v : Int × List UInt8} (h : l[i]? = some v) : Zf4 k x (l.take (i + 1)) = Zde (Zf4 k x (l.take i)) (k + v.1) v.2 := by
 obtain ⟨hi,rfl⟩ := List.getElem?_eq_some_iff.1 h
 rw [List.take_succ_eq_append_getElem hi]
 unfold Zf4
 rw [List.foldl_append]
 rfl
theorem Zla (k : Int) : ∀ (l : List (Int × List UInt8)) (x : Int × DiskM),(Zf4 k x l).2.line.length ≤ x.2.line.length + l.length ∧ (Zf4 k x l).2.laid.length = x.2.laid.length
 | [],x => by simp [Zf4]
 | v :: l,x => by
  have h1 := Zdf x (k + v.1) v.2
  have h2 := Zla k l (Zde x (k + v.1) v.2)
  simp only [Zf4,List.foldl_cons,List.length_cons] at h2 ⊢
  exact ⟨by omega,by rw [h2.2,h1.2]⟩
def layM (rd fs : List Int) (j : Nat) (x : Int × DiskM) (number : Int) (l : List (Int × List UInt8)) : Int × DiskM := Zc5 (Zde (Zc5 (Zf4 (1 + j) x l)) 0 (Zef rd fs number))
theorem Z2l (lp sp p : Nat) (o s m : Int) (j : Nat) (done : Int) (rdn : Bool) (x : Int × DiskM) (number : Int) (a : Option Addr) (c : Nat) (l : List Wr) (rd fs : List Int) (W : World) (F : Nat → Prop) (hG : Gl W F rd fs) (hW : Wrs W F a l)
  (hj : j ≤ 4096) (hl : l.length ≤ 1048576) (hno : ∀ v ∈ l,-4611686018427387904 ≤ v.no ∧ v.no ≤ 4611686018427387904) (hline : x.2.line.length + l.length + 1 < 1073741824) (hS : St W F [Zb9 lp p o s m j done rdn,Zig sp p x.1,disk p x.2] W) :
  Calls Tryz.prog 133 #[.pointer (some ⟨lp,0,none⟩),.pointer (some ⟨sp,0,none⟩),.int .i64 number,.slice a l.length c] W (Ret fun v w => v = .int .i64 (layM rd fs j x number (l.map Wr.data)).1 ∧
   St W F [Zb9 lp p o s m j (if (layM rd fs j x number (l.map Wr.data)).1 = 0 then number else done) rdn,Zig sp p (layM rd fs j x number (l.map Wr.data)).1,disk p (layM rd fs j x number (l.map Wr.data)).2] w) := by
 obtain ⟨d,hd⟩ : ∃ d,d = l.map Wr.data := ⟨_,rfl⟩
 have hdl : d.length = l.length := by rw [hd]; simp
 rw [← hd]
 refine Zab Tryz.func133 rfl Tryz.ntmps133 rfl ?_
 repeat (first|refine Yd0 ?_|refine Yev ?_|refine Yd3 ?_|refine Yab ?_)
 refine Zak (α := Nat) (fun i => [(0,.pointer (some ⟨lp,0,none⟩)),(1,.pointer (some ⟨sp,0,none⟩)),(2,.int .i64 number),(11,.slice a l.length c),(12,.int .i64 (l.length : Nat)),(13,.int .i64 (i : Nat))])
  (fun i w => i ≤ l.length ∧ St W F [Zb9 lp p o s m j done rdn,Zig sp p (Zf4 (1 + j) x (d.take i)).1,disk p (Zf4 (1 + j) x (d.take i)).2] w) (fun i => l.length - i) 0 ⟨rfl,rfl,rfl,rfl,rfl,rfl,trivial⟩ ⟨Nat.zero_le _,hS⟩ ?_
 clear hS
 rintro i w ⟨hi,hS⟩
 have hlt1 := Zla (1 + j) (d.take i) x
 rw [List.length_take] at hlt1
 by_cases hlt : i < l.length
 ·have hx0 : l[i]? = some l[i] := List.getElem?_eq_getElem hlt
  generalize l[i] = v at hx0
  have hvm := List.mem_of_getElem? hx0
  have hdi : d[i]? = some (v.no,v.x.s) := by rw [hd]; simp [hx0,Wr.data]
  have hsn := Ztd (1 + j) x hdi
  have hv := hno v hvm
  have hv1 := hv.1
  have hv2 := hv.2
  have hr := hW.row
  have hxs : ((l.flatMap Wr.cells).drop (i * 2)).take 2 = [.int .i64 v.no,.slice v.x.a v.x.s.length v.x.c] := Znq hx0
  obtain ⟨ab,ao,rfl⟩ := (hW.row.rd hS).base (by intro e; rw [e] at hxs; simp at hxs)
  obtain ⟨X,hX⟩ : ∃ X,X = Zf4 (1 + j) x (d.take i) := ⟨_,rfl⟩
  rw [← hX] at hS hlt1 hsn
  repeat (first|refine Yd0 ?_|(refine X_id ?_;first|refine Ya2 ?_|refine Ybc ?_|refine Ybp ?_|refine Yao (fun _ hS _ => ?_)|refine Yar (fun _ _ hS _ => ?_))|refine Yd4 ?_|refine Yab ?_)
  refine Zao (.s 0 (.s 1 (.s 2 (.s 3 (.s 4 (.s 5 (.s 6 (.s 7 (.s 8 (.s 9 (.s 10 (.h 11 .nil .no)))))))))))) mixed (by kernel_rfl) rfl ?_
  have hS := hS.drew
  repeat (first|(refine Zad ?_;first|refine Ya0 ?_|refine Ybq ?_|refine Ybj ?_|refine Yc3 ?_|refine Ybm ?_|refine Yas ?_))
  obtain ⟨_,hc,hr,hw,hbk⟩ := hS.call [false,false,true,true]
  refine Zaa _ rfl rfl rfl rfl rfl (Zjm sp p X _ _ _ _ v.x.s _ _ hc (hw _ (hW.all v hvm)) rfl (by omega)) ?_
  rintro _ w ⟨_,hS⟩
  replace hS := hbk hS
  clear hc hr hw hbk
  repeat (first|refine Yd0 ?_|refine Yd5 ?_|refine Yad ?_|refine Yd8 ?_|(refine Zad ?_;first|refine Yay ?_)|(refine Zac ?_;first|refine Yaz ?_))
  refine Zaf (i + 1) ⟨rfl,rfl,rfl,rfl,rfl,rfl,trivial⟩ ⟨by omega,?_⟩ (by omega)
  rw [hsn]
  have hS := hS.pick [3,0,0]
  exact hS
 ·obtain rfl : i = l.length := by omega
  rw [List.take_of_length_le (by omega)] at hS hlt1
  obtain ⟨X,hX⟩ : ∃ X,X = Zf4 (1 + j) x d := ⟨_,rfl⟩
  rw [← hX] at hS hlt1
  have h2 := Zk4 X
  repeat (first|refine Yd0 ?_|refine Yaf ?_|refine Ya3 ?_|refine Yec ?_|refine Yd6 ?_)
  obtain ⟨_,hc,hr,hw,hbk⟩ := hS.call [false,true,true]
  refine Zaa _ rfl rfl rfl rfl rfl (Zmc sp p X _ _ hc (by omega)) ?_
  rintro _ w ⟨_,hS⟩
  replace hS := hbk hS
  clear hc hr hw hbk
  repeat (first|refine Yd0 ?_|refine Yaf ?_|refine Yd1 ?_|refine Yab ?_)
  refine Zaa _ rfl rfl rfl rfl rfl (Zzx number rd fs _ (hG.mono fun r hr => (hr.rd hS).ro)) ?_
  rintro _ w ⟨r,k,rfl,hS'⟩
  replace hS := hS.plus hS'
  clear hS'
  repeat (first|refine Yaa ?_)
  have h3 := Zdf (Zc5 X) 0 (Zef rd fs number)
  obtain ⟨_,hc,hr,hw,hbk⟩ := hS.call [false,true,true,false]
  refine Zaa _ rfl rfl rfl rfl rfl (Zjm sp p (Zc5 X) 0 _ 64 k (Zef rd fs number) _ _ hc (hr _ (List.mem_cons_self ..)) (Zhj ..) (by omega)) ?_
  rintro _ w ⟨_,hS⟩
  replace hS := hbk hS
  clear hc hr hw hbk
  repeat (first|refine Yd0 ?_|refine Yaf ?_|refine Yd1 ?_|refine Yab ?_)
  obtain ⟨_,hc,hr,hw,hbk⟩ := hS.call [true,true,false,false]
  refine Zaa _ rfl rfl rfl rfl rfl (Zmc sp p (Zde (Zc5 X) 0 (Zef rd fs number)) _ _ hc (by omega)) ?_
  rintro _ w ⟨_,hS⟩
  replace hS := hbk hS
  clear hc hr hw hbk
  have hlay : layM rd fs j x number d = Zc5 (Zde (Zc5 X) 0 (Zef rd fs number)) := by unfold layM; rw [← hX]
  obtain ⟨Y,hY⟩ : ∃ Y,Y = layM rd fs j x number d := ⟨_,rfl⟩
  rw [← hlay,← hY] at hS
  rw [← hY]
  clear hlay
  obtain ⟨e,D⟩ := Y
  simp only at hS ⊢
  by_cases he : e = 0
  ·subst he
   repeat (first|refine Yd0 ?_|(refine X_id ?_;first|refine Yaf ?_|refine Yag ?_|refine Yau ?_|refine Yan ?_|refine Ybi ?_|refine Yap ?_|refine Yao (fun _ hS _ => ?_))|refine Yeh ?_|refine Yd2 ?_)
   refine ⟨rfl,?_⟩
   rw [if_pos rfl]
   have hS := hS.pick [3,0,0]
   exact hS
  ·repeat (first|refine Yd0 ?_|(refine X_id ?_;first|refine Yaf ?_|refine Yag ?_|refine Yau ?_|refine Yan ?_|refine Ybh ?_|refine Yap ?_)|refine Yep ?_|refine Yd2 ?_)
   refine ⟨rfl,?_⟩
   rw [if_neg he]
   have hS := hS.pick [3,0,0]
   exact hS
end Cr
namespace Cr
open Go Go.Proofs
set_option maxRecDepth 100000
set_option maxHeartbeats 4000000
attribute [local irreducible] Calls

structure Ent where
 no : Int
 b : List UInt8
 count : Int
 d : List UInt8
 ok : Bool
def Ent.none : Ent := ⟨0,[],0,List.replicate 32 0,false⟩
def Ztv (a b : List UInt8) (number at_ top : Int) : Ent :=
 ⟨Zcq ((a.drop 16).take 4),b,Zcq ((a.drop 12).take 4),(a.drop 20).take 32,decide (a = Zhc number at_ (Zcq ((a.drop 12).take 4)) (Zcq ((a.drop 16).take 4)) ((a.drop 20).take 32)) && decide (Zcq ((a.drop 16).take 4) < top)⟩
def entM (D : DiskM) (j : Nat) (number at_ : Int) : Ent :=
 if at_ < 0 ∨ (j : Int) / 2 ≤ at_ then Ent.none else
 if ¬ (D.read (1 + 2 * at_)).1 = 0 ∨ ¬ (D.read (1 + 2 * at_ + 1)).1 = 0 then Ent.none else
 Ztv (D.read (1 + 2 * at_)).2 (D.read (1 + 2 * at_ + 1)).2 number at_ ((D.laid.length : Int) - 1 - j)
theorem Zh0 {D : DiskM} (hok : D.ok) {no : Int} (h : (D.read no).1 = 0) : (D.read no).2.length = 64 := by
 unfold DiskM.read at h ⊢
 by_cases h1 : D.off = true
 ·simp [h1] at h
 ·rw [if_neg h1] at h ⊢
  by_cases h2 : Zc2 D no = false
  ·simp [h2] at h
  ·rw [if_neg h2]
   have h2' : 0 ≤ no ∧ no < D.laid.length := by simpa [Zc2] using h2
   simp only [DiskM.find]
   split
   ·rename_i x hx
    exact (hok.line64 x (by simpa using List.mem_of_find?_eq_some hx)).1
   ·rw [List.getD_eq_getElem?_getD,List.getElem?_eq_getElem (show no.toNat < D.laid.length by omega)]
    exact hok.laid64 _ (List.getElem_mem _)
def Ent.val (e : Ent) (a : Option Addr) (c : Nat) : Value := .tuple #[.agg #[.int .i64 e.no,.slice a e.b.length c],.int .i64 e.count,.agg (bv e.d).toArray,.bool e.ok]
theorem Zjp (ab ao l n c : Nat) (s : List UInt8) (w : World) (hs : Rd w (bytes (some ⟨ab,ao,none⟩) s)) (h : l + n ≤ s.length) (hn : n ≤ 1048576) (hc : s.length ≤ c) (h0 : 0 < n) :
  Calls Tryz.prog 202 #[.slice (some ⟨ab,ao + l,none⟩) n (c - l)] w (Ret fun v w' => v = .int .i64 (Zcq ((s.drop l).take n)) ∧ w = w') := by
 have h1 := hs.subBytes (l := l) (h := l + n) (c := c) (by omega) (by omega)
 rw [show sub (some ⟨ab,ao,none⟩) l 1 c = some ⟨ab,ao + l,none⟩ by unfold sub; rw [if_neg (by omega)]; simp [Zbg],show l + n - l = n by omega] at h1
 have hl : ((s.drop l).take n).length = n := by simp; omega
 have := Zzm (some ⟨ab,ao + l,none⟩) (c - l) ((s.drop l).take n) w h1 (by omega)
 rw [hl] at this
 exact this
theorem Zzz (lp p : Nat) (o s m : Int) (j : Nat) (done : Int) (rdn : Bool) (D : DiskM) (number at_ : Int) (W : World) (hL : Rd W (Zb9 lp p o s m j done rdn)) (hD : Rd W (disk p D)) (hj : j ≤ 4096) (hline : D.line.length < 1073741824) (hat : at_ ≤ 1099511627776) :
  Calls Tryz.prog 204 #[.pointer (some ⟨lp,0,none⟩),.int .i64 number,.int .i64 at_] W (Ret fun v w => ∃ a c,v = (entM D j number at_).val a c ∧ (entM D j number at_).b.length ≤ c ∧ St W noF [bytes a (entM D j number at_).b] w) := by
 have hS := St.start W
 have hc := hL.pts
 have hLo := hL.ro
 have hDo := hD.ro
 have hok := hD.disk.1
 have hl0 : LenO (bv (List.replicate 32 0)) 32 := inferInstance
 by_cases h1 : at_ < 0
 ·have e : entM D j number at_ = Ent.none := by unfold entM; rw [if_pos (.inl h1)]
  refine Zab Tryz.func204 rfl Tryz.ntmps204 rfl ?_
  repeat (first|refine Yej ?_|(refine X_id ?_;first|refine Yaf ?_|refine Yag ?_|refine Ya5 ?_|refine Ya2 ?_|refine Yar (fun _ _ hS _ => ?_))|refine Yea ?_|refine Yab ?_)
  rw [Zgb] at hS
  refine Zao (.s 0 (.s 1 (.h 2 (.s 3 (.h 4 (.s 5 .nil) .no)) .no))) mixed (by kernel_rfl) rfl ?_
  have hS := hS.drew
  repeat (first|refine Yao (fun _ hS _ => ?_)|refine Ycl (fun _ hS => ?_)|refine Yah ?_|refine Yab ?_|refine Yaq ?_|refine Yco ?_|(refine Zad ?_;first|refine Yay ?_|refine Ybn ?_|refine Yb1 ?_|refine Yas ?_)|(refine Zac ?_;first|refine Yaz ?_))
  rw [e]
  exact ⟨none,0,rfl,Nat.le_refl _,hS.drops.row_none⟩
 by_cases h2 : (j : Int) / 2 ≤ at_
 ·have e : entM D j number at_ = Ent.none := by unfold entM; rw [if_pos (.inr h2)]
  refine Zab Tryz.func204 rfl Tryz.ntmps204 rfl ?_
  repeat (first|refine Yeg ?_|(refine X_id ?_;first|refine Yaf ?_|refine Yag ?_|refine Yau ?_|refine Yan ?_|refine Ya3 ?_|refine Yar (fun _ _ hS _ => ?_))|refine Yd1 ?_|refine Yab ?_)
  have hc := (hLo.rd hS).pts
  repeat (first|refine Yeg ?_|refine Ya4 ?_|refine Yb7 ?_|refine Yc9 ?_|refine Yb4 ?_|refine Yae ?_|refine Yaj ?_|refine Yab ?_)
  rw [Zgb] at hS
  refine Zao (.s 0 (.s 1 (.h 2 (.s 3 (.h 4 (.s 5 .nil) .no)) .no))) mixed (by kernel_rfl) rfl ?_
  have hS := hS.drew
  repeat (first|refine Yao (fun _ hS _ => ?_)|refine Ycl (fun _ hS => ?_)|refine Yah ?_|refine Yab ?_|refine Yaq ?_|refine Yco ?_|(refine Zad ?_;first|refine Yay ?_|refine Ybn ?_|refine Yb1 ?_|refine Yas ?_)|(refine Zac ?_;first|refine Yaz ?_))
  rw [e]
  exact ⟨none,0,rfl,Nat.le_refl _,hS.drops.row_none⟩
 have e : entM D j number at_ = if ¬ (D.read (1 + 2 * at_)).1 = 0 ∨ ¬ (D.read (1 + 2 * at_ + 1)).1 = 0 then Ent.none else
   Ztv (D.read (1 + 2 * at_)).2 (D.read (1 + 2 * at_ + 1)).2 number at_ ((D.laid.length : Int) - 1 - j) := by unfold entM; rw [if_neg (by omega)]
 have hra := fun (h : (D.read (1 + 2 * at_)).1 = 0) => Zh0 hok h
 have hrb := fun (h : (D.read (1 + 2 * at_ + 1)).1 = 0) => Zh0 hok h
 refine Zab Tryz.func204 rfl Tryz.ntmps204 rfl ?_
 repeat (first|refine Yeg ?_|(refine X_id ?_;first|refine Yaf ?_|refine Yag ?_|refine Yau ?_|refine Yan ?_|refine Ya3 ?_|refine Yar (fun _ _ hS _ => ?_))|refine Yd1 ?_|refine Yab ?_)
 have hc := (hLo.rd hS).pts
 repeat (first|refine Yeg ?_|(refine X_id ?_;first|refine Yaf ?_|refine Yau ?_|refine Yan ?_|refine Ya4 ?_|refine Yb9 ?_|refine Yax ?_|refine Ych ?_|refine Yc9 ?_|refine Yb4 ?_)|refine Yeb ?_|refine Yab ?_)
 rename_i b6 _ _ _ b8 _ _
 rw [Zgb] at hS
 refine Zaa _ rfl rfl rfl rfl rfl (Zu0 p D (1 + 2 * at_) _ (hDo.rd hS) hline) ?_
 rintro _ w ⟨a,ca,rfl,hca,hS'⟩
 replace hS := hS.plus hS'
 clear hS'
 have hc := (hLo.rd hS).pts
 repeat (first|refine Yd0 ?_|(refine X_id ?_;first|refine Yaf ?_|refine Yag ?_|refine Yau ?_|refine Yan ?_|refine Ya1 ?_|refine Yax ?_|refine Ych ?_|refine Yb4 ?_)|refine Yd1 ?_|refine Yab ?_)
 refine Zaa _ rfl rfl rfl rfl rfl (Zu0 p D (1 + 2 * at_ + 1) _ (hDo.rd hS) hline) ?_
 rintro _ w ⟨b,cb,rfl,hcb,hS'⟩
 replace hS := hS.plus hS'
 clear hS'
 generalize D.read (1 + 2 * at_) = ra at hra hca hS e ⊢
 generalize D.read (1 + 2 * at_ + 1) = rb at hrb hcb hS e ⊢
 obtain ⟨ea,la⟩ := ra
 obtain ⟨eb,lb⟩ := rb
 simp only at hra hrb hca hcb hS e ⊢
 by_cases hea : ea = 0
 ·by_cases heb : eb = 0
  ·subst hea heb
   have hla := hra rfl
   have hlb := hrb rfl
   rw [if_neg (by simp)] at e
   rw [e]
   clear hra hrb
   obtain ⟨ab,ao,rfl⟩ := (hS.rd (List.mem_cons_of_mem _ (List.mem_cons_self ..))).base (by intro e; have := Zaq la; rw [e] at this; simp at this; omega)
   repeat (first|refine Yeg ?_|(refine X_id ?_;first|refine Yaf ?_|refine Yag ?_|refine Ya1 ?_|refine Ya4 ?_|refine Ybd ?_)|refine Yeb ?_|refine Yab ?_)
   refine Zao (.s 0 (.s 1 (.s 3 (.s 4 (.s 6 (.h 2 (.h 5 (.s 7 (.s 8 (.h 9 .nil .no))) .no) .no)))))) mixed (by kernel_rfl) rfl ?_
   have hS := hS.drew
   repeat (first|(refine Zad ?_;first|refine Ya0 ?_))
   refine Zaj rfl rfl (fun _ => Zan (l := 12) (h := 16) rfl rfl rfl rfl (.inr ⟨_,_,rfl,by omega,by omega,by omega⟩) (.inr ⟨_,_,rfl,by omega,by omega,by omega⟩)) rfl rfl ?_
   rw [show sub (some ⟨ab,ao,none⟩) 12 1 ca = some ⟨ab,ao + 12,none⟩ by unfold sub; rw [if_neg (by omega)]; simp [Zbg]]
   repeat (first|(refine Zad ?_;first|refine Ya0 ?_))
   refine Zaj rfl rfl (fun _ => Zan (l := 16) (h := 20) rfl rfl rfl rfl (.inr ⟨_,_,rfl,by omega,by omega,by omega⟩) (.inr ⟨_,_,rfl,by omega,by omega,by omega⟩)) rfl rfl ?_
   rw [show sub (some ⟨ab,ao,none⟩) 16 1 ca = some ⟨ab,ao + 16,none⟩ by unfold sub; rw [if_neg (by omega)]; simp [Zbg]]
   repeat (first|(refine Zad ?_;first|refine Ya0 ?_|refine Yas ?_))
   refine Zaa _ rfl rfl rfl rfl rfl (Zjp ab ao 12 4 ca la _ (hS.rd (List.mem_cons_of_mem _ (List.mem_cons_self ..))) (by omega) (by omega) (by omega) (by omega)) ?_
   rintro _ _ ⟨rfl,rfl⟩
   repeat (first|(refine Zad ?_;first|refine Yas ?_)|(refine Zac ?_;first|refine Yaz ?_))
   refine Zaa _ rfl rfl rfl rfl rfl (Zjp ab ao 16 4 ca la _ (hS.rd (List.mem_cons_of_mem _ (List.mem_cons_self ..))) (by omega) (by omega) (by omega) (by omega)) ?_
   rintro _ _ ⟨rfl,rfl⟩
   repeat (first|refine Yao (fun _ hS _ => ?_)|refine Yae ?_|refine Yab ?_|(refine Zad ?_;first|refine Yay ?_|refine Ybn ?_|refine Ycb ?_|refine Yas ?_)|(refine Zac ?_;first|refine Yaz ?_))
   refine Zao (.s 0 (.s 1 (.s 2 (.h 3 .nil .no)))) mixed (by kernel_rfl) rfl ?_
   have hS := hS.drew
   repeat (first|(refine Zad ?_;first|refine Ya0 ?_|refine Yda ?_))
   refine Zaj rfl rfl (fun _ => Zan (l := 20) (h := la.length) rfl rfl rfl rfl (.inl ⟨rfl,rfl⟩) (.inr ⟨_,_,rfl,by omega,by omega,by omega⟩)) rfl rfl ?_
   rw [show sub (some ⟨ab,ao,none⟩) 20 1 ca = some ⟨ab,ao + 20,none⟩ by unfold sub; rw [if_neg (by omega)]; simp [Zbg]]
   repeat (first|(refine Zad ?_;first|refine Yas ?_))
   have hla2 : Rd _ (bytes (some ⟨ab,ao,none⟩) la) := hS.rd (List.mem_cons_of_mem _ (List.mem_cons_self ..))
   have hla3 := hla2.subBytes (l := 20) (h := la.length) (c := ca) (by omega) (by omega)
   rw [show sub (some ⟨ab,ao,none⟩) 20 1 ca = some ⟨ab,ao + 20,none⟩ by unfold sub; rw [if_neg (by omega)]; simp [Zbg]] at hla3
   refine Zpp rfl rfl rfl rfl rfl hS hla3 (by simp) Zel (by simp) (fun w hS => ?_)
   clear hla2 hla3
   obtain ⟨d,hde⟩ : ∃ d,d = (la.drop 20).take 32 := ⟨_,rfl⟩
   have hd32 : d.length = 32 := by rw [hde]; simp; omega
   rw [show Zah (bv (List.replicate 32 0)) 0 ((bv ((la.drop 20).take (la.length - 20))).take 32) = bv d by
    rw [← Zkf,List.take_take,show min 32 (la.length - 20) = 32 by omega,← hde]
    exact Zk6 (by simp [hd32])] at hS
   have hl32 : LenO (bv d) 32 := ⟨by simp [hd32]⟩
   repeat (first|refine Yae ?_|refine Yab ?_|(refine Zad ?_;first|refine Yay ?_)|(refine Zac ?_;first|refine Yaz ?_))
   obtain ⟨no,hno⟩ : ∃ no,no = Zcq ((la.drop 16).take 4) := ⟨_,rfl⟩
   obtain ⟨cnt,hcnt⟩ : ∃ cnt,cnt = Zcq ((la.drop 12).take 4) := ⟨_,rfl⟩
   unfold Ztv
   rw [← hno,← hcnt,← hde]
   rw [← hno] at hS
   refine Zao (.s 0 (.s 1 (.s 2 (.s 3 (.s 4 (.s 5 (.s 6 (.s 7 (.s 8 (.s 9 (.h 10 (.h 11 (.s 12 (.s 13 (.s 14 (.s 15 (.h 16 (.s 17 (.s 18 (.h 19 (.s 20 (.h 21 (.s 22 .nil) .no)) .no))) .no))))) .no) .no))))))))))) mixed (by kernel_rfl) rfl ?_
   have hS := hS.drew
   repeat (first|(refine Zad ?_;first|refine Ya0 ?_|refine Ybj ?_|refine Ybm ?_|refine Yb1 ?_|refine Yas ?_))
   refine Zaa _ rfl rfl rfl rfl rfl (Z29 number at_ cnt no d hd32 _) ?_
   rintro _ w ⟨q,k,rfl,hS'⟩
   replace hS := hS.plus hS'
   clear hS'
   repeat (first|(refine Zad ?_;first|refine Yas ?_)|(refine Zac ?_;first|refine Yaz ?_))
   refine Zaa _ rfl rfl rfl rfl rfl (Zsg _ _ _ _ _ _ la (Zhc number at_ cnt no d) _ (hS.rd (List.mem_cons_of_mem _ (List.mem_cons_of_mem _ (List.mem_cons_self ..)))) (hS.rd (List.mem_cons_self ..)) rfl (Zfa ..)) ?_
   rintro _ _ ⟨rfl,rfl⟩
   by_cases hq : la = Zhc number at_ cnt no d
   ·rw [decide_eq_true hq]
    repeat (first|(refine X_id ?_;first|(refine Zae 135 rfl rfl rfl rfl rfl hS (Zec lp p o s m j done rdn D _ (hLo.rd hS) (hDo.rd hS) hj) ?_;rintro _ _ rfl hS)|refine Yao (fun _ hS _ => ?_)|refine Ycl (fun _ hS => ?_))|refine Yah ?_|refine Yab ?_|refine Yco ?_|(refine Zad ?_;first|refine Yay ?_|refine Ya0 ?_|refine Ybn ?_|refine Ycd ?_|refine Yas ?_|refine Yce ?_|refine Ycu ?_|refine Zcb rfl rfl rfl rfl (fun _ => Zpg rfl rfl rfl) rfl rfl ?_|refine Ydb ?_|refine Yc4 ?_)|(refine Zac ?_;first|refine Yaz ?_))
    exact ⟨b,cb,rfl,hcb,hS.pick [1]⟩
   ·rw [decide_eq_false hq]
    repeat (first|refine Yao (fun _ hS _ => ?_)|refine Ycl (fun _ hS => ?_)|refine Yah ?_|refine Yab ?_|refine Yco ?_|(refine Zad ?_;first|refine Yay ?_|refine Ya0 ?_|refine Ybn ?_|refine Ycf ?_|refine Yas ?_|refine Yc6 ?_|refine Ycj ?_)|(refine Zac ?_;first|refine Yaz ?_))
    exact ⟨b,cb,rfl,hcb,hS.pick [1]⟩
  ·rw [if_pos (.inr heb)] at e
   repeat (first|refine Yeg ?_|(refine X_id ?_;first|refine Yaf ?_|refine Yag ?_|refine Ya1 ?_|refine Ya4 ?_|refine Ybl ?_|refine Ybd ?_)|refine Yea ?_|refine Yab ?_)
   refine Zao (.s 0 (.s 1 (.h 2 (.s 3 (.h 4 (.s 5 .nil) .no)) .no))) mixed (by kernel_rfl) rfl ?_
   have hS := hS.drew
   repeat (first|refine Yao (fun _ hS _ => ?_)|refine Ycl (fun _ hS => ?_)|refine Yah ?_|refine Yab ?_|refine Yaq ?_|refine Yco ?_|(refine Zad ?_;first|refine Yay ?_|refine Ybn ?_|refine Yb1 ?_|refine Yas ?_)|(refine Zac ?_;first|refine Yaz ?_))
   rw [e]
   exact ⟨none,0,rfl,Nat.le_refl _,hS.drops.row_none⟩
 ·rw [if_pos (.inl hea)] at e
  repeat (first|refine Yej ?_|(refine X_id ?_;first|refine Yaf ?_|refine Yag ?_|refine Ya1 ?_|refine Ya5 ?_|refine Ybl ?_)|refine Yea ?_|refine Yab ?_)
  refine Zao (.s 0 (.s 1 (.h 2 (.s 3 (.h 4 (.s 5 .nil) .no)) .no))) mixed (by kernel_rfl) rfl ?_
  have hS := hS.drew
  repeat (first|refine Yao (fun _ hS _ => ?_)|refine Ycl (fun _ hS => ?_)|refine Yah ?_|refine Yab ?_|refine Yaq ?_|refine Yco ?_|(refine Zad ?_;first|refine Yay ?_|refine Ybn ?_|refine Yb1 ?_|refine Yas ?_)|(refine Zac ?_;first|refine Yaz ?_))
  rw [e]
  exact ⟨none,0,rfl,Nat.le_refl _,hS.drops.row_none⟩
end Cr
namespace Cr
open Go Go.Proofs
set_option maxRecDepth 100000
set_option maxHeartbeats 4000000
attribute [local irreducible] Calls

/-! ### clear -/
def Zhr : List UInt8 := List.replicate 64 0
def Zo4 (D : DiskM) (number : Int) : Int × DiskM :=
 if ¬ (D.read 1).1 = 0 then ((D.read 1).1,D) else if ¬ Zcq ((D.read 1).2.take 8) = number then (0,D) else Zc5 (Zde (0,D) 1 Zhr)
theorem clear_ (lp p : Nat) (o s m : Int) (j : Nat) (done : Int) (rdn : Bool) (D : DiskM) (number : Int) (W : World) (F : Nat → Prop) (hline : D.line.length < 1073741820) (hS : St W F [Zb9 lp p o s m j done rdn,disk p D] W) :
  Calls Tryz.prog 134 #[.pointer (some ⟨lp,0,none⟩),.int .i64 number] W (Ret fun v w => v = .int .i64 (Zo4 D number).1 ∧ St W F [Zb9 lp p o s m j done rdn,disk p (Zo4 D number).2] w) := by
 have hok := (hS.rd (List.mem_cons_of_mem _ (List.mem_cons_self ..)) : Rd W (disk p D)).disk.1
 have h64 := fun (h : (D.read 1).1 = 0) => Zh0 hok h
 have e : Zo4 D number = if ¬ (D.read 1).1 = 0 then ((D.read 1).1,D) else if ¬ Zcq ((D.read 1).2.take 8) = number then (0,D) else Zc5 (Zde (0,D) 1 Zhr) := rfl
 refine Zab Tryz.func134 rfl Tryz.ntmps134 rfl ?_
 repeat (first|refine Yd0 ?_|(refine X_id ?_;first|refine Yaf ?_|refine Yag ?_|refine Yau ?_|refine Yan ?_|refine Yap ?_)|refine Yd1 ?_|refine Yab ?_)
 refine Zaa _ rfl rfl rfl rfl rfl (Zu0 p D 1 _ (hS.rd (List.mem_cons_of_mem _ (List.mem_cons_self ..))) (by omega)) ?_
 rintro _ w ⟨a,ca,rfl,hca,hS'⟩
 replace hS := hS.plus hS'
 clear hS'
 generalize D.read 1 = ra at h64 hca hS e ⊢
 obtain ⟨ea,la⟩ := ra
 simp only at h64 hca hS e ⊢
 by_cases hea : ea = 0
 ·subst hea
  have hla := h64 rfl
  rw [if_neg (by simp)] at e
  obtain ⟨ab,ao,rfl⟩ := (hS.rd (List.mem_cons_self ..)).base (by intro e; have := Zaq la; rw [e] at this; simp at this; omega)
  have hsm : ∀ w',Rd w' (bytes (some ⟨ab,ao,none⟩) la) → Calls Tryz.prog 202 #[.slice (some ⟨ab,ao,none⟩) 8 ca] w' (Ret fun v w'' => v = .int .i64 (Zcq (la.take 8)) ∧ w' = w'') := fun w' h => by
   have := Zjp ab ao 0 8 ca la w' h (by omega) (by omega) (by omega) (by omega)
   simpa using this
  repeat (first|refine Yeg ?_|refine Yaf ?_|refine Yag ?_|refine Ya1 ?_|refine Ybd ?_|refine Yd1 ?_|refine Yab ?_)
  refine X_yl (Zan (l := 0) (h := 8) rfl rfl rfl rfl (.inr ⟨_,_,rfl,by omega,by omega,by omega⟩) (.inl ⟨rfl,rfl⟩)) rfl rfl ?_
  rw [sub_zero,Nat.sub_zero,Nat.sub_zero]
  generalize Zcq (la.take 8) = n at hsm e
  by_cases hn : n = number
  ·subst hn
   rw [if_neg (by simp)] at e
   repeat (first|refine Yeg ?_|(refine X_id ?_;first|(refine Zaa 202 rfl rfl rfl rfl rfl (hsm _ (hS.rd (List.mem_cons_self ..))) ?_;rintro _ _ ⟨rfl,rfl⟩)|refine Yaf ?_|refine Yag ?_|refine Yau ?_|refine Yan ?_|refine Ya4 ?_|refine Ybd ?_|refine Ybk ?_|refine Yap ?_|refine Ya6 (fun _ _ hS _ => ?_))|refine Yeb ?_|refine Yab ?_)
   rename_i sp _ _
   refine Zni (c := 64) rfl rfl rfl (by omega) (by omega) rfl rfl hS (fun zb _ hS => ?_)
   repeat (first|refine Yaa ?_)
   obtain ⟨_,hc,hr,hw,hbk⟩ := hS.call [false,true,false,false,true]
   refine Zaa _ rfl rfl rfl rfl rfl (Zjm sp p (0,D) 1 _ 64 64 Zhr _ _ hc ((hr _ (List.mem_cons_self ..)).mono fun h hh => ⟨h,Zmi h hh,fun _ _ e => e⟩) rfl (by simp only; omega)) ?_
   rintro _ w ⟨_,hS⟩
   replace hS := hbk hS
   clear hc hr hw hbk
   have hl := Zdf (0,D) 1 Zhr
   simp only at hl
   repeat (first|refine Yd0 ?_|refine Yaf ?_|refine Yd1 ?_|refine Yab ?_)
   obtain ⟨_,hc,hr,hw,hbk⟩ := hS.call [true,true,false,false,false]
   refine Zaa _ rfl rfl rfl rfl rfl (Zmc sp p (Zde (0,D) 1 Zhr) _ _ hc (by omega)) ?_
   rintro _ w ⟨_,hS⟩
   replace hS := hbk hS
   clear hc hr hw hbk
   rw [e]
   generalize Zc5 (Zde (0,D) 1 Zhr) = Y at hS ⊢
   repeat (first|refine Yd0 ?_|(refine X_id ?_;first|refine Yaf ?_|refine Yag ?_|refine Yau ?_|refine Yan ?_|refine Yap ?_)|refine Yed ?_|refine Yd2 ?_)
   refine ⟨rfl,?_⟩
   have hS := hS.pick [4,1]
   exact hS
  ·rw [if_pos hn] at e
   repeat (first|refine Yeg ?_|(refine X_id ?_;first|(refine Zaa 202 rfl rfl rfl rfl rfl (hsm _ (hS.rd (List.mem_cons_self ..))) ?_;rintro _ _ ⟨rfl,rfl⟩)|refine Yaf ?_|refine Yag ?_|refine Ya4 ?_|refine Ybl ?_)|refine Yeh ?_|refine Yei ?_)
   rw [e]
   exact ⟨rfl,hS.pick [1,1]⟩
 ·rw [if_pos hea] at e
  repeat (first|refine Yej ?_|(refine X_id ?_;first|refine Yaf ?_|refine Yag ?_|refine Ya1 ?_|refine Ya5 ?_|refine Ybl ?_)|refine Yeh ?_|refine Yei ?_)
  rw [e]
  exact ⟨rfl,hS.pick [1,1]⟩
end Cr
namespace Cr
open Go Go.Proofs
set_option maxRecDepth 100000
set_option maxHeartbeats 8000000
attribute [local irreducible] Calls
instance : NoGuard Tryz.prog 79 := ⟨by kernel_rfl⟩

theorem Zz0 (D : DiskM) (hok : D.ok) (j : Nat) (number at_ : Int) : (entM D j number at_).d.length = 32 := by
 unfold entM
 split
 ·simp [Ent.none]
 ·split
  ·simp [Ent.none]
  ·rename_i h
   have h1 : (D.read (1 + 2 * at_)).1 = 0 := Decidable.byContradiction fun e => h (.inl e)
   have := Zh0 hok h1
   simp [Ztv,this]
theorem Zv4 {D : DiskM} {j : Nat} {number at_ : Int} (h : (entM D j number at_).ok = true) : 0 ≤ at_ ∧ at_ < (j : Int) / 2 := by
 unfold entM at h
 split at h
 ·simp [Ent.none] at h
 ·rename_i h'; omega
theorem Z30 (D : DiskM) (hok : D.ok) (j : Nat) (number at_ : Int) : (entM D j number at_).b.length ≤ 64 := by
 unfold entM
 split
 ·simp [Ent.none]
 ·split
  ·simp [Ent.none]
  ·rename_i h
   have h1 : (D.read (1 + 2 * at_ + 1)).1 = 0 := Decidable.byContradiction fun e => h (.inr e)
   have := Zh0 hok h1
   simp [Ztv,this]
theorem Zhk (number : Int) (d : List (Int × List UInt8)) (h : ∀ x ∈ d,x.2.length ≤ 64) : (Zbp (Zfo number d)).length ≤ 20 + d.length * 76 := by
 have key : ∀ d : List (Int × List UInt8),(∀ x ∈ d,x.2.length ≤ 64) → (Zbp (d.flatMap fun v => [bigB v.1 4,v.2])).length ≤ d.length * 76 := by
  intro d
  induction d with
  | nil => intro _; simp [Zbp]
  | cons x d ih =>
   intro h
   have h1 := ih fun y hy => h y (List.mem_cons_of_mem _ hy)
   have h2 := h x (List.mem_cons_self ..)
   simp only [Zbp,List.flatMap_cons,List.cons_append,List.nil_append,List.length_append,Zcm,Zag,List.length_cons] at h1 ⊢
   omega
 have h1 := key d h
 unfold Zbp at h1
 simp only [Zfo,Zbp,List.flatMap_cons,List.cons_append,List.nil_append,List.length_append,Zcm,Zag]
 omega
def entW (e : Ent) : Int × List UInt8 := (e.no,e.b)
def Zj3 (e0 e : Ent) : Bool := e.ok && decide (e.count = e0.count) && decide (e.d = e0.d)
def Zcv (D : DiskM) (j : Nat) (number : Int) (n : Nat) : List Ent := (List.range n).map fun i => entM D j number (i : Nat)
theorem Zoz (D : DiskM) (j : Nat) (number : Int) (n : Nat) : Zcv D j number (n + 1) = Zcv D j number n ++ [entM D j number (n : Nat)] := by simp [Zcv,List.range_succ]
def Zou (D : DiskM) (j : Nat) (number : Int) : Option (List (Int × List UInt8)) :=
 if (entM D j number 0).ok = true ∧ 1 ≤ (entM D j number 0).count then
  if (Zcv D j number (entM D j number 0).count.toNat).all (Zj3 (entM D j number 0)) = true then some ((Zcv D j number (entM D j number 0).count.toNat).map entW) else none
 else none
def Zda (rd fs : List Int) (D : DiskM) (j : Nat) (number : Int) : List (Int × List UInt8) :=
 match Zou D j number with
 | none => []
 | some ws => if Zb3 ws = 0 ∧ sumB rd fs number ws = (entM D j number 0).d then ws else []
theorem Zqv {D : DiskM} {j : Nat} {number : Int} {e0 : Ent} {n i : Nat} (hi : i < n) (h : Zj3 e0 (entM D j number (i : Nat)) = false) : (Zcv D j number n).all (Zj3 e0) = false := by
 rw [List.all_eq_false]
 exact ⟨_,List.mem_map.2 ⟨i,List.mem_range.2 hi,rfl⟩,by simp [h]⟩
theorem Z3v (lp p : Nat) (o s m : Int) (j : Nat) (done : Int) (rdn : Bool) (D : DiskM) (number : Int) (rd fs : List Int) (W : World) (hG : Gl W noF rd fs) (hL : Rd W (Zb9 lp p o s m j done rdn)) (hD : Rd W (disk p D)) (hj : j ≤ 4096) (hline : D.line.length < 1073741824) :
  Calls Tryz.prog 132 #[.pointer (some ⟨lp,0,none⟩),.int .i64 number] W (Ret fun v w => ∃ a c ws O,v = .slice a ws.length c ∧ ws.map Wr.data = Zda rd fs D j number ∧ (a = none ↔ ws = []) ∧ (∀ v ∈ ws,v.x ∈ O) ∧
   St W noF [own 185 2 a c (ws.flatMap Wr.cells),rds O] w) := by
 have hS := St.start W
 have hLo := hL.ro
 have hDo := hD.ro
 have hok := hD.disk.1
 obtain ⟨e0,he0⟩ : ∃ e0,e0 = entM D j number 0 := ⟨_,rfl⟩
 have hd0 : e0.d.length = 32 := he0 ▸ Zz0 D hok j number 0
 have hl0 : LenO (bv e0.d) 32 := ⟨by simp [hd0]⟩
 have hnil : ∀ w,St W noF [] w → Zda rd fs D j number = [] → ∃ a c ws O,(Value.slice none 0 0) = .slice a ws.length c ∧ ws.map Wr.data = Zda rd fs D j number ∧ (a = none ↔ ws = []) ∧ (∀ v ∈ ws,v.x ∈ O) ∧
   St W noF [own 185 2 a c (ws.flatMap Wr.cells),rds O] w := fun w h e => ⟨none,0,[],[],rfl,by rw [e]; rfl,by simp,by simp,h.rdsNil.own_none _ _ _⟩
 refine Zab Tryz.func132 rfl Tryz.ntmps132 rfl ?_
 repeat (first|refine Yd0 ?_|refine Yee ?_|refine Yae ?_|refine Ycm ?_|refine Yad ?_|refine Yab ?_)
 refine Zaa _ rfl rfl rfl rfl rfl (Zzz lp p o s m j done rdn D number 0 _ (hLo.rd hS) (hDo.rd hS) hj hline (by omega)) ?_
 rintro _ w ⟨a0,c0,rfl,hc0,hS'⟩
 replace hS := hS.plus hS'
 clear hS'
 rw [← he0] at hS hc0 ⊢
 have hfl : Zou D j number = if e0.ok = true ∧ 1 ≤ e0.count then if (Zcv D j number e0.count.toNat).all (Zj3 e0) = true then some ((Zcv D j number e0.count.toNat).map entW) else none else none := by unfold Zou; rw [← he0]
 obtain ⟨no0,b0,n0,d0,ok0⟩ := e0
 simp only at hd0 hl0 hfl hS hc0
 unfold Ent.val
 simp only
 cases ok0
 ·repeat (first|refine Yej ?_|(refine X_id ?_;first|refine Yaf ?_|refine Yag ?_|refine Ya1 ?_|refine Ya5 ?_|refine Ybo ?_|refine Yao (fun _ hS _ => ?_)|refine Yar (fun _ _ hS _ => ?_))|refine Yeh ?_|refine Ye5 ?_)
  refine hnil _ hS.drops ?_
  unfold Zda
  rw [hfl,if_neg (by simp)]
 ·by_cases h1 : n0 < 1
  ·repeat (first|refine Yeg ?_|(refine X_id ?_;first|refine Yaf ?_|refine Yag ?_|refine Ya1 ?_|refine Ya4 ?_|refine Ybb ?_|refine Ya2 ?_|refine Yao (fun _ hS _ => ?_)|refine Yar (fun _ _ hS _ => ?_))|refine Yeh ?_|refine Ye5 ?_)
   refine hnil _ hS.drops ?_
   unfold Zda
   rw [hfl,if_neg (by omega)]
  ·repeat (first|refine Yeg ?_|(refine X_id ?_;first|refine Yaf ?_|refine Yag ?_|refine Ya1 ?_|refine Ya4 ?_|refine Ybb ?_|refine Ya3 ?_|refine Yao (fun _ hS _ => ?_)|refine Yar (fun _ _ hS _ => ?_))|refine Yae ?_|refine Zid ?_|refine Yad ?_|refine Yal ?_|refine Yak ?_|refine Yai ?_|refine Yab ?_)
   rename_i b6 w6 _ _ b8 w8 _ _ w9 _ _ w10 _
   replace hS := (hS.pick [0]).rdsNil.own_none 185 2 none
   rw [if_pos ⟨rfl,by omega⟩] at hfl
   have hbad : ∀ i : Nat,i < n0.toNat → Zj3 ⟨no0,b0,n0,d0,true⟩ (entM D j number (i : Nat)) = false → Zda rd fs D j number = [] := fun i hi h => by
    unfold Zda
    rw [hfl,if_neg (by rw [Zqv hi h]; simp)]
   refine Zak (α := Nat × Option Addr × Nat × List Wr × List Bs) (fun z => [(0,.pointer (some ⟨lp,0,none⟩)),(1,.int .i64 number),(5,.slice z.2.1 z.2.2.2.1.length z.2.2.1),(7,.int .i64 n0),(8,.pointer (some ⟨b8,0,none⟩)),(10,.int .i64 (z.1 : Nat))])
    (fun z w => (z.1 ≤ n0.toNat ∧ z.1 ≤ 2048 ∧ z.2.2.2.1.length = z.1 ∧ z.2.2.2.1.length ≤ z.2.2.1) ∧ (z.2.2.2.1.map Wr.data = (Zcv D j number z.1).map entW ∧ (Zcv D j number z.1).all (Zj3 ⟨no0,b0,n0,d0,true⟩) = true ∧ (z.2.1 = none ↔ z.1 = 0) ∧ (∀ v ∈ z.2.2.2.1,v.x ∈ z.2.2.2.2) ∧ (∀ v ∈ z.2.2.2.1,v.x.s.length ≤ 64)) ∧
     St W noF [own 185 2 z.2.1 z.2.2.1 (z.2.2.2.1.flatMap Wr.cells),rds z.2.2.2.2,pts b8 (.cells (bv d0).toArray 79)] w) (fun z => n0.toNat - z.1)
    (0,none,0,[],[]) ⟨rfl,rfl,rfl,rfl,rfl,rfl,trivial⟩ ⟨⟨Nat.zero_le _,Nat.zero_le _,rfl,Nat.le_refl _⟩,⟨rfl,rfl,by simp,by simp,by simp⟩,hS⟩ ?_
   clear hS
   rintro ⟨i,a5,c5,ws,O⟩ w ⟨⟨hi,hi2,hwl,hwc⟩,⟨hwd,hgood,hnone,hO,hw64⟩,hS⟩
   simp only at hi hi2 hwl hwc hwd hgood hnone hO hw64 hS ⊢
   by_cases hlt : i < n0.toNat
   ·have hlt' : (i : Int) < n0 := by omega
    repeat (first|refine Yd0 ?_|refine Yaf ?_|refine Ya2 ?_|refine Yd4 ?_|refine Yab ?_)
    refine Zaa _ rfl rfl rfl rfl rfl (Zzz lp p o s m j done rdn D number (i : Nat) _ (hLo.rd hS) (hDo.rd hS) hj hline (by omega)) ?_
    rintro _ w ⟨a1,c1,rfl,hc1,hS'⟩
    replace hS := hS.plus hS'
    clear hS'
    have hok1 := fun h => (Zv4 (D := D) (j := j) (number := number) (at_ := (i : Nat)) h)
    have hsucc := Zoz D j number i
    have hd1 := Zz0 D hok j number (i : Nat)
    have hbadi := hbad i hlt
    have hb1 := Z30 D hok j number (i : Nat)
    generalize entM D j number (i : Nat) = e1 at hS hc1 hok1 hsucc hd1 hbadi hb1 ⊢
    obtain ⟨no1,b1,n1,d1,ok1⟩ := e1
    simp only at hd1 hS hc1 hok1 hb1
    have hl1 : LenO (bv d1) 32 := ⟨by simp [hd1]⟩
    unfold Ent.val
    simp only
    cases ok1
    ·have hf := hbadi (by simp [Zj3])
     repeat (first|refine Yej ?_|(refine X_id ?_;first|refine Yaf ?_|refine Yag ?_|refine Ya1 ?_|refine Ya5 ?_|refine Ybo ?_|refine Yao (fun _ hS _ => ?_)|refine Yar (fun _ _ hS _ => ?_))|refine Yae ?_|refine Yad ?_|refine Ya8 ?_|refine Yaj ?_|refine Ye6 ?_)
     refine Zao (.s 0 (.s 1 (.s 2 (.s 3 (.h 4 (.s 5 (.s 6 (.s 7 (.s 8 (.s 9 (.s 11 (.h 10 (.s 12 (.s 13 .nil)) .no))))))) .no))))) mixed (by kernel_rfl) rfl ?_
     have hS := hS.drew
     repeat (first|refine Yd0 ?_|refine Yag ?_|refine Yeh ?_|refine Ye5 ?_|(refine Zad ?_;first|refine Yay ?_|refine Ya0 ?_|refine Ycd ?_|refine Ydm ?_|refine Yc6 ?_|refine Ycj ?_))
     exact hnil _ hS.drops hf
    ·by_cases hn : n1 = n0
     ·by_cases hd : d1 = d0
      ·subst hn hd
       repeat (first|refine Yeg ?_|(refine X_id ?_;first|refine Yaf ?_|refine Yag ?_|refine Ya1 ?_|refine Ya4 ?_|refine Ybb ?_|refine Ybd ?_|refine Ybe ?_|refine Yao (fun _ hS _ => ?_)|refine Yar (fun _ _ hS _ => ?_))|refine Yd1 ?_|refine Yab ?_)
       refine X_yl (Zkl rfl rfl rfl hd1 hd0) rfl rfl ?_
       rw [decide_eq_false (not_not_intro rfl)]
       repeat (first|refine Yd0 ?_|refine Yaf ?_|refine Ya4 ?_|refine Ybe ?_|refine Ybf (fun _ _ hS _ => ?_)|refine Yer ?_|refine Yab ?_)
       have hok2 := hok1 rfl
       refine Zap rfl rfl rfl rfl rfl hS (Zet (f := Wr.cells) (n := 2) fun _ _ => rfl) hwc (hS.rd (List.mem_cons_self ..)).own_row rfl (fun u hu => by
        simp only [List.mem_cons,List.not_mem_nil,or_false] at hu
        rcases hu with rfl | rfl <;> rfl) (by omega) (by simp only [maxLen]; omega) (fun a' c' w hS hc' hnil' => ?_)
       repeat (first|refine Yd0 ?_|refine Yef ?_|refine Yad ?_|refine Yd8 ?_)
       refine Zaf (z := (i,a5,c5,ws,O)) (i + 1,a',c',ws ++ [(⟨no1,⟨a1,c1,b1⟩⟩ : Wr)],O ++ [(⟨a1,c1,b1⟩ : Bs)]) ⟨rfl,rfl,?_,rfl,rfl,rfl,trivial⟩ ⟨⟨by simp only; omega,by simp only; omega,by simp; omega,by simp; omega⟩,⟨?_,?_,?_,?_,?_⟩,?_⟩ (by simp only; omega)
       ·show some _ = some _
        simp
       ·show (ws ++ _).map Wr.data = _
        rw [hsucc,List.map_append,List.map_append,hwd]
        rfl
       ·show (Zcv D j number (i + 1)).all _ = true
        rw [hsucc,List.all_append,hgood]
        simp [Zj3]
       ·show a' = none ↔ i + 1 = 0
        rw [hnil']; simp
       ·intro v hv
        simp only [List.mem_append,List.mem_singleton] at hv ⊢
        rcases hv with hv | rfl
        ·exact .inl (hO v hv)
        ·exact .inr rfl
       ·intro v hv
        simp only [List.mem_append,List.mem_singleton] at hv
        rcases hv with hv | rfl
        ·exact hw64 v hv
        ·exact hb1
       ·skip
        have hS := hS.pick [4,4,0,3]
        replace hS := St.rdsCons (x := ⟨a1,c1,b1⟩) hS
        have hS := hS.pick [1,0,0]
        simpa [Wr.cells] using hS
      ·have hf := hbadi (by simp [Zj3,hd])
       repeat (first|refine Yeg ?_|(refine X_id ?_;first|refine Yaf ?_|refine Yag ?_|refine Ya1 ?_|refine Ya4 ?_|refine Ybb ?_|refine Ybd ?_|refine Ybe ?_|refine Yao (fun _ hS _ => ?_)|refine Yar (fun _ _ hS _ => ?_))|refine Yd1 ?_|refine Yab ?_)
       refine X_yl (Zkl rfl rfl rfl hd1 hd0) rfl rfl ?_
       rw [decide_eq_true hd]
       repeat (first|refine Yd0 ?_|refine Yag ?_|refine Ya4 ?_|refine Yae ?_|refine Yad ?_|refine Ya8 ?_|refine Yaj ?_|refine Ye6 ?_)
       refine Zao (.s 0 (.s 1 (.s 2 (.s 3 (.h 4 (.s 5 (.s 6 (.s 7 (.s 8 (.s 9 (.s 11 (.h 10 (.s 12 (.s 13 .nil)) .no))))))) .no))))) mixed (by kernel_rfl) rfl ?_
       have hS := hS.drew
       repeat (first|refine Yd0 ?_|refine Yag ?_|refine Yeh ?_|refine Ye5 ?_|(refine Zad ?_;first|refine Yay ?_|refine Ya0 ?_|refine Ycd ?_|refine Ydm ?_|refine Yc6 ?_|refine Ycj ?_))
       exact hnil _ hS.drops hf
     ·have hf := hbadi (by simp [Zj3,hn])
      repeat (first|refine Yeu ?_|(refine X_id ?_;first|refine Yaf ?_|refine Yag ?_|refine Ya1 ?_|refine Ya5 ?_|refine Ya4 ?_|refine Ybb ?_|refine Ybl ?_|refine Yao (fun _ hS _ => ?_)|refine Yar (fun _ _ hS _ => ?_))|refine Yae ?_|refine Yad ?_|refine Ya8 ?_|refine Yaj ?_|refine Ye6 ?_)
      refine Zao (.s 0 (.s 1 (.s 2 (.s 3 (.h 4 (.s 5 (.s 6 (.s 7 (.s 8 (.s 9 (.s 11 (.h 10 (.s 12 (.s 13 .nil)) .no))))))) .no))))) mixed (by kernel_rfl) rfl ?_
      have hS := hS.drew
      repeat (first|refine Yd0 ?_|refine Yag ?_|refine Yeh ?_|refine Ye5 ?_|(refine Zad ?_;first|refine Yay ?_|refine Ya0 ?_|refine Ycd ?_|refine Ydm ?_|refine Yc6 ?_|refine Ycj ?_))
      exact hnil _ hS.drops hf
   ·obtain rfl : i = n0.toNat := by omega
    have hn0 : ((n0.toNat : Nat) : Int) = n0 := by omega
    obtain ⟨ad,rfl⟩ : ∃ ad,a5 = some ad := by
     cases a5 with
     | none => have := hnone.1 rfl; omega
     | some ad => exact ⟨ad,rfl⟩
    obtain ⟨d,hd⟩ : ∃ d,d = ws.map Wr.data := ⟨_,rfl⟩
    rw [if_pos hgood,← hwd,← hd] at hfl
    have hfm : Zda rd fs D j number = if Zb3 d = 0 ∧ sumB rd fs number d = d0 then d else [] := by
     unfold Zda
     rw [hfl,← he0]
    have hdw : d.length = ws.length := by rw [hd]; simp
    have hfr := Zhk number d (fun x hx => by
     rw [hd] at hx
     obtain ⟨v,hv,rfl⟩ := List.mem_map.1 hx
     exact hw64 v hv)
    have hWW : ∀ w rs,St W noF (own 185 2 (some ad) c5 (ws.flatMap Wr.cells) :: rds O :: rs) w → Wrs w noF (some ad) ws := fun w rs h => ⟨(h.rd (List.mem_cons_self ..)).own_row.ro,fun v hv => (h.rd (List.mem_cons_of_mem _ (List.mem_cons_self ..))).ro.rds _ (hO v hv)⟩
    repeat (first|refine Yd0 ?_|refine Yaf ?_|refine Ya3 ?_|refine Yec ?_|refine Yd6 ?_)
    refine Zao (.s 0 (.s 1 (.s 2 (.s 3 (.h 4 (.s 5 (.s 6 (.s 7 (.s 8 (.s 9 (.s 11 (.h 10 (.s 12 (.s 13 .nil)) .no))))))) .no))))) mixed (by kernel_rfl) rfl ?_
    have hS := hS.drew
    repeat (first|(refine Zad ?_;first|refine Ya0 ?_|refine Ydm ?_|refine Yce ?_|refine Ydb ?_))
    refine Zae _ rfl rfl rfl rfl rfl hS (Zke (some ad) c5 ws _ (hWW _ _ hS) (by omega) (fun v hv => by have := hw64 v hv; omega)) ?_
    rintro _ w rfl hS
    rw [← hd]
    by_cases hck : Zb3 d = 0
    ·repeat (first|(refine Zad ?_;first|refine Ya0 ?_|refine Ycf ?_|refine Yce ?_|refine Zcb rfl rfl rfl rfl (fun _ => Zsv rfl rfl rfl (by omega)) rfl rfl ?_|refine Ydb ?_|refine Zdu (fun w' => Zfm w' _ _ _) rfl rfl rfl rfl hS.cellsN (fun _ hc => Zco rfl rfl hc) rfl rfl ?_)|(refine Zac ?_;first|refine Yaz ?_))
     refine Zae _ rfl rfl rfl rfl rfl hS (Z2g number (some ad) c5 ws rd fs _ (hG.mono fun r hr => (hr.rd hS).ro) (hWW _ _ hS) (by omega) (by rw [← hd]; omega)) ?_
     rintro _ w rfl hS
     rw [← hd]
     repeat (first|(refine Zac ?_;first|refine Yaz ?_))
     refine Zcb rfl rfl rfl rfl (fun _ => Zkl rfl rfl rfl (Zjn ..) hd0) rfl rfl ?_
     by_cases hsm : sumB rd fs number d = d0
     ·rw [decide_eq_false (not_not_intro hsm)]
      repeat (first|refine Yd0 ?_|refine Yee ?_|refine Yep ?_|refine Yab ?_|refine Yb6 ?_|refine Yam ?_|(refine Zad ?_;first|refine Yay ?_|refine Ycf ?_))
      refine ⟨some ad,c5,ws,O,rfl,?_,?_,hO,hS.pick [0,0]⟩
      ·rw [hfm,if_pos ⟨hck,hsm⟩,hd]
      ·constructor
       ·intro h; cases h
       ·intro h; rw [h] at hwl; simp at hwl; omega
     ·rw [decide_eq_true hsm]
      repeat (first|refine Yd0 ?_|refine Yag ?_|refine Yeh ?_|refine Ye5 ?_|(refine Zad ?_;first|refine Yay ?_|refine Ycf ?_))
      exact hnil _ hS.drops (by rw [hfm,if_neg (fun h => hsm h.2)])
    ·repeat (first|refine Yd0 ?_|refine Yag ?_|refine Yeh ?_|refine Ye5 ?_|(refine Zad ?_;first|refine Yay ?_|refine Ya0 ?_|refine Ycd ?_|refine Ycf ?_|refine Zcb rfl rfl rfl rfl (fun _ => Zna rfl rfl rfl (by omega)) rfl rfl ?_|refine Yc6 ?_|refine Ycj ?_)|(refine Zac ?_;first|refine Yaz ?_))
     exact hnil _ hS.drops (by rw [hfm,if_neg (fun h => hck h.1)])
end Cr
namespace Cr
open Go Go.Proofs
set_option maxRecDepth 100000
set_option maxHeartbeats 8000000
attribute [local irreducible] Calls

theorem Zej {d : List (Int × List UInt8)} (h : Zb3 d = 0) : ∀ x ∈ d,0 ≤ x.1 ∧ x.2.length = 64 := by
 intro x hx
 unfold Zb3 at h
 by_cases ha : d.any badW = true
 ·rw [if_pos ha] at h; cases h
 ·have : badW x = false := by
   cases hb : badW x
   ·rfl
   ·exact absurd (List.any_eq_true.2 ⟨x,hx,hb⟩) ha
  unfold badW at this
  simp only [Bool.or_eq_false_iff,decide_eq_false_iff_not] at this
  omega
theorem Zyx {D : DiskM} {j : Nat} {number at_ : Int} (h : (entM D j number at_).ok = true) : (entM D j number at_).no < (D.laid.length : Int) - 1 - j := by
 unfold entM at h ⊢
 split at h
 ·simp [Ent.none] at h
 ·rename_i h1
  rw [if_neg h1]
  split at h
  ·simp [Ent.none] at h
  ·rename_i h2
   rw [if_neg h2]
   simp only [Ztv,Bool.and_eq_true,decide_eq_true_eq] at h ⊢
   exact h.2
theorem Ztq (rd fs : List Int) (D : DiskM) (j : Nat) (number : Int) : (∀ x ∈ Zda rd fs D j number,0 ≤ x.1 ∧ x.1 < (D.laid.length : Int) - 1 - j ∧ x.2.length = 64) ∧ ((Zda rd fs D j number).length : Int) ≤ (j : Int) / 2 := by
 unfold Zda
 cases hf : Zou D j number with
 | none => simp; omega
 | some ws =>
  simp only
  split
  ·rename_i hc
   unfold Zou at hf
   split at hf
   ·split at hf
    ·rename_i h1 h2
     simp only [Option.some.injEq] at hf
     have hall := List.all_eq_true.1 h2
     have hg : ∀ e ∈ Zcv D j number (entM D j number 0).count.toNat,e.ok = true := fun e he => by
      have := hall e he
      simp only [Zj3,Bool.and_eq_true] at this
      exact this.1.1
     constructor
     ·intro x hx
      have h3 := Zej hc.1 x hx
      refine ⟨h3.1,?_,h3.2⟩
      rw [← hf] at hx
      obtain ⟨e,he,rfl⟩ := List.mem_map.1 hx
      obtain ⟨i,hi,rfl⟩ := List.mem_map.1 he
      exact Zyx (hg _ he)
     ·rw [← hf]
      simp only [List.length_map,Zcv,List.length_range]
      rcases Nat.eq_zero_or_pos (entM D j number 0).count.toNat with h0 | h0
      ·rw [h0]; omega
      ·have := hg (entM D j number ((entM D j number 0).count.toNat - 1 : Nat)) (List.mem_map.2 ⟨_,List.mem_range.2 (by omega),rfl⟩)
       have := (Zv4 this).2
       omega
    ·cases hf
   ·cases hf
  ·simp; omega

structure RedoM where
 e : Int
 D : DiskM
 done : Int
 redone : Bool
def last : Int := 1152921504606846976
def Zdl (rd fs : List Int) (D : DiskM) (j : Nat) (done : Int) (rdn : Bool) : RedoM :=
 if ¬ (D.read 0).1 = 0 then ⟨(D.read 0).1,D,done,rdn⟩ else
 if (Za3 rd fs (D.read 0).2).2 = false then ⟨5,D,done,rdn⟩ else
 if last ≤ (Za3 rd fs (D.read 0).2).1 then ⟨0,D,(Za3 rd fs (D.read 0).2).1,rdn⟩ else
 if Zda rd fs D j ((Za3 rd fs (D.read 0).2).1 + 1) = [] then
  ⟨(Zo4 D ((Za3 rd fs (D.read 0).2).1 + 1)).1,(Zo4 D ((Za3 rd fs (D.read 0).2).1 + 1)).2,(Za3 rd fs (D.read 0).2).1,rdn⟩
 else
  ⟨(layM rd fs j (0,D) ((Za3 rd fs (D.read 0).2).1 + 1) (Zda rd fs D j ((Za3 rd fs (D.read 0).2).1 + 1))).1,(layM rd fs j (0,D) ((Za3 rd fs (D.read 0).2).1 + 1) (Zda rd fs D j ((Za3 rd fs (D.read 0).2).1 + 1))).2,
   if (layM rd fs j (0,D) ((Za3 rd fs (D.read 0).2).1 + 1) (Zda rd fs D j ((Za3 rd fs (D.read 0).2).1 + 1))).1 = 0 then (Za3 rd fs (D.read 0).2).1 + 1 else (Za3 rd fs (D.read 0).2).1,true⟩
theorem Z5b (lp p : Nat) (o s m : Int) (j : Nat) (done : Int) (rdn : Bool) (D : DiskM) (rd fs : List Int) (W : World) (F : Nat → Prop) (hG : Gl W F rd fs) (hj : j ≤ 4096) (hline : D.line.length < 1073700000) (hS : St W F [Zb9 lp p o s m j done rdn,disk p D] W) :
  Calls Tryz.prog 80 #[.pointer (some ⟨lp,0,none⟩)] W (Ret fun v w => v = .int .i64 (Zdl rd fs D j done rdn).e ∧ St W F [Zb9 lp p o s m j (Zdl rd fs D j done rdn).done (Zdl rd fs D j done rdn).redone,disk p (Zdl rd fs D j done rdn).D] w) := by
 have hok := (hS.rd (List.mem_cons_of_mem _ (List.mem_cons_self ..)) : Rd W (disk p D)).disk.1
 have h64 := fun (h : (D.read 0).1 = 0) => Zh0 hok h
 obtain ⟨R,hR⟩ : ∃ R,R = Zdl rd fs D j done rdn := ⟨_,rfl⟩
 rw [← hR]
 have e := hR
 unfold Zdl at e
 clear hR
 refine Zab Tryz.func80 rfl Tryz.ntmps80 rfl ?_
 repeat (first|refine Yd0 ?_|(refine X_id ?_;first|refine Yaf ?_|refine Yag ?_|refine Yau ?_|refine Yan ?_|refine Yap ?_)|refine Yd1 ?_|refine Yab ?_)
 refine Zaa _ rfl rfl rfl rfl rfl (Zu0 p D 0 _ (hS.rd (List.mem_cons_of_mem _ (List.mem_cons_self ..))) (by omega)) ?_
 rintro _ w ⟨a,ca,rfl,hca,hS'⟩
 replace hS := hS.plus hS'
 clear hS'
 generalize D.read 0 = ra at h64 hca hS e ⊢
 obtain ⟨ea,la⟩ := ra
 simp only at h64 hca hS e ⊢
 by_cases hea : ea = 0
 ·subst hea
  have hla := h64 rfl
  rw [if_neg (by simp)] at e
  rw [hla]
  have hnb : (Za3 rd fs la).2 = true → 0 ≤ (Za3 rd fs la).1 ∧ (Za3 rd fs la).1 ≤ 1152921504606846976 := fun h => by
   unfold Za3 at h ⊢
   split at h
   ·rename_i h1; rw [if_pos h1]; omega
   ·rename_i h1
    rw [if_neg h1]
    simp only [Zh4,Bool.and_eq_true,decide_eq_true_eq] at h ⊢
    omega
  repeat (first|refine Yd0 ?_|refine Yaf ?_|refine Yag ?_|refine Ya1 ?_|refine Ybd ?_|refine Yeb ?_|refine Yab ?_)
  refine Zae _ rfl rfl rfl rfl rfl hS (Z08 a ca la rd fs _ (hG.mono fun r hr => (hr.rd hS).ro) (hS.rd (List.mem_cons_self ..)) hla (by omega)) ?_
  rintro _ w rfl hS
  generalize Za3 rd fs la = hn at hnb e ⊢
  obtain ⟨n,ok⟩ := hn
  simp only at hnb e ⊢
  cases ok
  ·rw [if_pos rfl] at e
   subst e
   repeat (first|refine Yd0 ?_|refine Yaf ?_|refine Yag ?_|refine Ya1 ?_|refine Ybo ?_|refine Yeh ?_|refine Yei ?_)
   exact ⟨rfl,hS.pick [1,1]⟩
  ·rw [if_neg (by simp)] at e
   have hn1 := hnb rfl
   by_cases hl : last ≤ n
   ·rw [if_pos hl] at e
    subst e
    unfold last at hl
    repeat (first|refine Yd0 ?_|(refine X_id ?_;first|refine Yaf ?_|refine Yag ?_|refine Yau ?_|refine Yan ?_|refine Ya1 ?_|refine Ybb ?_|refine Yb7 ?_|refine Yao (fun _ hS _ => ?_))|refine Ye4 ?_|refine Yei ?_)
    exact ⟨rfl,hS.pick [1,1]⟩
   ·rw [if_neg hl] at e
    unfold last at hl
    repeat (first|refine Yd0 ?_|(refine X_id ?_;first|refine Yaf ?_|refine Yag ?_|refine Yau ?_|refine Yan ?_|refine Ya1 ?_|refine Ybb ?_|refine Yb9 ?_|refine Yax ?_|refine Yao (fun _ hS _ => ?_))|refine Yeb ?_|refine Yab ?_)
    have hfg := Ztq rd fs D j (n + 1)
    refine Zaa _ rfl rfl rfl rfl rfl (Z3v lp p o s m j n rdn D (n + 1) rd fs _ (hG.mono fun r hr => (hr.rd hS).ro) (hS.rd (List.mem_cons_of_mem _ (List.mem_cons_self ..))) (hS.rd (List.mem_cons_of_mem _ (List.mem_cons_of_mem _ (List.mem_cons_self ..)))) hj (by omega)) ?_
    rintro _ w ⟨fa,fc,ws,O,rfl,hwd,hnone,hO,hS'⟩
    replace hS := hS.plus hS'
    clear hS'
    rw [← hwd] at e hfg
    by_cases hws : ws = []
    ·obtain rfl := hnone.2 hws
     rw [if_pos (by rw [hws]; rfl)] at e
     subst e
     repeat (first|refine Yd0 ?_|(refine X_id ?_;first|refine Yaf ?_|refine Yag ?_|refine Yax ?_|refine X_yl (Zgc rfl rfl rfl) rfl rfl ?_)|refine Yeb ?_|refine Yab ?_)
     obtain ⟨_,hc,hr,hw,hbk⟩ := hS.call [false,false,false,true,true]
     refine Zaa _ rfl rfl rfl rfl rfl (clear_ lp p o s m j n rdn D (n + 1) _ _ (by omega) hc) ?_
     rintro _ w ⟨rfl,hS⟩
     replace hS := hbk hS
     clear hc hr hw hbk
     repeat (first|refine Yd0 ?_|refine Yag ?_|refine Yah ?_|refine Yd2 ?_)
     exact ⟨rfl,hS.pick [0,0]⟩
    ·obtain ⟨ad,rfl⟩ : ∃ ad,fa = some ad := by
      cases fa with
      | none => exact absurd (hnone.1 rfl) hws
      | some ad => exact ⟨ad,rfl⟩
     rw [if_neg (by simpa using hws)] at e
     have hwl : ws.length ≤ 2048 := by
      have := hfg.2
      rw [List.length_map] at this
      omega
     repeat (first|refine Yd0 ?_|(refine X_id ?_;first|refine Yaf ?_|refine Yag ?_|refine Yau ?_|refine Yan ?_|refine Ybk ?_|refine Yax ?_|refine X_yl (Zgc rfl rfl rfl) rfl rfl ?_|refine Yap ?_|refine Yao (fun _ hS _ => ?_)|refine Ya6 (fun _ _ hS _ => ?_))|refine Yea ?_|refine Yab ?_)
     have hS := hS.pick [4,0,3,0,0]
     have hmost := hok.most
     have hvno : ∀ v ∈ ws,-4611686018427387904 ≤ v.no ∧ v.no ≤ 4611686018427387904 := fun v hv => by
      have := hfg.1 v.data (List.mem_map.2 ⟨v,hv,rfl⟩)
      simp only [Wr.data] at this
      omega
     obtain ⟨_,hc,hr,hw,hbk⟩ := hS.call [true,true,true,false,false]
     refine Zaa _ rfl rfl rfl rfl rfl (Z2l lp _ p o s m j n true (0,D) (n + 1) (some ad) fc ws rd fs _ _ (hG.mono hw) ⟨(hr _ (List.mem_cons_self ..)).own_row,fun v hv => Ro.rds (hr _ (List.mem_cons_of_mem _ (List.mem_cons_self ..))) _ (hO v hv)⟩ hj (by omega) hvno (by simp only; omega) hc) ?_
     rintro _ w ⟨rfl,hS⟩
     replace hS := hbk hS
     clear hc hr hw hbk
     subst e
     repeat (first|refine Yd0 ?_|refine Yag ?_|refine Yah ?_|refine Yei ?_)
     exact ⟨rfl,hS.pick [0,1]⟩
 ·rw [if_pos hea] at e
  subst e
  repeat (first|refine Yd0 ?_|refine Yaf ?_|refine Yag ?_|refine Ya1 ?_|refine Ybl ?_|refine Yeh ?_|refine Yei ?_)
  exact ⟨rfl,hS.pick [1,1]⟩
end Cr
namespace Cr
open Go Go.Proofs
set_option maxRecDepth 100000
set_option maxHeartbeats 8000000
attribute [local irreducible] Calls

instance : Und Tryz.prog 365 .unsafePointer := ⟨Tryz.underlying365⟩
theorem Zki {P : Program} {o : Oper} {σ : Env} {w : World} {x : Operand} {src dst t : TypeId} {n : Nat} {a : Addr} {v : Value} (ho : o.op = .convert src dst x) (hx : ev σ x = some (.pointer (some a))) [hs : Und P src (.pointer t)] [hd : Und P dst .unsafePointer] [hz : Siz P t n] (hn : Nat.blt 0 n = true) (hc : w.cell? a = some v) : Yl P o σ w (.pointer (some a)) := ⟨fun N ds f ha => by
 have hpos : 0 < n := Zam hn
 have hsz : (P.info? t).map (fun i => decide (i.size = 0)) = some false := by
  have := hz.siz
  cases hi : P.info? t with
  | none => rw [hi] at this; cases this
  | some i =>
   rw [hi] at this
   simp only [Option.map_some,Option.some.injEq] at this ⊢
   exact decide_eq_false (by omega)
 have := run_convert_to_unsafe hs.und hd.und hsz hc
 simp [execOp,ho,ha.eval hx,this]⟩
theorem Z3o (b off : Nat) (l l' : List Value) (T : TypeId) (W : World) (F : Nat → Prop) [hn : Nth l off (.int .i32 0)] [hs : Spl l off [.int .i32 1] l'] (hS : St W F [pts b (.cells l.toArray T)] W) :
  Calls Tryz.prog 234 #[.pointer (some ⟨b,off,none⟩)] W (Ret fun _ w => True ∧ St W F [pts b (.cells l'.toArray T)] w) := by
 have hn1 : Nth l' off (.int .i32 1) := ⟨by
  have h := hs.spl
  rw [← h.2]
  simp at h
  rw [List.append_assoc,List.getElem?_append_right (by simp; omega),List.length_take,Nat.min_eq_left (by omega)]
  simp⟩
 refine Zab Tryz.func234 rfl Tryz.ntmps234 rfl ?_
 repeat (first|refine Yd0 ?_|(refine X_id ?_;first|refine Yaf ?_|refine Yau ?_|refine Ybz ?_|refine Znj rfl rfl rfl rfl rfl ?_|refine Z4s rfl rfl rfl rfl rfl hS (fun _ hS => ?_))|refine Yea ?_|refine Yab ?_)
 refine X_yl (Zki rfl rfl rfl hS.cell) rfl rfl ?_
 repeat (first|refine Yd0 ?_|(refine X_id ?_;first|refine Zw5 rfl rfl rfl rfl rfl ?_)|refine Yah ?_|refine Yab ?_|refine Yaq ?_|refine Z0d rfl (Ret.mk ?_))
 exact ⟨trivial,hS⟩
theorem Zyg (b off : Nat) (l l' : List Value) (T : TypeId) (W : World) (F : Nat → Prop) [hn : Nth l off (.int .i32 1)] [hs : Spl l off [.int .i32 0] l'] (hS : St W F [pts b (.cells l.toArray T)] W) :
  Calls Tryz.prog 235 #[.pointer (some ⟨b,off,none⟩)] W (Ret fun _ w => True ∧ St W F [pts b (.cells l'.toArray T)] w) := by
 refine Zab Tryz.func235 rfl Tryz.ntmps235 rfl ?_
 repeat (first|refine Yd0 ?_|refine Yaf ?_|refine Yau ?_|refine Ybz ?_|refine Yap ?_|refine Yea ?_|refine Yab ?_)
 refine X_yl (Zki rfl rfl rfl hS.cell) rfl rfl ?_
 repeat (first|refine Yd0 ?_|(refine X_id ?_;first|refine Yaf ?_|refine Yau ?_|refine Ybz ?_|refine Znj rfl rfl rfl rfl rfl ?_|refine Zw5 rfl rfl rfl rfl rfl ?_)|refine Yd1 ?_|refine Yab ?_)
 refine Z0a (s := 0) rfl rfl rfl rfl rfl rfl hS (fun _ hS => ?_)
 repeat (first|refine Yd0 ?_|(refine X_id ?_;first|refine Yaf ?_|refine Yag ?_|refine Ybd ?_|refine Znj rfl rfl rfl rfl rfl ?_)|refine Yeb ?_|refine Yab ?_|refine Ybs ?_)
 exact ⟨trivial,hS⟩
theorem Zz4 (b off : Nat) (l : List Value) (T : TypeId) (x : Int) (W : World) [hn : Nth l off (.int .u32 x)] (hL : Rd W (pts b (.cells l.toArray T))) :
  Calls Tryz.prog 128 #[.pointer (some ⟨b,off,none⟩)] W (Ret fun v w => v = .bool (decide (¬ x = 0)) ∧ W = w) := by
 have hc := hL.pts
 have hS := St.start W
 refine Zab Tryz.func128 rfl Tryz.ntmps128 rfl ?_
 repeat (first|refine Yd0 ?_|(refine X_id ?_;first|refine Yaf ?_|refine Yag ?_|refine Yau ?_|refine Ybz ?_|refine X_yl (Zsw rfl rfl rfl) rfl rfl ?_|refine Zw6 rfl rfl rfl (Zb0 (by assumption)) rfl rfl ?_)|refine Yed ?_|refine Yd2 ?_)
 exact ⟨rfl,rfl⟩
end Cr
namespace Cr
open Go Go.Proofs
set_option maxRecDepth 100000
set_option maxHeartbeats 8000000
attribute [local irreducible] Calls

abbrev Zte (b lp : Nat) : Res := pts b (.cells #[.pointer (some ⟨lp,0,none⟩)] 85)
abbrev Ztu (b : Nat) (e : Int) : Res := pts b (.cells #[.int .i64 e] 31)
theorem b32_ (W : World) : Calls Tryz.prog 237 #[.bool true] W (Ret fun v w => v = .int .u32 1 ∧ W = w) := by
 refine Zab Tryz.func237 rfl Tryz.ntmps237 rfl ?_
 repeat (first|refine Yd0 ?_|refine Yee ?_|refine Yeh ?_|refine Yei ?_)
 exact ⟨rfl,rfl⟩
theorem Z27 (lp p b6 b7 : Nat) (o s m : Int) (j : Nat) (done : Int) (rdn : Bool) (D : DiskM) (e0 : Int) (rd fs : List Int) (W : World) (F : Nat → Prop) (hG : Gl W F rd fs) (hj : j ≤ 4096) (hline : D.line.length < 1073700000)
  (hS : St W F [Zb9 lp p o s m j done rdn,disk p D,Zte b6 lp,Ztu b7 e0] W) :
  Calls Tryz.prog 79 #[.pointer (some ⟨b6,0,none⟩),.pointer (some ⟨b7,0,none⟩)] W (Ret fun _ w => True ∧
   St W F [Zb9 lp p o s m j (Zdl rd fs D j done rdn).done (Zdl rd fs D j done rdn).redone,disk p (Zdl rd fs D j done rdn).D,Zte b6 lp,Ztu b7 (Zdl rd fs D j done rdn).e] w) := by
 refine Zab Tryz.func79 rfl Tryz.ntmps79 rfl ?_
 repeat (first|refine Yaa ?_|refine Yap ?_|refine Yad ?_)
 obtain ⟨_,hc,hr,hw,hbk⟩ := hS.call [true,true,false,false]
 refine Zaa _ rfl rfl rfl rfl rfl (Z5b lp p o s m j done rdn D rd fs _ _ (hG.mono hw) hj hline hc) ?_
 rintro _ w ⟨rfl,hS⟩
 replace hS := hbk hS
 clear hc hr hw hbk
 generalize Zdl rd fs D j done rdn = R at hS ⊢
 repeat (first|refine Yd0 ?_|refine Yao (fun _ hS _ => ?_)|refine Ybs ?_)
 exact ⟨trivial,hS⟩
theorem Z1v (lp p b6 b7 : Nat) (m : Int) (j : Nat) (done : Int) (rdn : Bool) (D : DiskM) (e0 : Int) (rd fs : List Int) (W : World) (F : Nat → Prop) (hG : Gl W F rd fs) (hj : j ≤ 4096) (hline : D.line.length < 1073700000)
  (hS : St W F [Zb9 lp p 0 0 m j done rdn,disk p D,Zte b6 lp,Ztu b7 e0] W) :
  Calls Tryz.prog 129 #[.pointer (some ⟨lp,1,none⟩),.func (.func 79) #[] #[.pointer (some ⟨b6,0,none⟩),.pointer (some ⟨b7,0,none⟩)]] W (Ret fun _ w => True ∧
   St W F [Zb9 lp p 1 0 m j (Zdl rd fs D j done rdn).done (Zdl rd fs D j done rdn).redone,disk p (Zdl rd fs D j done rdn).D,Zte b6 lp,Ztu b7 (Zdl rd fs D j done rdn).e] w) := by
 have hlock : ∀ W F,St W F [Zb9 lp p 0 0 m j done rdn] W → Calls Tryz.prog 196 #[.pointer (some ⟨lp,2,none⟩)] W (Ret fun _ w => True ∧ St W F [Zb9 lp p 0 1 m j done rdn] w) := fun W F hS => by
  refine Zab Tryz.func196 rfl Tryz.ntmps196 rfl ?_
  repeat (first|refine Yaa ?_|refine Yaf ?_|refine Yau ?_|refine Ybz ?_|refine Yad ?_)
  refine Zaa _ rfl rfl rfl rfl rfl (Z3o lp 2 _ _ _ _ _ hS) ?_
  rintro _ w ⟨_,hS⟩
  repeat (first|refine Yac ?_|refine Ybs ?_)
  exact ⟨trivial,hS⟩
 refine Zab Tryz.func129 rfl Tryz.ntmps129 rfl ?_
 repeat (first|refine Yaa ?_|refine Yaf ?_|refine Yau ?_|refine Ybz ?_|refine Yd1 ?_)
 obtain ⟨_,hc,hr,hw,hbk⟩ := hS.call [true,false,false,false]
 refine Zaa _ rfl rfl rfl rfl rfl (hlock _ _ hc) ?_
 rintro _ w ⟨_,hS⟩
 replace hS := hbk hS
 clear hc hr hw hbk
 repeat (first|refine Yac ?_|refine Zw9 rfl rfl rfl rfl rfl ?_|refine Yaa ?_|refine Yaf ?_|refine Yau ?_|refine Ybz ?_|refine Yd1 ?_|refine Yab ?_|refine Znn rfl ?_)
 refine Zaa _ rfl rfl rfl rfl rfl (Zz4 lp 1 _ _ 0 _ (hS.rd (List.mem_cons_self ..))) ?_
 rintro _ _ ⟨rfl,rfl⟩
 rw [decide_eq_false (show ¬ ¬ (0 : Int) = 0 by simp)]
 repeat (first|refine Yac ?_|refine Zw9 rfl rfl rfl rfl rfl ?_|refine Yaa ?_|refine Yaf ?_|refine Yau ?_|refine Ybz ?_|refine Ybo ?_|refine Yea ?_|refine Yab ?_|refine Znn rfl ?_)
 obtain ⟨_,hc,hr,hw,hbk⟩ := hS.call [true,true,true,true]
 refine Zb4 (first := []) (captured := [.pointer (some ⟨b6,0,none⟩),.pointer (some ⟨b7,0,none⟩)]) rfl rfl rfl rfl rfl (Z27 lp p b6 b7 0 1 m j done rdn D e0 rd fs _ _ (hG.mono hw) hj hline hc) ?_
 rintro _ w ⟨_,hS⟩
 replace hS := hbk hS
 clear hc hr hw hbk
 generalize Zdl rd fs D j done rdn = R at hS ⊢
 repeat (first|refine Yac ?_)
 refine Zxb (args := [.pointer (some ⟨lp,1,none⟩),.bool true]) (captured := []) rfl rfl rfl rfl (.inr rfl) ?_
 repeat (first|fail)
 refine Zao (.s 0 (.s 1 (.s 2 (.s 3 (.h 4 (.h 5 .nil .no) .no))))) mixed (by kernel_rfl) rfl ?_
 have hS := hS.drew
 repeat (first|(refine X_id ?_;first|(refine Zaa 237 rfl rfl rfl rfl rfl (b32_ _) ?_;rintro _ _ ⟨rfl,rfl⟩)|refine Zzd rfl rfl rfl rfl rfl hS (fun _ hS => ?_))|refine Zxa rfl (Ret.mk ?_)|(refine Zad ?_;first|refine Yay ?_|refine Ya0 ?_|refine Ybq ?_|refine Yb3 ?_|refine Yas ?_)|(refine Zac ?_;first|refine Yaz ?_))
 refine Zxb (args := [.pointer (some ⟨lp,2,none⟩)]) (captured := []) rfl rfl rfl rfl (.inr rfl) ?_
 repeat (first|refine Yaa ?_|refine Yaf ?_|refine Yau ?_|refine Ybz ?_|refine Yad ?_)
 obtain ⟨_,hc,hr,hw,hbk⟩ := hS.call [true,false,false,false]
 refine Zaa _ rfl rfl rfl rfl rfl (Zyg lp 2 _ _ _ _ _ hc) ?_
 rintro _ w ⟨_,hS⟩
 replace hS := hbk hS
 clear hc hr hw hbk
 repeat (first|refine Yac ?_|refine Ybs ?_|refine Zxa rfl (Ret.mk ?_))
 exact ⟨trivial,hS⟩
theorem do_ (lp p b6 b7 : Nat) (m : Int) (j : Nat) (done : Int) (rdn : Bool) (D : DiskM) (e0 : Int) (rd fs : List Int) (W : World) (F : Nat → Prop) (hG : Gl W F rd fs) (hj : j ≤ 4096) (hline : D.line.length < 1073700000)
  (hS : St W F [Zb9 lp p 0 0 m j done rdn,disk p D,Zte b6 lp,Ztu b7 e0] W) :
  Calls Tryz.prog 78 #[.pointer (some ⟨lp,1,none⟩),.func (.func 79) #[] #[.pointer (some ⟨b6,0,none⟩),.pointer (some ⟨b7,0,none⟩)]] W (Ret fun _ w => True ∧
   St W F [Zb9 lp p 1 0 m j (Zdl rd fs D j done rdn).done (Zdl rd fs D j done rdn).redone,disk p (Zdl rd fs D j done rdn).D,Zte b6 lp,Ztu b7 (Zdl rd fs D j done rdn).e] w) := by
 refine Zab Tryz.func78 rfl Tryz.ntmps78 rfl ?_
 repeat (first|refine Yaa ?_|refine Yaf ?_|refine Yau ?_|refine Ybz ?_|refine Yd1 ?_)
 refine Zaa _ rfl rfl rfl rfl rfl (Zz4 lp 1 _ _ 0 _ (hS.rd (List.mem_cons_self ..))) ?_
 rintro _ _ ⟨rfl,rfl⟩
 rw [decide_eq_false (show ¬ ¬ (0 : Int) = 0 by simp)]
 repeat (first|refine Yd0 ?_|refine Yaf ?_|refine Ybo ?_|refine Yad ?_|refine Yaj ?_|refine Yab ?_)
 obtain ⟨_,hc,hr,hw,hbk⟩ := hS.call [true,true,true,true]
 refine Zaa _ rfl rfl rfl rfl rfl (Z1v lp p b6 b7 m j done rdn D e0 rd fs _ _ (hG.mono hw) hj hline hc) ?_
 rintro _ w ⟨_,hS⟩
 replace hS := hbk hS
 clear hc hr hw hbk
 repeat (first|refine Yac ?_|refine Ybs ?_)
 exact ⟨trivial,hS⟩

/-! ### Open -/
def Zth (rd fs : List Int) (D : DiskM) (j : Int) : RedoM :=
 if D.off = true then ⟨9,D,0,false⟩ else if j < 2 ∨ 1024 < j ∨ ¬ j % 2 = 0 ∨ (D.laid.length : Int) < j + 2 then ⟨1,D,0,false⟩ else Zdl rd fs D j.toNat 0 false
end Cr
namespace Cr
open Go Go.Proofs
set_option maxRecDepth 100000
set_option maxHeartbeats 8000000
attribute [local irreducible] Calls

def Z5t (W : World) (F : Nat → Prop) (p : Nat) (j : Nat) (R : RedoM) (v : Value) (w : World) : Prop :=
 (¬ R.e = 0 ∧ v = .tuple #[.pointer none,.int .i64 R.e] ∧ St W F [disk p R.D] w) ∨ (R.e = 0 ∧ ∃ lp,v = .tuple #[.pointer (some ⟨lp,0,none⟩),.int .i64 0] ∧ St W F [Zb9 lp p 1 0 0 j R.done R.redone,disk p R.D] w)
theorem Z5e (p : Nat) (D : DiskM) (j : Int) (rd fs : List Int) (W : World) (F : Nat → Prop) (hG : Gl W F rd fs) (hline : D.line.length < 1073700000) (hS : St W F [disk p D] W) :
  Calls Tryz.prog 37 #[.pointer (some ⟨p,0,none⟩),.int .i64 j] W (Ret fun v w => Z5t W F p j.toNat (Zth rd fs D j) v w) := by
 have hd := hS.rd (List.mem_cons_self ..)
 have hmost := hd.disk.1.most
 have hon := on_ p D W hd
 have hse := Zme p D W hd
 cases hoff : D.off
 ·rw [hoff] at hon
  have e : Zth rd fs D j = if j < 2 ∨ 1024 < j ∨ ¬ j % 2 = 0 ∨ (D.laid.length : Int) < j + 2 then ⟨1,D,0,false⟩ else Zdl rd fs D j.toNat 0 false := by unfold Zth; rw [if_neg (by simp [hoff])]
  by_cases h1 : j < 2
  ·rw [if_pos (.inl h1)] at e
   refine Zab Tryz.func37 rfl Tryz.ntmps37 rfl ?_
   repeat (first|refine Yej ?_|(refine X_id ?_;first|(refine Zaa 76 rfl rfl rfl rfl rfl hon ?_;rintro _ _ ⟨rfl,rfl⟩)|refine Yaf ?_|refine Yag ?_|refine Ya5 ?_|refine Ybb ?_|refine Ya2 ?_)|refine Yek ?_|refine Ye3 ?_)
   rw [e]
   exact .inl ⟨by simp,rfl,hS⟩
  by_cases h2 : 1024 < j
  ·rw [if_pos (.inr (.inl h2))] at e
   refine Zab Tryz.func37 rfl Tryz.ntmps37 rfl ?_
   repeat (first|refine Yeu ?_|(refine X_id ?_;first|(refine Zaa 76 rfl rfl rfl rfl rfl hon ?_;rintro _ _ ⟨rfl,rfl⟩)|refine Yaf ?_|refine Yag ?_|refine Ya5 ?_|refine Ya4 ?_|refine Ybb ?_|refine Ya3 ?_|refine Ybx ?_)|refine Yek ?_|refine Ye3 ?_)
   rw [e]
   exact .inl ⟨by simp,rfl,hS⟩
  by_cases h3 : j % 2 = 0
  ·by_cases h4 : (D.laid.length : Int) < j + 2
   ·rw [if_pos (.inr (.inr (.inr h4)))] at e
    refine Zab Tryz.func37 rfl Tryz.ntmps37 rfl ?_
    repeat (first|refine Yeg ?_|(refine X_id ?_;first|(refine Zaa 76 rfl rfl rfl rfl rfl hon ?_;rintro _ _ ⟨rfl,rfl⟩)|(refine Zaa 77 rfl rfl rfl rfl rfl hse ?_;rintro _ _ ⟨rfl,rfl⟩)|refine Yaf ?_|refine Yag ?_|refine Ya4 ?_|refine Ybb ?_|refine Ybd ?_|refine Ya2 ?_|refine Ya3 ?_|refine Ybu ?_|refine Yax ?_|refine Yck ?_)|refine Yek ?_|refine Ye3 ?_)
    rw [e]
    exact .inl ⟨by simp,rfl,hS⟩
   ·rw [if_neg (by omega)] at e
    obtain ⟨jn,rfl⟩ : ∃ n : Nat,j = n := ⟨j.toNat,by omega⟩
    rw [Int.toNat_natCast] at e ⊢
    rw [e]
    refine Zab Tryz.func37 rfl Tryz.ntmps37 rfl ?_
    repeat (first|refine Yeg ?_|(refine X_id ?_;first|(refine Zaa 76 rfl rfl rfl rfl rfl hon ?_;rintro _ _ ⟨rfl,rfl⟩)|(refine Zaa 77 rfl rfl rfl rfl rfl hse ?_;rintro _ _ ⟨rfl,rfl⟩)|refine Yaf ?_|refine Yag ?_|refine Yau ?_|refine Yan ?_|refine Ya4 ?_|refine Ybb ?_|refine Yci ?_|refine Ybd ?_|refine Ya3 ?_|refine Ybu ?_|refine Ybk ?_|refine Yax ?_|refine Yck ?_|refine Yap ?_|refine Yao (fun _ hS _ => ?_)|refine Ya6 (fun _ _ hS _ => ?_)|refine Yar (fun _ _ hS _ => ?_))|refine Yex ?_|refine Yd8 ?_)
    have hS := hS.pick [2,2,1,0]
    obtain ⟨_,hc,hr,hw,hbk⟩ := hS.call [true,true,true,true]
    refine Zaa _ rfl rfl rfl rfl rfl (do_ _ p _ _ 0 jn 0 false D 0 rd fs _ _ (hG.mono hw) (by omega) hline hc) ?_
    rintro _ w ⟨_,hS⟩
    replace hS := hbk hS
    clear hc hr hw hbk
    generalize Zdl rd fs D jn 0 false = R at hS ⊢
    by_cases hRe : R.e = 0
    ·rw [hRe] at hS
     repeat (first|refine Yd0 ?_|refine Yag ?_|refine Ybd ?_|refine Yap ?_|refine Yep ?_|refine Yeo ?_)
     exact .inr ⟨hRe,_,rfl,hS.pick [0,0]⟩
    ·repeat (first|refine Yd0 ?_|refine Ybl ?_|refine Yap ?_|refine Yea ?_|refine Yab ?_)
     refine Zao (.s 0 (.s 1 (.s 2 .nil))) mixed (by kernel_rfl) rfl ?_
     have hS := hS.drew
     repeat (first|refine Yah ?_|refine Yab ?_|refine Yaq ?_|refine Ybv ?_|(refine Zad ?_;first|refine Yay ?_|refine Ybn ?_|refine Ybm ?_))
     exact .inl ⟨hRe,rfl,hS.pick [1]⟩
  ·rw [if_pos (.inr (.inr (.inl h3)))] at e
   refine Zab Tryz.func37 rfl Tryz.ntmps37 rfl ?_
   repeat (first|refine Yeu ?_|(refine X_id ?_;first|(refine Zaa 76 rfl rfl rfl rfl rfl hon ?_;rintro _ _ ⟨rfl,rfl⟩)|refine Yaf ?_|refine Yag ?_|refine Ya5 ?_|refine Ya4 ?_|refine Ybb ?_|refine Ybl ?_|refine Ya3 ?_|refine Ybu ?_|refine Yck ?_)|refine Yek ?_|refine Ye3 ?_)
   rw [e]
   exact .inl ⟨by simp,rfl,hS⟩
 ·rw [hoff] at hon
  refine Zab Tryz.func37 rfl Tryz.ntmps37 rfl ?_
  repeat (first|refine Yd0 ?_|(refine X_id ?_;first|(refine Zaa 76 rfl rfl rfl rfl rfl hon ?_;rintro _ _ ⟨rfl,rfl⟩)|refine Yaf ?_|refine Yag ?_|refine Ybo ?_)|refine Yen ?_|refine Ye3 ?_)
  rw [show Zth rd fs D j = ⟨9,D,0,false⟩ by unfold Zth; rw [if_pos hoff]]
  exact .inl ⟨by simp,rfl,hS⟩
/-! ### Read -/
def Zf5 (D : DiskM) (j : Nat) (no : Int) : Int × List UInt8 := if D.off = true then (9,[]) else if no < 0 ∨ (D.laid.length : Int) - 1 - j ≤ no then (1,[]) else D.read (1 + j + no)
theorem Z2i (lp p : Nat) (o s m : Int) (j : Nat) (done : Int) (rdn : Bool) (D : DiskM) (no : Int) (W : World) (hL : Rd W (Zb9 lp p o s m j done rdn)) (hD : Rd W (disk p D)) (hj : j ≤ 4096) (hline : D.line.length < 1073741824) :
  Calls Tryz.prog 82 #[.pointer (some ⟨lp,0,none⟩),.int .i64 no] W (Ret fun v w => ∃ a c,v = .tuple #[.slice a (Zf5 D j no).2.length c,.int .i64 (Zf5 D j no).1] ∧ (Zf5 D j no).2.length ≤ c ∧ St W noF [bytes a (Zf5 D j no).2] w) := by
 have hS := St.start W
 have hc := hL.pts
 have hLo := hL.ro
 have hDo := hD.ro
 have hmost := hD.disk.1.most
 have hon := fun w (h : Rd w (disk p D)) => on_ p D w h
 cases hoff : D.off
 ·rw [hoff] at hon
  have e : Zf5 D j no = if no < 0 ∨ (D.laid.length : Int) - 1 - j ≤ no then (1,[]) else D.read (1 + j + no) := by unfold Zf5; rw [if_neg (by simp [hoff])]
  by_cases h1 : no < 0
  ·rw [if_pos (.inl h1)] at e
   rw [e]
   refine Zab Tryz.func82 rfl Tryz.ntmps82 rfl ?_
   repeat (first|refine Yej ?_|(refine X_id ?_;first|(refine Zaa 76 rfl rfl rfl rfl rfl (hon _ (hDo.rd hS)) ?_;rintro _ _ ⟨rfl,rfl⟩)|refine Yaf ?_|refine Yag ?_|refine Yau ?_|refine Yan ?_|refine Ya5 ?_|refine Ybb ?_|refine Ya2 ?_|refine Ybr ?_|refine Yb4 ?_)|refine Yek ?_|refine Ye3 ?_)
   exact ⟨none,0,rfl,Nat.le_refl _,hS.row_none⟩
  by_cases h2 : (D.laid.length : Int) - 1 - j ≤ no
  ·rw [if_pos (.inr h2)] at e
   rw [e]
   refine Zab Tryz.func82 rfl Tryz.ntmps82 rfl ?_
   repeat (first|refine Yeg ?_|(refine X_id ?_;first|(refine Zae 135 rfl rfl rfl rfl rfl hS (Zec lp p o s m j done rdn D _ (hLo.rd hS) (hDo.rd hS) hj) ?_;rintro _ _ rfl hS)|(refine Zaa 76 rfl rfl rfl rfl rfl (hon _ (hDo.rd hS)) ?_;rintro _ _ ⟨rfl,rfl⟩)|refine Yaf ?_|refine Yag ?_|refine Yau ?_|refine Yan ?_|refine Ya4 ?_|refine Ybb ?_|refine Ya3 ?_|refine Yb7 ?_|refine Ybr ?_|refine Yb4 ?_)|refine Yek ?_|refine Ye3 ?_)
   exact ⟨none,0,rfl,Nat.le_refl _,hS.row_none⟩
  ·rw [if_neg (by omega)] at e
   rw [e]
   refine Zab Tryz.func82 rfl Tryz.ntmps82 rfl ?_
   repeat (first|refine Yeg ?_|(refine X_id ?_;first|(refine Zae 135 rfl rfl rfl rfl rfl hS (Zec lp p o s m j done rdn D _ (hLo.rd hS) (hDo.rd hS) hj) ?_;rintro _ _ rfl hS)|(refine Zaa 76 rfl rfl rfl rfl rfl (hon _ (hDo.rd hS)) ?_;rintro _ _ ⟨rfl,rfl⟩)|refine Yaf ?_|refine Yag ?_|refine Yau ?_|refine Yan ?_|refine Ya4 ?_|refine Ybb ?_|refine Ya3 ?_|refine Yb9 ?_|refine Ybr ?_|refine Yb4 ?_)|refine Yex ?_|refine Yd8 ?_)
   refine Zao (.s 0 (.s 1 (.s 2 (.s 3 (.s 4 (.s 5 (.s 6 (.s 7 (.s 8 (.s 9 (.s 10 (.h 11 (.s 12 (.s 13 (.s 14 (.s 15 .nil)))) .no)))))))))))) mixed (by kernel_rfl) rfl ?_
   have hS := hS.drew
   have hc := (hLo.rd hS).pts
   repeat (first|(refine Zad ?_;first|refine Ya0 ?_|refine Ybq ?_|refine Ybj ?_|refine Yc3 ?_|refine Yc5 ?_|refine Yas ?_))
   refine Zaa _ rfl rfl rfl rfl rfl (Zu0 p D (1 + j + no) _ (hDo.rd hS) hline) ?_
   rintro _ w ⟨a,ca,rfl,hca,hS'⟩
   replace hS := hS.plus hS'
   clear hS'
   have hc := (hLo.rd hS).pts
   repeat (first|refine Yah ?_|refine Yeo ?_|(refine Zad ?_;first|refine Yay ?_|refine Ybn ?_|refine Ycx ?_)|(refine Zac ?_;first|refine Yaz ?_))
   exact ⟨a,ca,rfl,hca,hS⟩
 ·rw [hoff] at hon
  rw [show Zf5 D j no = (9,[]) by unfold Zf5; rw [if_pos hoff]]
  refine Zab Tryz.func82 rfl Tryz.ntmps82 rfl ?_
  repeat (first|refine Yd0 ?_|(refine X_id ?_;first|(refine Zaa 76 rfl rfl rfl rfl rfl (hon _ (hDo.rd hS)) ?_;rintro _ _ ⟨rfl,rfl⟩)|refine Yaf ?_|refine Yag ?_|refine Yau ?_|refine Yan ?_|refine Ybo ?_|refine Ybr ?_|refine Yb4 ?_)|refine Yek ?_|refine Ye3 ?_)
  exact ⟨none,0,rfl,Nat.le_refl _,hS.row_none⟩
end Cr
namespace Cr
open Go Go.Proofs
set_option maxRecDepth 100000
set_option maxHeartbeats 8000000
attribute [local irreducible] Calls

def Zhb (n : Int) (d : List UInt8) (cnt : Nat) (x : Int × DiskM) (i : Nat) (v : Int × List UInt8) : Int × DiskM :=
 Zde (Zde x (1 + 2 * (i : Nat)) (Zhc n (i : Nat) (cnt : Nat) v.1 d)) (1 + 2 * (i : Nat) + 1) v.2
def Zb5 (n : Int) (d : List UInt8) (l : List (Int × List UInt8)) (x : Int × DiskM) : Nat → Int × DiskM
 | 0 => x
 | i + 1 => Zhb n d l.length (Zb5 n d l x i) i (l.getD i (0,[]))
theorem Zml (n : Int) (d : List UInt8) (cnt : Nat) (x : Int × DiskM) (i : Nat) (v : Int × List UInt8) : (Zhb n d cnt x i v).2.line.length ≤ x.2.line.length + 2 ∧ (Zhb n d cnt x i v).2.laid.length = x.2.laid.length := by
 unfold Zhb
 have h1 := Zdf x (1 + 2 * (i : Nat)) (Zhc n (i : Nat) (cnt : Nat) v.1 d)
 have h2 := Zdf (Zde x (1 + 2 * (i : Nat)) (Zhc n (i : Nat) (cnt : Nat) v.1 d)) (1 + 2 * (i : Nat) + 1) v.2
 exact ⟨by omega,by rw [h2.2,h1.2]⟩
theorem Zij (n : Int) (d : List UInt8) (l : List (Int × List UInt8)) (x : Int × DiskM) : ∀ i,(Zb5 n d l x i).2.line.length ≤ x.2.line.length + 2 * i ∧ (Zb5 n d l x i).2.laid.length = x.2.laid.length
 | 0 => by simp [Zb5]
 | i + 1 => by
  have h1 := Zij n d l x i
  have h2 := Zml n d l.length (Zb5 n d l x i) i (l.getD i (0,[]))
  simp only [Zb5]
  exact ⟨by omega,by rw [h2.2,h1.2]⟩
def putM (rd fs : List Int) (D : DiskM) (j : Nat) (done : Int) (l : List (Int × List UInt8)) : Int × DiskM :=
 layM rd fs j (Zc5 (Zb5 (done + 1) (sumB rd fs (done + 1) l) l (0,D) l.length)) (done + 1) l
def Zbf (rd fs : List Int) (D : DiskM) (j : Nat) (done : Int) (l : List (Int × List UInt8)) : Int × DiskM × Int :=
 if D.off = true then (9,D,done) else if ¬ Zb3 l = 0 then (Zb3 l,D,done) else if hasM ((D.laid.length : Int) - 1 - j) l = false then (1,D,done) else
 if (j : Int) / 2 < l.length ∨ last ≤ done then (6,D,done) else if l = [] then (0,D,done) else
 ((putM rd fs D j done l).1,(putM rd fs D j done l).2,if (putM rd fs D j done l).1 = 0 then done + 1 else done)
theorem Z1y (lp p : Nat) (o s m : Int) (j : Nat) (done : Int) (rdn : Bool) (D : DiskM) (a : Option Addr) (c : Nat) (l : List Wr) (rd fs : List Int) (W : World) (F : Nat → Prop) (hG : Gl W F rd fs) (hW : Wrs W F a l) (hj : j ≤ 4096) (hdone : 0 ≤ done)
  (hl : l.length ≤ 1048576) (hx64 : ∀ v ∈ l,v.x.s.length ≤ 140737488355328) (hline : D.line.length < 1073000000) (hS : St W F [Zb9 lp p o s m j done rdn,disk p D] W) :
  Calls Tryz.prog 84 #[.pointer (some ⟨lp,0,none⟩),.slice a l.length c] W (Ret fun v w => v = .int .i64 (Zbf rd fs D j done (l.map Wr.data)).1 ∧
   St W F [Zb9 lp p o s m j (Zbf rd fs D j done (l.map Wr.data)).2.2 rdn,disk p (Zbf rd fs D j done (l.map Wr.data)).2.1] w) := by
 obtain ⟨d,hd⟩ : ∃ d,d = l.map Wr.data := ⟨_,rfl⟩
 have hdl : d.length = l.length := by rw [hd]; simp
 rw [← hd]
 have hD := hS.rd (List.mem_cons_of_mem _ (List.mem_cons_self ..))
 have hmost := hD.disk.1.most
 have hW0 : ∀ w rs,St W F rs w → Wrs w noF a l := fun w rs h => ⟨(hW.row.rd h).ro,fun v hv => ((hW.all v hv).rd h).ro⟩
 have hon : ∀ w rs,St W F (Zb9 lp p o s m j done rdn :: disk p D :: rs) w → Calls Tryz.prog 76 #[.pointer (some ⟨p,0,none⟩)] w (Ret fun v w' => v = .bool (!D.off) ∧ w = w') := fun w rs h => on_ p D w (h.rd (List.mem_cons_of_mem _ (List.mem_cons_self ..)))
 cases hoff : D.off
 ·rw [hoff] at hon
  by_cases hck : Zb3 d = 0
  ·cases hh : hasM ((D.laid.length : Int) - 1 - j) d
   ·rw [show Zbf rd fs D j done d = (1,D,done) by unfold Zbf; rw [if_neg (by simp [hoff]),if_neg (by simpa using hck),if_pos hh]]
    refine Zab Tryz.func84 rfl Tryz.ntmps84 rfl ?_
    repeat (first|refine Yd0 ?_|(refine X_id ?_;first|(refine Zaa 76 rfl rfl rfl rfl rfl (hon _ _ hS) ?_;rintro _ _ ⟨rfl,rfl⟩)|refine Yaf ?_|refine Yag ?_|refine Yau ?_|refine Yan ?_|refine Ybb ?_|refine Ybr ?_|refine Yap ?_)|refine Yex ?_|refine Yd8 ?_)
    refine Zae _ rfl rfl rfl rfl rfl hS (Zke a c l _ (hW0 _ _ hS) hl hx64) ?_
    rintro _ w rfl hS
    rw [← hd]
    repeat (first|refine Yd0 ?_|refine Yaf ?_|refine Yag ?_|refine Ybd ?_|refine Yex ?_|refine Yab ?_)
    refine Zae _ rfl rfl rfl rfl rfl hS (Zuf lp p o s m j done rdn D _ a c l (hS.rd (List.mem_cons_self ..)) (hS.rd (List.mem_cons_of_mem _ (List.mem_cons_self ..))) hj (hW0 _ _ hS) hl) ?_
    rintro _ w rfl hS
    rw [← hd,hh]
    repeat (first|refine Yd0 ?_|refine Yag ?_|refine Ybo ?_|refine Yeh ?_|refine Yel ?_)
    exact ⟨rfl,hS⟩
   ·by_cases hfull : (j : Int) / 2 < l.length ∨ last ≤ done
    ·rw [show Zbf rd fs D j done d = (6,D,done) by unfold Zbf; rw [if_neg (by simp [hoff]),if_neg (by simpa using hck),if_neg (by simp [hh]),if_pos (by rw [hdl]; exact hfull)]]
     unfold last at hfull
     by_cases hf1 : (j : Int) / 2 < l.length
     ·refine Zab Tryz.func84 rfl Tryz.ntmps84 rfl ?_
      repeat (first|refine Yd0 ?_|(refine X_id ?_;first|(refine Zaa 76 rfl rfl rfl rfl rfl (hon _ _ hS) ?_;rintro _ _ ⟨rfl,rfl⟩)|refine Yaf ?_|refine Yag ?_|refine Yau ?_|refine Yan ?_|refine Ybb ?_|refine Ybr ?_|refine Yap ?_)|refine Yex ?_|refine Yd8 ?_)
      refine Zae _ rfl rfl rfl rfl rfl hS (Zke a c l _ (hW0 _ _ hS) hl hx64) ?_
      rintro _ w rfl hS
      rw [← hd]
      repeat (first|refine Yd0 ?_|refine Yaf ?_|refine Yag ?_|refine Ybd ?_|refine Yex ?_|refine Yab ?_)
      refine Zae _ rfl rfl rfl rfl rfl hS (Zuf lp p o s m j done rdn D _ a c l (hS.rd (List.mem_cons_self ..)) (hS.rd (List.mem_cons_of_mem _ (List.mem_cons_self ..))) hj (hW0 _ _ hS) hl) ?_
      rintro _ w rfl hS
      rw [← hd,hh]
      repeat (first|refine Yej ?_|(refine X_id ?_;first|(refine Zaa 138 rfl rfl rfl rfl rfl (Zq8 lp p o s m j done rdn _ (hS.rd (List.mem_cons_self ..)) hj) ?_;rintro _ _ ⟨rfl,rfl⟩)|refine Yaf ?_|refine Yag ?_|refine Ya5 ?_|refine Ybb ?_|refine Yav ?_|refine Ybx ?_)|refine Yae ?_|refine Yad ?_|refine Yah ?_|refine Yaj ?_|refine Yai ?_|refine Yel ?_)
      exact ⟨rfl,hS⟩
     ·have hf2 : 1152921504606846976 ≤ done := by omega
      refine Zab Tryz.func84 rfl Tryz.ntmps84 rfl ?_
      repeat (first|refine Yd0 ?_|(refine X_id ?_;first|(refine Zaa 76 rfl rfl rfl rfl rfl (hon _ _ hS) ?_;rintro _ _ ⟨rfl,rfl⟩)|refine Yaf ?_|refine Yag ?_|refine Yau ?_|refine Yan ?_|refine Ybb ?_|refine Ybr ?_|refine Yap ?_)|refine Yex ?_|refine Yd8 ?_)
      refine Zae _ rfl rfl rfl rfl rfl hS (Zke a c l _ (hW0 _ _ hS) hl hx64) ?_
      rintro _ w rfl hS
      rw [← hd]
      repeat (first|refine Yd0 ?_|refine Yaf ?_|refine Yag ?_|refine Ybd ?_|refine Yex ?_|refine Yab ?_)
      refine Zae _ rfl rfl rfl rfl rfl hS (Zuf lp p o s m j done rdn D _ a c l (hS.rd (List.mem_cons_self ..)) (hS.rd (List.mem_cons_of_mem _ (List.mem_cons_self ..))) hj (hW0 _ _ hS) hl) ?_
      rintro _ w rfl hS
      rw [← hd,hh]
      repeat (first|refine Yeg ?_|(refine X_id ?_;first|(refine Zaa 138 rfl rfl rfl rfl rfl (Zq8 lp p o s m j done rdn _ (hS.rd (List.mem_cons_self ..)) hj) ?_;rintro _ _ ⟨rfl,rfl⟩)|refine Yaf ?_|refine Yag ?_|refine Yau ?_|refine Yan ?_|refine Ya4 ?_|refine Ybb ?_|refine Yav ?_|refine Ybu ?_|refine Yb7 ?_|refine Yap ?_)|refine Yae ?_|refine Yad ?_|refine Yah ?_|refine Yaj ?_|refine Yai ?_|refine Yel ?_)
      exact ⟨rfl,hS⟩
    ·unfold last at hfull
     by_cases hl0 : l = []
     ·rw [show Zbf rd fs D j done d = (0,D,done) by unfold Zbf last; rw [if_neg (by simp [hoff]),if_neg (by simpa using hck),if_neg (by simp [hh]),if_neg (by rw [hdl]; exact hfull),if_pos (by rw [hd,hl0]; rfl)]]
      have hl1 : l.length = 0 := by rw [hl0]; rfl
      refine Zab Tryz.func84 rfl Tryz.ntmps84 rfl ?_
      repeat (first|refine Yd0 ?_|(refine X_id ?_;first|(refine Zaa 76 rfl rfl rfl rfl rfl (hon _ _ hS) ?_;rintro _ _ ⟨rfl,rfl⟩)|refine Yaf ?_|refine Yag ?_|refine Yau ?_|refine Yan ?_|refine Ybb ?_|refine Ybr ?_|refine Yap ?_)|refine Yex ?_|refine Yd8 ?_)
      refine Zae _ rfl rfl rfl rfl rfl hS (Zke a c l _ (hW0 _ _ hS) hl hx64) ?_
      rintro _ w rfl hS
      rw [← hd]
      repeat (first|refine Yd0 ?_|refine Yaf ?_|refine Yag ?_|refine Ybd ?_|refine Yex ?_|refine Yab ?_)
      refine Zae _ rfl rfl rfl rfl rfl hS (Zuf lp p o s m j done rdn D _ a c l (hS.rd (List.mem_cons_self ..)) (hS.rd (List.mem_cons_of_mem _ (List.mem_cons_self ..))) hj (hW0 _ _ hS) hl) ?_
      rintro _ w rfl hS
      rw [← hd,hh]
      repeat (first|refine Yeg ?_|(refine X_id ?_;first|(refine Zaa 138 rfl rfl rfl rfl rfl (Zq8 lp p o s m j done rdn _ (hS.rd (List.mem_cons_self ..)) hj) ?_;rintro _ _ ⟨rfl,rfl⟩)|refine Yaf ?_|refine Yag ?_|refine Yau ?_|refine Yan ?_|refine Ya4 ?_|refine Ybb ?_|refine Yav ?_|refine Ybi ?_|refine Ybu ?_|refine Yb9 ?_|refine Yap ?_)|refine Yae ?_|refine Yad ?_|refine Yah ?_|refine Yaj ?_|refine Yai ?_|refine Yel ?_)
      exact ⟨rfl,hS⟩
     ·have hl1 : ¬ l.length = 0 := fun h => hl0 (List.length_eq_zero_iff.1 h)
      rw [show Zbf rd fs D j done d = ((putM rd fs D j done d).1,(putM rd fs D j done d).2,if (putM rd fs D j done d).1 = 0 then done + 1 else done) by
       unfold Zbf last; rw [if_neg (by simp [hoff]),if_neg (by simpa using hck),if_neg (by simp [hh]),if_neg (by rw [hdl]; exact hfull),if_neg (by intro h; rw [h] at hdl; exact hl1 hdl.symm)]]
      refine Zab Tryz.func84 rfl Tryz.ntmps84 rfl ?_
      repeat (first|refine Yd0 ?_|(refine X_id ?_;first|(refine Zaa 76 rfl rfl rfl rfl rfl (hon _ _ hS) ?_;rintro _ _ ⟨rfl,rfl⟩)|refine Yaf ?_|refine Yag ?_|refine Yau ?_|refine Yan ?_|refine Ybb ?_|refine Ybr ?_|refine Yap ?_)|refine Yex ?_|refine Yd8 ?_)
      refine Zae _ rfl rfl rfl rfl rfl hS (Zke a c l _ (hW0 _ _ hS) hl hx64) ?_
      rintro _ w rfl hS
      rw [← hd]
      repeat (first|refine Yd0 ?_|refine Yaf ?_|refine Yag ?_|refine Ybd ?_|refine Yex ?_|refine Yab ?_)
      refine Zae _ rfl rfl rfl rfl rfl hS (Zuf lp p o s m j done rdn D _ a c l (hS.rd (List.mem_cons_self ..)) (hS.rd (List.mem_cons_of_mem _ (List.mem_cons_self ..))) hj (hW0 _ _ hS) hl) ?_
      rintro _ w rfl hS
      rw [← hd,hh]
      repeat (first|refine Yeg ?_|(refine X_id ?_;first|(refine Zaa 138 rfl rfl rfl rfl rfl (Zq8 lp p o s m j done rdn _ (hS.rd (List.mem_cons_self ..)) hj) ?_;rintro _ _ ⟨rfl,rfl⟩)|refine Yaf ?_|refine Yag ?_|refine Yau ?_|refine Yan ?_|refine Ya4 ?_|refine Ybb ?_|refine Yav ?_|refine Ybh ?_|refine Ybu ?_|refine Yb9 ?_|refine Ybk ?_|refine Yax ?_|refine Yap ?_|refine Ya6 (fun _ _ hS _ => ?_))|refine Yeb ?_|refine Yd8 ?_)
      rename_i sp _ _
      have hgood : ∀ v ∈ l,0 ≤ v.no ∧ v.no < (D.laid.length : Int) - 1 - j ∧ v.x.s.length = 64 := fun v hv => by
       have h1 := Zej hck v.data (by rw [hd]; exact List.mem_map.2 ⟨v,hv,rfl⟩)
       have h2 := List.all_eq_true.1 hh v.data (by rw [hd]; exact List.mem_map.2 ⟨v,hv,rfl⟩)
       exact ⟨h1.1,of_decide_eq_true h2,h1.2⟩
      have hfr := Zhk (done + 1) d (fun x hx => by
       have := (Zej hck x hx).2
       omega)
      have hpm : putM rd fs D j done d = layM rd fs j (Zc5 (Zb5 (done + 1) (sumB rd fs (done + 1) d) d (0,D) d.length)) (done + 1) d := rfl
      refine Zae _ rfl rfl rfl rfl rfl hS (Z2g (done + 1) a c l rd fs _ (hG.mono fun r hr => (hr.rd hS).ro) (hW0 _ _ hS) hl (by rw [← hd]; omega)) ?_
      rintro _ w rfl hS
      rw [← hd]
      obtain ⟨sd,hsd⟩ : ∃ sd,sd = sumB rd fs (done + 1) d := ⟨_,rfl⟩
      have hsl : sd.length = 32 := by rw [hsd]; exact Zjn ..
      rw [← hsd] at hpm ⊢
      have hl32 : LenO (bv sd) 32 := ⟨by simp [hsl]⟩
      repeat (first|refine Yd0 ?_|refine Yaf ?_|refine Yav ?_|refine Yao (fun _ hS _ => ?_)|refine Yar (fun _ _ hS _ => ?_)|refine Yd3 ?_|refine Yab ?_)
      rename_i b8 _ _ _ _ _
      have hS := hS.pick [1,2,1,0]
      refine Zak (α := Nat) (fun i => [(0,.pointer (some ⟨lp,0,none⟩)),(1,.slice a l.length c),(6,.pointer (some ⟨sp,0,none⟩)),(7,.int .i64 (done + 1)),(8,.pointer (some ⟨b8,0,none⟩)),(62,.slice a l.length c),(63,.int .i64 (l.length : Nat)),(64,.int .i64 (i : Nat))])
       (fun i w => i ≤ l.length ∧ St W F [Zig sp p (Zb5 (done + 1) sd d (0,D) i).1,disk p (Zb5 (done + 1) sd d (0,D) i).2,Zb9 lp p o s m j done rdn,pts b8 (.cells (bv sd).toArray 79)] w) (fun i => l.length - i) 0 ⟨rfl,rfl,rfl,rfl,rfl,rfl,rfl,rfl,trivial⟩ ⟨Nat.zero_le _,hS⟩ ?_
      clear hS
      rintro i w ⟨hi,hS⟩
      have hnl := Zij (done + 1) sd d (0,D) i
      simp only at hnl
      obtain ⟨X,hX⟩ : ∃ X,X = Zb5 (done + 1) sd d (0,D) i := ⟨_,rfl⟩
      rw [← hX] at hS hnl
      by_cases hlt : i < l.length
      ·have hx0 : l[i]? = some l[i] := List.getElem?_eq_getElem hlt
       generalize l[i] = v at hx0
       have hvm := List.mem_of_getElem? hx0
       have hgv := (hgood v hvm).2.2
       have hdi : d.getD i (0,[]) = (v.no,v.x.s) := by rw [List.getD_eq_getElem?_getD,hd]; simp [hx0,Wr.data]
       have hr := hW.row
       have hxs : ((l.flatMap Wr.cells).drop (i * 2)).take 2 = [.int .i64 v.no,.slice v.x.a v.x.s.length v.x.c] := Znq hx0
       obtain ⟨ab,ao,rfl⟩ := (hW.row.rd hS).base (by intro e; rw [e] at hxs; simp at hxs)
       repeat (first|refine Yd0 ?_|(refine X_id ?_;first|refine Yaf ?_|refine Yag ?_|refine Yan ?_|refine Yav ?_|refine Ya2 ?_|refine Ybc ?_|refine Yax ?_|refine Ych ?_|refine Yap ?_|refine Ybe ?_|refine Ybp ?_|refine Yao (fun _ hS _ => ?_)|refine Yar (fun _ _ hS _ => ?_))|refine Yd4 ?_|refine Yab ?_)
       refine Zaa _ rfl rfl rfl rfl rfl (Z29 (done + 1) (i : Nat) (l.length : Nat) v.no sd hsl _) ?_
       rintro _ w ⟨q,k,rfl,hS'⟩
       replace hS := hS.plus hS'
       clear hS'
       repeat (first|refine Yaa ?_)
       obtain ⟨_,hc,hr,hw,hbk⟩ := hS.call [false,false,true,true,false,false]
       refine Zaa _ rfl rfl rfl rfl rfl (Zjm sp p X _ _ 64 k (Zhc (done + 1) (i : Nat) (l.length : Nat) v.no sd) _ _ hc (hr _ (List.mem_cons_self ..)) (Zfa ..) (by omega)) ?_
       rintro _ w ⟨_,hS⟩
       replace hS := hbk hS
       clear hc hr hw hbk
       have hX2 := Zdf X (1 + 2 * (i : Nat)) (Zhc (done + 1) (i : Nat) (l.length : Nat) v.no sd)
       repeat (first|refine Yd0 ?_|(refine X_id ?_;first|refine Yaf ?_|refine Yan ?_|refine Yax ?_|refine Ych ?_|refine Yap ?_)|refine Yad ?_|refine Yab ?_)
       obtain ⟨_,hc,hr,hw,hbk⟩ := hS.call [true,true,false,false,false,false]
       refine Zaa _ rfl rfl rfl rfl rfl (Zjm sp p (Zde X (1 + 2 * (i : Nat)) (Zhc (done + 1) (i : Nat) (l.length : Nat) v.no sd)) _ _ _ _ v.x.s _ _ hc (hw _ (hW.all v hvm)) rfl (by omega)) ?_
       rintro _ w ⟨_,hS⟩
       replace hS := hbk hS
       clear hc hr hw hbk
       repeat (first|refine Yd0 ?_|refine Yd5 ?_|refine Yad ?_|refine Yd8 ?_)
       refine Zaf (i + 1) ⟨rfl,rfl,rfl,rfl,rfl,rfl,rfl,rfl,trivial⟩ ⟨by omega,?_⟩ (by omega)
       simp only [Zb5]
       rw [hdi,← hX,hdl]
       have hS := hS.pick [0,0,2,2]
       exact hS
      ·obtain rfl : i = l.length := by omega
       rw [hdl,← hX] at hpm
       have hX2 := Zk4 X
       repeat (first|refine Yd0 ?_|refine Yaf ?_|refine Ya3 ?_|refine Yec ?_|refine Yd6 ?_)
       obtain ⟨_,hc,hr,hw,hbk⟩ := hS.call [true,true,false,false]
       refine Zaa _ rfl rfl rfl rfl rfl (Zmc sp p X _ _ hc (by omega)) ?_
       rintro _ w ⟨_,hS⟩
       replace hS := hbk hS
       clear hc hr hw hbk
       repeat (first|refine Yd0 ?_|refine Yaf ?_|refine Yd1 ?_|refine Yab ?_)
       have hS := hS.pick [2,0,0]
       obtain ⟨_,hc,hr,hw,hbk⟩ := hS.call [true,true,true]
       refine Zaa _ rfl rfl rfl rfl rfl (Z2l lp sp p o s m j done rdn (Zc5 X) (done + 1) a c l rd fs _ _ (hG.mono hw) (hW.mono hw) hj hl (fun v hv => by have := hgood v hv; omega) (by omega) hc) ?_
       rintro _ w ⟨rfl,hS⟩
       replace hS := hbk hS
       clear hc hr hw hbk
       rw [hpm,hd]
       repeat (first|refine Yd0 ?_|refine Yag ?_|refine Yah ?_|refine Yd2 ?_)
       exact ⟨rfl,hS.pick [0,1]⟩
  ·rw [show Zbf rd fs D j done d = (Zb3 d,D,done) by unfold Zbf; rw [if_neg (by simp [hoff]),if_pos hck]]
   refine Zab Tryz.func84 rfl Tryz.ntmps84 rfl ?_
   repeat (first|refine Yd0 ?_|(refine X_id ?_;first|(refine Zaa 76 rfl rfl rfl rfl rfl (hon _ _ hS) ?_;rintro _ _ ⟨rfl,rfl⟩)|refine Yaf ?_|refine Yag ?_|refine Yau ?_|refine Yan ?_|refine Ybb ?_|refine Ybr ?_|refine Yap ?_)|refine Yex ?_|refine Yd8 ?_)
   refine Zae _ rfl rfl rfl rfl rfl hS (Zke a c l _ (hW0 _ _ hS) hl hx64) ?_
   rintro _ w rfl hS
   rw [← hd]
   repeat (first|refine Yd0 ?_|refine Yaf ?_|refine Yag ?_|refine Ybl ?_|refine Yeh ?_|refine Yei ?_)
   exact ⟨rfl,hS⟩
 ·rw [hoff] at hon
  rw [show Zbf rd fs D j done d = (9,D,done) by unfold Zbf; rw [if_pos hoff]]
  refine Zab Tryz.func84 rfl Tryz.ntmps84 rfl ?_
  repeat (first|refine Yd0 ?_|(refine X_id ?_;first|(refine Zaa 76 rfl rfl rfl rfl rfl (hon _ _ hS) ?_;rintro _ _ ⟨rfl,rfl⟩)|refine Yaf ?_|refine Yag ?_|refine Yau ?_|refine Yan ?_|refine Ybo ?_|refine Ybr ?_|refine Yap ?_)|refine Yek ?_|refine Yel ?_)
  exact ⟨rfl,hS⟩
end Cr
namespace Cr
open Go
theorem Zl9 {d : List (Int × List UInt8)} {i k : Nat} (hi : i < d.length) (hk : k < i) (h : (d.getD k (0,[])).1 = (d.getD i (0,[])).1) : ∀ n,i < n → Zba d n = true
 | 0,h' => absurd h' (by omega)
 | n + 1,h' => by
  simp only [Zba]
  rcases Nat.lt_or_ge i n with hlt | hge
  ·rw [Zl9 hi hk h n hlt]; rfl
  ·obtain rfl : n = i := by omega
   have hm : (d.getD n (0,[])).1 ∈ (d.take n).map (·.1) := by
    rw [← h,List.getD_eq_getElem?_getD,List.getElem?_eq_getElem (show k < d.length by omega)]
    exact List.mem_map.2 ⟨d[k],List.mem_iff_getElem.2 ⟨k,by simp; omega,by simp⟩,rfl⟩
   rw [decide_eq_true hm]; simp
end Cr
namespace Cr
open Go Go.Proofs
structure Quiet (D : DiskM) (n : Nat) : Prop where
 off : D.off = false
 armed : D.armed = false
 len : D.laid.length = n
structure Qs (x : Int × DiskM) (n : Nat) (laid : List (List UInt8)) (line : List (Int × List UInt8)) : Prop where
 e : x.1 = 0
 q : Quiet x.2 n
 laid : x.2.laid = laid
 line : x.2.line = line
theorem Qs.write {x : Int × DiskM} {n : Nat} {laid : List (List UInt8)} {line : List (Int × List UInt8)} (h : Qs x n laid line) {no : Int} {b : List UInt8} (h0 : 0 ≤ no) (h1 : no < n) (hb : b.length = 64) : Qs (Zde x no b) n laid (line ++ [(no,b)]) := by
 obtain ⟨e,⟨qo,qa,ql⟩,hl,hn⟩ := h
 have hu : useB x.2.off x.2.armed x.2.left = true := by rw [qo,qa]; rfl
 have hw := DiskM.write_yes (D := x.2) (no := no) (b := b) qo (by simp [Zc2,h0,ql,h1]) hb hu
 unfold Zde
 rw [if_pos e,hw]
 refine ⟨rfl,⟨?_,qa,ql⟩,hl,by simp [hn]⟩
 show Znw x.2.off x.2.armed x.2.left = false
 rw [qo,qa]; rfl
theorem Qs.flush {x : Int × DiskM} {n : Nat} {laid : List (List UInt8)} {line : List (Int × List UInt8)} (h : Qs x n laid line) : Qs (Zc5 x) n (Zby laid line) [] := by
 obtain ⟨e,⟨qo,qa,ql⟩,hl,hn⟩ := h
 have hu : useB x.2.off x.2.armed x.2.left = true := by rw [qo,qa]; rfl
 have hw := DiskM.flush_yes (D := x.2) qo hu
 unfold Zc5
 rw [if_pos e,hw]
 refine ⟨rfl,⟨?_,qa,?_⟩,?_,rfl⟩
 ·show Znw x.2.off x.2.armed x.2.left = false
  rw [qo,qa]; rfl
 ·show (Zby x.2.laid x.2.line).length = n
  rw [Zat]; exact ql
 ·show Zby x.2.laid x.2.line = _
  rw [hl,hn]
theorem Qs.puts (k : Int) {n : Nat} {laid : List (List UInt8)} : ∀ (l : List (Int × List UInt8)) {x : Int × DiskM} {line : List (Int × List UInt8)},Qs x n laid line → (∀ v ∈ l,0 ≤ k + v.1 ∧ k + v.1 < n ∧ v.2.length = 64) → Qs (Zf4 k x l) n laid (line ++ l.map fun v => (k + v.1,v.2))
 | [],_,_,h,_ => by simpa [Zf4] using h
 | v :: l,x,line,h,hl => by
  have hv := hl v (List.mem_cons_self ..)
  have := Qs.puts k l (h.write hv.1 hv.2.1 hv.2.2) fun u hu => hl u (List.mem_cons_of_mem _ hu)
  simpa [Zf4] using this
theorem Qs.notes (m : Int) (d : List UInt8) (l : List (Int × List UInt8)) {n : Nat} {laid : List (List UInt8)} {x : Int × DiskM} {line : List (Int × List UInt8)} (h : Qs x n laid line) (hl : ∀ v ∈ l,v.2.length = 64) (hn : 2 * l.length < n) :
  ∀ i,i ≤ l.length → ∃ L,(∀ v ∈ L,0 ≤ v.1 ∧ v.1 < 1 + 2 * (l.length : Int)) ∧ Qs (Zb5 m d l x i) n laid (line ++ L)
 | 0,_ => ⟨[],by simp,by simpa [Zb5] using h⟩
 | i + 1,hi => by
  obtain ⟨L,hL,hq⟩ := Qs.notes m d l h hl hn i (by omega)
  have hv : (l.getD i (0,[])).2.length = 64 := by
   rw [List.getD_eq_getElem?_getD,List.getElem?_eq_getElem (by omega)]
   exact hl _ (List.getElem_mem _)
  have h1 := hq.write (no := 1 + 2 * (i : Nat)) (b := Zhc m (i : Nat) (l.length : Nat) (l.getD i (0,[])).1 d) (by omega) (by omega) (Zfa ..)
  have h2 := h1.write (no := 1 + 2 * (i : Nat) + 1) (b := (l.getD i (0,[])).2) (by omega) (by omega) hv
  refine ⟨L ++ [(1 + 2 * ((i : Nat) : Int),Zhc m (i : Nat) (l.length : Nat) (l.getD i (0,[])).1 d),(1 + 2 * ((i : Nat) : Int) + 1,(l.getD i (0,[])).2)],?_,by simpa [Zb5,Zhb,List.append_assoc] using h2⟩
  intro v hv
  rcases List.mem_append.1 hv with hv | hv
  ·exact hL v hv
  ·simp only [List.mem_cons,List.not_mem_nil,or_false] at hv
   rcases hv with rfl | rfl <;> (simp only; omega)
def Zcg (l : List (Int × List UInt8)) (m : Int) : Option (List UInt8) := (l.reverse.find? fun v => v.1 == m).map (·.2)
theorem Zdn (v : Int × List UInt8) (l : List (Int × List UInt8)) (m : Int) : Zcg (v :: l) m = (Zcg l m).or (if v.1 = m then some v.2 else none) := by
 unfold Zcg
 rw [List.reverse_cons,List.find?_append]
 cases h : l.reverse.find? fun v => v.1 == m with
 | some x => simp
 | none => by_cases e : v.1 = m <;> simp [e]
theorem Zgl {l : List (Int × List UInt8)} {m : Int} (h : ∀ v ∈ l,v.1 ≠ m) : Zcg l m = none := by
 unfold Zcg
 rw [List.find?_eq_none.2 (fun v hv => by simpa using h v (List.mem_reverse.1 hv))]; rfl
theorem Zli (k m : Int) : ∀ l : List (Int × List UInt8),Zcg (l.map fun v => (k + v.1,v.2)) (k + m) = Zcg l m
 | [] => rfl
 | v :: l => by
  rw [List.map_cons,Zdn,Zdn,Zli k m l]
  congr 1
  by_cases e : v.1 = m
  ·rw [if_pos e,if_pos (by rw [e])]
  ·rw [if_neg e,if_neg (fun h => e (Int.add_left_cancel h))]
theorem Zqg {l : List (Int × List UInt8)} {m : Int} {s : List UInt8} (h : Zcg l m = some s) : (m,s) ∈ l := by
 unfold Zcg at h
 obtain ⟨v,hv,rfl⟩ := Option.map_eq_some_iff.1 h
 have h1 := List.mem_of_find?_eq_some hv
 have h2 := List.find?_some hv
 simp only [beq_iff_eq] at h2
 subst h2
 exact List.mem_reverse.1 h1
theorem Zc1 : ∀ (xs : List (Int × List UInt8)) (l : List (List UInt8)) (k : Nat),k < l.length → (∀ v ∈ xs,0 ≤ v.1) → (Zby l xs).getD k [] = (Zcg xs k).getD (l.getD k [])
 | [],_,_,_,_ => rfl
 | v :: xs,l,k,hk,hx => by
  have hv := hx v (List.mem_cons_self ..)
  have ih := Zc1 xs (l.set v.1.toNat v.2) k (by simpa using hk) fun u hu => hx u (List.mem_cons_of_mem _ hu)
  have e : Zby l (v :: xs) = Zby (l.set v.1.toNat v.2) xs := rfl
  rw [e,ih,Zdn]
  cases Zcg xs k with
  | some s => rfl
  | none =>
   simp only [Option.getD_none,Option.none_or]
   rw [List.getD_eq_getElem?_getD,List.getElem?_set]
   by_cases e2 : v.1.toNat = k
   ·rw [if_pos e2,if_pos (by omega),if_pos (by omega)]; rfl
   ·rw [if_neg e2,if_neg (by omega)]; simp [List.getD_eq_getElem?_getD]
theorem Ztt {D : DiskM} (h : D.line = []) (no : Int) : D.find no = D.laid.getD no.toNat [] := by unfold DiskM.find; rw [h]; rfl
theorem Zqh {l : List (Int × List UInt8)} (h : Zba l l.length = false) {v : Int × List UInt8} (hv : v ∈ l) : Zcg l v.1 = some v.2 := by
 obtain ⟨i,hi,rfl⟩ := List.mem_iff_getElem.1 hv
 cases h1 : Zcg l l[i].1 with
 | none =>
  unfold Zcg at h1
  rw [Option.map_eq_none_iff,List.find?_eq_none] at h1
  have := h1 l[i] (List.mem_reverse.2 (List.getElem_mem _))
  simp at this
 | some s =>
  obtain ⟨k,hk,hk'⟩ := List.mem_iff_getElem.1 (Zqg h1)
  have hg : ∀ {a : Nat} (ha : a < l.length),l.getD a (0,[]) = l[a] := fun ha => by simp [List.getD_eq_getElem?_getD,ha]
  rcases Nat.lt_trichotomy k i with hlt | rfl | hlt
  ·have := Zl9 (d := l) hi hlt (by rw [hg hk,hg hi,hk']) l.length hi
   rw [this] at h; cases h
  ·rw [hk']
  ·have := Zl9 (d := l) hk hlt (by rw [hg hk,hg hi,hk']) l.length hk
   rw [this] at h; cases h
end Cr
namespace Cr
open Go Go.Proofs
structure Done (R : Int × DiskM × Int) (D : DiskM) (j n : Nat) (done : Int) (l : List (Int × List UInt8)) : Prop where
 e : R.1 = 0
 q : Quiet R.2.1 n
 line : R.2.1.line = []
 lo : done ≤ R.2.2
 hi : R.2.2 ≤ done + 1
 at_ : ∀ k,1 + j + k < n → R.2.1.laid.getD (1 + j + k) [] = (Zcg l (k : Nat)).getD (D.laid.getD (1 + j + k) [])
theorem Zqp (rd fs : List Int) {D : DiskM} {j n : Nat} {done : Int} {l : List (Int × List UInt8)} (hq : Quiet D n) (hline : D.line = []) (hc : Zb3 l = 0) (hh : hasM ((n : Int) - 1 - j) l = true) (hm : (l.length : Int) ≤ (j : Int) / 2) (hd : done < last) :
  Done (Zbf rd fs D j done l) D j n done l := by
 have hgood : ∀ v ∈ l,0 ≤ v.1 ∧ v.1 < (n : Int) - 1 - j ∧ v.2.length = 64 := fun v hv => by
  have h1 := Zej hc v hv
  have h2 := List.all_eq_true.1 hh v hv
  exact ⟨h1.1,of_decide_eq_true h2,h1.2⟩
 unfold Zbf
 rw [if_neg (by simp [hq.off]),if_neg (by simpa using hc),hq.len,if_neg (by simp [hh]),if_neg (by omega)]
 by_cases h0 : l = []
 ·rw [if_pos h0]
  subst h0
  exact ⟨rfl,hq,hline,Int.le_refl _,by simp only; omega,fun k hk => rfl⟩
 ·rw [if_neg h0]
  have hlen : 0 < l.length := List.length_pos_iff.2 h0
  obtain ⟨v0,hv0⟩ := List.exists_mem_of_ne_nil l h0
  have hv0 := hgood v0 hv0
  have hq0 : Qs (0,D) n D.laid [] := ⟨rfl,hq,rfl,hline⟩
  obtain ⟨L,hL,h1⟩ := hq0.notes (done + 1) (sumB rd fs (done + 1) l) l (fun v hv => (hgood v hv).2.2) (by omega) l.length (Nat.le_refl _)
  have h2 := Qs.puts (1 + j) l h1.flush (fun v hv => by have := hgood v hv; omega)
  have h3 := (h2.flush.write (no := 0) (b := Zef rd fs (done + 1)) (by omega) (by omega) (Zbl _)).flush
  have e : putM rd fs D j done l = Zc5 (Zde (Zc5 (Zf4 (1 + j) (Zc5 (Zb5 (done + 1) (sumB rd fs (done + 1) l) l (0,D) l.length)) l)) 0 (Zef rd fs (done + 1))) := rfl
  rw [← e] at h3
  refine ⟨h3.e,h3.q,h3.line,?_,?_,fun k hk => ?_⟩
  ·simp only [h3.e,if_true]; omega
  ·simp only [h3.e,if_true]; omega
  ·simp only
   rw [h3.laid]
   have l1 : D.laid.length = n := hq.len
   rw [Zc1 _ _ _ (by rw [Zat,Zat,l1]; exact hk) (fun v hv => by simp only [List.nil_append,List.mem_singleton] at hv; rw [hv]; exact Int.le_refl _),
    Zgl (l := [] ++ [(0,Zef rd fs (done + 1))]) (fun v hv => by simp only [List.nil_append,List.mem_singleton] at hv; rw [hv]; simp only; omega),Option.getD_none,
    Zc1 _ _ _ (by rw [Zat,l1]; exact hk) (fun v hv => by
     simp only [List.nil_append,List.mem_map] at hv
     obtain ⟨u,hu,rfl⟩ := hv
     have := hgood u hu
     simp only; omega),
    show ((1 + j + k : Nat) : Int) = (1 + (j : Int)) + (k : Nat) by omega,List.nil_append,Zli]
   congr 1
   rw [Zc1 _ _ _ (by rw [l1]; exact hk) (fun v hv => (hL v (by simpa using hv)).1),Zgl (fun v hv => by have := hL v (by simpa using hv); omega)]
   rfl
end Cr
