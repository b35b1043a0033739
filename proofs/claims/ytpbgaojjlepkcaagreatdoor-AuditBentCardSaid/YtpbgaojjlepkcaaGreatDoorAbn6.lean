/-
  Layer 1 (block): Write,Flush.
  slices.Backward: what the function that it hands back does,round by round.
  Layer 1 (block): lay,Flush,Read.
  Rows of audit records,in plain words; what stands behind them in a chain; the first that is not right.
  Layer 2 (digest): mix.
  Layer 2 (digest): bytes,one.
  Layer 2 (digest): Write,Fork,Sum.
  Layer 2 (digest): Sum.
  Layer 2 (digest): Framed.
  Layer 2 (digest): Of.
  A conversion of bytes to the same type (the model marks the block): the row can be read on. Over any program.
  Bytes made; lists of byte slices as a resource. Over any program.
  Arrays of bytes compared. Over any program.
  Layer 11 (chain): Start.
  bytes.Join (without a separator) and bytes.Equal.
-/
import Derived.Test.YtpbgaojjlepkcaaGreatDoorAbn5
import Derived.Test.YtpbgaojjlepkcaaGreatDoorAbn3
import Derived.Laws.StructEq
import Derived.Test.YtpbgaojjlepkcaaGreatDoorAbn4
import Derived.KernelRfl
import Derived.Lib.MakeNoZero
import Derived.Laws.Externs
namespace Cr
open Go Go.Proofs
set_option maxRecDepth 100000
set_option maxHeartbeats 64000000

theorem Z1u (b off : Nat) (x y : Int) (l l' : List Value) (T : TypeId) (W : World) (F : Nat → Prop) [hn : Nth l off (.int .i64 x)] [hs : Spl l off [.int .i64 (IntKind.i64.wrap (x + y))] l'] (hS : St W F [pts b (.cells l.toArray T)] W) :
  Calls Tryz.prog 240 #[.pointer (some ⟨b,off,none⟩),.int .i64 y] W (Ret fun v w => v = .int .i64 (IntKind.i64.wrap (x + y)) ∧ St W F [pts b (.cells l'.toArray T)] w) := by
 refine Zab Tryz.func240 rfl Tryz.ntmps240 rfl ?_
 repeat (first|refine Yea ?_|(refine X_id ?_;first|refine Yaf ?_|refine Yag ?_|refine Yau ?_|refine Yby ?_|refine Z1x rfl rfl rfl rfl rfl rfl hS (fun _ hS => ?_))|refine Ye1 ?_|refine Yec ?_)
 exact ⟨rfl,hS⟩

def DiskM.used (D : DiskM) : DiskM := { D with off := Zpd D.off D.armed D.left,left := Zne D.off D.armed D.left }
def DiskM.write (D : DiskM) (no : Int) (b : List UInt8) : Int × DiskM :=
 if D.off then (9,D) else if Zdm D no = false ∨ b.length ≠ 64 then (1,D) else if useB D.off D.armed D.left = false then (9,D.used)
 else (0,{ D.used with line := D.line ++ [(no,b)],writes := IntKind.i64.wrap (D.writes + 1) })
theorem DiskM.write_use {D : DiskM} {no : Int} {b : List UInt8} (h : D.off = false) (hin : Zdm D no = true) (hb : b.length = 64) (hu : useB D.off D.armed D.left = false) : D.write no b = (9,D.used) := by
 unfold DiskM.write
 rw [if_neg (by simp [h]),if_neg (by simp [hin,hb]),if_pos hu]
theorem DiskM.write_yes {D : DiskM} {no : Int} {b : List UInt8} (h : D.off = false) (hin : Zdm D no = true) (hb : b.length = 64) (hu : useB D.off D.armed D.left = true) : D.write no b = (0,{ D.used with line := D.line ++ [(no,b)],writes := IntKind.i64.wrap (D.writes + 1) }) := by
 unfold DiskM.write
 rw [if_neg (by simp [h]),if_neg (by simp [hin,hb]),if_neg (by simp [hu])]
theorem DiskM.used_ok {D : DiskM} (h : D.ok) : D.used.ok := by
 obtain ⟨h1,h2,h3,h4,h5,h6⟩ := h
 refine ⟨h1,h2,h3,h4,?_,?_⟩ <;> simp only [DiskM.used,Zne] <;> split <;> omega
theorem DiskM.line_ok {D : DiskM} (h : D.ok) {no : Int} {b : List UInt8} {wr : Int} (hn : Zdm D no = true) (hb : b.length = 64) : ({ D with line := D.line ++ [(no,b)],writes := wr } : DiskM).ok := by
 obtain ⟨h1,h2,h3,h4,h5,h6⟩ := h
 refine ⟨h1,fun x hx => ?_,h3,h4,h5,h6⟩
 simp only [List.mem_append,List.mem_singleton] at hx
 rcases hx with hx | rfl
 ·exact h2 x hx
 ·have : 0 ≤ no ∧ no < D.laid.length := by simpa [Zdm] using hn
  exact ⟨hb,this.1,this.2⟩
theorem St.openDisk {W : World} {F : Nat → Prop} {p : Nat} {D : DiskM} {rs : List Res} {w : World} (hS : St W F (disk p D :: rs) w) : D.ok ∧ ∃ al cl ai ci,D.laid.length ≤ cl ∧ D.line.length ≤ ci ∧
  St W F (pts p (.cells #[.bool D.off,.bool D.armed,.int .i64 D.left,.slice al D.laid.length cl,.slice ai D.line.length ci,.int .i64 D.writes,.int .i64 D.flushes] 164) ::
   own 334 64 al cl (Zbb D.laid) :: own 336 65 ai ci (Za5 D.line) :: rs) w := by
 obtain ⟨h,⟨h1,h2,⟨hok,al,cl,ai,ci,c1,c2,hs⟩,hr,hd,hu⟩,s⟩ := hS
 exact ⟨hok,al,cl,ai,ci,c1,c2,h,Sep.append_mk (rs := [_,_,_]) hs hr hd hu,s⟩
theorem St.shutDisk {W : World} {F : Nat → Prop} {p : Nat} {D : DiskM} {rs : List Res} {w : World} {al ai : Option Addr} {cl ci : Nat} (hok : D.ok) (c1 : D.laid.length ≤ cl) (c2 : D.line.length ≤ ci)
  (hS : St W F (pts p (.cells #[.bool D.off,.bool D.armed,.int .i64 D.left,.slice al D.laid.length cl,.slice ai D.line.length ci,.int .i64 D.writes,.int .i64 D.flushes] 164) ::
   own 334 64 al cl (Zbb D.laid) :: own 336 65 ai ci (Za5 D.line) :: rs) w) : St W F (disk p D :: rs) w :=
 St.shutR (rs' := [_,_,_]) (rs := rs) hS fun _ hh => ⟨hok,al,cl,ai,ci,c1,c2,hh⟩
theorem Zjk (l m : List (Int × List UInt8)) : Za5 (l ++ m) = Za5 l ++ Za5 m := by simp [Za5]
theorem Zdq {l : List (Int × List UInt8)} (h : ∀ x ∈ l,x.2.length = 64) : (Za5 l).length = l.length * 65 := by
 induction l with
 | nil => rfl
 | cons x l ih =>
  have := ih fun y hy => h y (List.mem_cons_of_mem _ hy)
  have h0 := h x (List.mem_cons_self ..)
  simp only [Za5,List.flatMap_cons,List.length_append,List.length_cons,Zah,h0] at this ⊢
  omega
theorem Zdr {l : List (List UInt8)} (h : ∀ x ∈ l,x.length = 64) : (Zbb l).length = l.length * 64 := by
 induction l with
 | nil => rfl
 | cons x l ih =>
  have := ih fun y hy => h y (List.mem_cons_of_mem _ hy)
  have h0 := h x (List.mem_cons_self ..)
  simp only [Zbb,List.flatMap_cons,List.length_append,List.length_cons,Zah,h0] at this ⊢
  omega

theorem Z2t {k : IntKind} {n : Int} {l : List Value} (h : ∀ u ∈ l,u.oneCell' = true) : ∀ u ∈ Value.int k n :: l,u.oneCell' = true := fun u hu => by
 rcases List.mem_cons.mp hu with rfl | hu
 ·rfl
 ·exact h u hu
theorem Z34 (p : Nat) (D : DiskM) (no : Int) (a : Option Addr) (n c : Nat) (b : List UInt8) (W : World) (F : Nat → Prop) (hS : St W F [disk p D] W) (hb : Ro W F (bytes a b)) (hn : b.length = n) (hline : D.line.length < 1073741824) :
  Calls Tryz.prog 206 #[.pointer (some ⟨p,0,none⟩),.int .i64 no,.slice a n c] W (Ret fun v w => v = .int .i64 (D.write no b).1 ∧ St W F [disk p (D.write no b).2] w) := by
 have hd := hS.rd (List.mem_cons_self ..)
 cases hoff : D.off
 ·have hon := on_ p D W hd
  rw [hoff] at hon;cases hin : Zdm D no
  ·have hhas := has_ p D no W hd
   rw [hin] at hhas;refine Zab Tryz.func206 rfl Tryz.ntmps206 rfl ?_
   repeat (first|refine Yep ?_|(refine X_id ?_;first|(refine Zaa 76 rfl rfl rfl rfl rfl hon ?_;rintro _ _ ⟨rfl,rfl⟩)|(refine Zaa 199 rfl rfl rfl rfl rfl hhas ?_;rintro _ _ ⟨rfl,rfl⟩)|refine Yaf ?_|refine Yag ?_|refine Ya8 ?_|refine Ybd ?_|refine Ybq ?_)|refine Yfc ?_|refine Yey ?_)
   refine ⟨by simp [DiskM.write,hoff,hin],by simpa [DiskM.write,hoff,hin] using hS⟩
  ·have hhas := has_ p D no W hd
   rw [hin] at hhas;by_cases hb64 : b.length = 64
   ·have hn64 : n = 64 := by omega
    subst hn64
    obtain ⟨hok,al,cl,ai,ci,c1,c2,hS⟩ := hS.openDisk
    have hbr := hb.start
    obtain ⟨bb,bo,rfl⟩ := hbr.base (fun e => by rw [← Zah,e] at hb64; cases hb64)
    have hcells := hbr.cellsAt rfl
    have hlc : LenIs (bv b) 64 := ⟨by simp [hb64]⟩
    cases huse : useB D.off D.armed D.left
    ·refine Zab Tryz.func206 rfl Tryz.ntmps206 rfl ?_
     repeat (first|refine Yer ?_|(refine X_id ?_;first|(refine Zaa 76 rfl rfl rfl rfl rfl hon ?_;rintro _ _ ⟨rfl,rfl⟩)|(refine Zaa 199 rfl rfl rfl rfl rfl hhas ?_;rintro _ _ ⟨rfl,rfl⟩)|refine Yaf ?_|refine Yag ?_|refine Yau ?_|refine Yan ?_|refine Ya1 ?_|refine Ybd ?_|refine Yav ?_|refine Ya4 ?_)|refine Ye7 ?_|refine Yab ?_)
     obtain ⟨_,hc,hr,hw,hbk⟩ := hS.call [true,false,false]
     refine Zaa _ rfl rfl rfl rfl rfl (use_ p D.off D.armed D.left _ _ _ _ hok.left0 hok.left1 hc) ?_
     rintro _ w ⟨rfl,hS⟩
     replace hS := hbk hS
     clear hc hr hw hbk;rw [huse];repeat (first|refine Yea ?_|refine Yag ?_|refine Ybq ?_|refine Yek ?_|refine Yey ?_)
     rw [DiskM.write_use hoff hin hb64 huse];exact ⟨rfl,St.shutDisk (DiskM.used_ok hok) c1 c2 hS⟩
    ·refine Zab Tryz.func206 rfl Tryz.ntmps206 rfl ?_
     repeat (first|refine Yer ?_|(refine X_id ?_;first|(refine Zaa 76 rfl rfl rfl rfl rfl hon ?_;rintro _ _ ⟨rfl,rfl⟩)|(refine Zaa 199 rfl rfl rfl rfl rfl hhas ?_;rintro _ _ ⟨rfl,rfl⟩)|refine Yaf ?_|refine Yag ?_|refine Yau ?_|refine Yan ?_|refine Ya1 ?_|refine Ybd ?_|refine Yav ?_|refine Ya4 ?_)|refine Ye7 ?_|refine Yab ?_)
     obtain ⟨_,hc,hr,hw,hbk⟩ := hS.call [true,false,false]
     refine Zaa _ rfl rfl rfl rfl rfl (use_ p D.off D.armed D.left _ _ _ _ hok.left0 hok.left1 hc) ?_
     rintro _ w ⟨rfl,hS⟩
     replace hS := hbk hS
     clear hc hr hw hbk;rw [huse];repeat (first|refine Yea ?_|refine Yag ?_|refine Ybd ?_|refine Yae ?_|refine Yak ?_|refine Yai ?_|refine Yei ?_)
     have hcells : CellsAt w.drew ⟨bb,bo,none⟩ (bv b) := (hb.rd hS).cellsAt rfl
     refine Zam (.s 0 (.s 1 (.s 2 (.s 3 (.s 4 (.s 5 (.s 6 (.s 7 (.s 8 (.s 9 (.h 10 (.h 11 (.s 12 (.s 13 (.h 14 .nil .no))) .no) .no))))))))))) mixed (by kernel_rfl) rfl ?_
     have hS := hS.drew
     repeat (first|refine Ybn (fun _ _ hS _ => ?_)|(refine Zae ?_;first|refine Ya3 ?_|refine Ybr ?_|refine Ybe ?_|refine Yb8 ?_|refine Zak rfl rfl (fun _ => Zm4 rfl rfl (by omega)) rfl rfl ?_|refine Ybk ?_|refine Zat (fun w' => CellsAt w' _ _) rfl rfl (by assumption) (fun _ hc => Zdf rfl rfl hc (by simp;omega)) rfl rfl ?_|refine Yas ?_)|(refine Zac ?_;first|refine Yaz ?_))
     refine Zar rfl rfl rfl rfl rfl hS (Zdq fun x hx => (hok.line64 x hx).1) c2 (hS.rd (List.mem_cons_self ..)).own_row (by simp [hb64]) (Z2t Zfd) (by omega) (by simp only [maxLen]; omega) (fun a' c' w hS hc hnil => ?_)
     repeat (first|refine Yaa ?_|refine Yaf ?_|refine Yau ?_|refine Yan ?_|refine Yao (fun _ hS _ => ?_)|refine Yeb ?_|refine Yab ?_|(refine Zae ?_;first|refine Yay ?_|refine Ybr ?_|refine Ybe ?_|refine Yas ?_)|(refine Zac ?_;first|refine Yaz ?_))
     obtain ⟨_,hc,hr,hw,hbk⟩ := hS.call [false,false,true,false]
     refine Zaa _ rfl rfl rfl rfl rfl (Z1u p 5 D.writes 1 _ _ _ _ _ hc) ?_
     rintro _ w ⟨rfl,hS⟩
     replace hS := hbk hS
     clear hc hr hw hbk;repeat (first|refine Yea ?_|refine Yag ?_|refine Ye1 ?_|refine Yec ?_)
     rw [DiskM.write_yes hoff hin hb64 huse];have hok' := DiskM.line_ok (wr := IntKind.i64.wrap (D.writes + 1)) (DiskM.used_ok hok) (no := no) (b := b) hin hb64
     refine ⟨rfl,St.shutDisk (al := al) (ai := a') hok' c1 (show (D.line ++ [(no,b)]).length ≤ c' by simpa using hc) ?_⟩
     have hS := hS.pick [0,2,0]
     show St W F [pts p (.cells #[_,_,_,_,.slice a' ((D.line ++ [(no,b)]).length : Nat) c',_,_] 164),_,own _ _ _ _ (Za5 (D.line ++ [(no,b)]))] w
     rw [Zjk,List.length_append]
     simpa [Za5,DiskM.used] using hS
   ·refine Zab Tryz.func206 rfl Tryz.ntmps206 rfl ?_
    repeat (first|refine Yer ?_|(refine X_id ?_;first|(refine Zaa 76 rfl rfl rfl rfl rfl hon ?_;rintro _ _ ⟨rfl,rfl⟩)|(refine Zaa 199 rfl rfl rfl rfl rfl hhas ?_;rintro _ _ ⟨rfl,rfl⟩)|refine Yaf ?_|refine Yag ?_|refine Ya1 ?_|refine Ybd ?_|refine Yav ?_|refine Ybj ?_)|refine Yfc ?_|refine Yey ?_)
    refine ⟨by simp [DiskM.write,hoff,hin,hb64],by simpa [DiskM.write,hoff,hin,hb64] using hS⟩
 ·have hon := on_ p D W hd
  rw [hoff] at hon;refine Zab Tryz.func206 rfl Tryz.ntmps206 rfl ?_
  repeat (first|refine Yea ?_|(refine X_id ?_;first|(refine Zaa 76 rfl rfl rfl rfl rfl hon ?_;rintro _ _ ⟨rfl,rfl⟩)|refine Yaf ?_|refine Yag ?_|refine Ybq ?_)|refine Yfb ?_|refine Yey ?_)
  exact ⟨by simp [DiskM.write,hoff],by simpa [DiskM.write,hoff] using hS⟩
theorem Zjm (l bx n c : Nat) (a : Option Addr) (cs : List Value) (w : World) (T : TypeId) (hn : n ≤ 4611686018427387904) (hcs : cs.length = n * 65) (Inv : Nat → World → Prop) (Stop : World → Prop)
  (hbx : ∀ k w,Inv k w → w.heap[bx]? = some (.cells #[.slice a n c] T)) (hrow : ∀ k w,Inv k w → Rd w (row a cs)) (hl : ∀ k w,Inv k w → ∃ r : Loop,r.params.size = 2 ∧ w.heap[l]? = some (.loop r) ∧ (k ≠ 0 →
   RoundIn Fence.wide 0 Tryz.prog l r.fn ((r.params.zip #[.int .i64 ((k - 1 : Nat) : Int),.agg ((cs.drop ((k - 1) * 65)).take 65).toArray]).foldl (fun tmps (t,a) => tmps.setIfInBounds t a) r.tmps) r.assign r.body w
    (Ret fun v w' => (v = .bool true ∧ Inv (k - 1) w') ∨ (v = .bool false ∧ Stop w')))) (h0 : Inv n w) :
  CallsIn Fence.wide 0 Tryz.prog 238 #[.func (.yield l) #[] #[],.pointer (some ⟨bx,0,none⟩)] w (Ret fun _ w' => Inv 0 w' ∨ Stop w') := by
 refine callsIn_wide.2 ?_
 have hb := hbx _ _ h0
 refine Zab Tryz.func238 rfl Tryz.ntmps238 rfl ?_
 repeat (first|refine Yea ?_|refine Yag ?_|refine Yav ?_|refine Ybz ?_|refine Yb5 ?_|refine Yed ?_|refine Yab ?_)
 refine Zal (α := Nat) (fun k => [(0,.func (.yield l) #[] #[]),(1,.pointer (some ⟨bx,0,none⟩)),(3,.int .i64 ((k : Int) - 1))]) (fun k w => k ≤ n ∧ Inv k w) (fun k => k) n ⟨rfl,rfl,rfl,trivial⟩ ⟨Nat.le_refl _,h0⟩ ?_
 clear hb h0;rintro k w ⟨hk,hi⟩
 have hb := hbx _ _ hi
 by_cases h0 : k = 0
 ·subst h0
  repeat (first|refine Yea ?_|refine Yaf ?_|refine Yce ?_|refine Yeq ?_|refine Yab ?_|refine Yba ?_|refine Ybb ?_|refine Ybt ?_)
  exact .inl hi
 ·obtain ⟨r,hp,hlr,hr⟩ := hl _ _ hi
  have hr := hr h0
  have hcs0 : cs ≠ [] := by intro e; rw [e] at hcs; simp at hcs; omega
  have ha := (hrow _ _ hi).base hcs0
  have hseg := (hrow _ _ hi).seg ((k - 1) * 65) 65
  have e1 : ((k : Int) - 1).toNat = k - 1 := by omega
  have e2 : ((k - 1 : Nat) : Int) = (k : Int) - 1 := by omega
  rw [e2] at hr;repeat (first|refine Yea ?_|refine Yaf ?_|refine Yb9 ?_|refine Ybc ?_|refine Yb5 ?_|refine Yee ?_|refine Yab ?_)
  rw [e1];refine X_yl (Zdf rfl rfl hseg (by simp; omega)) rfl rfl ?_
  refine Zss rfl rfl rfl rfl rfl rfl hlr (by rw [hp]; rfl) hr ?_
  rintro v w' (⟨rfl,hi'⟩ | ⟨rfl,hs⟩)
  ·repeat (first|refine Yea ?_|refine Yaf ?_|refine Yag ?_|refine Ybd ?_|refine Ybz ?_|refine Yet ?_|refine Yei ?_)
   refine Zaf (k - 1) ⟨rfl,rfl,?_,trivial⟩ ⟨by omega,hi'⟩ (by omega)
   rw [e2]; rfl
  ·repeat (first|refine Yea ?_|refine Ybq ?_|refine Yah ?_|refine Yaj ?_|refine Yab ?_|refine Yaq ?_|refine Ya7 ?_|refine Z10 rfl (Ret.mk ?_))
   exact .inr hs
theorem Zek {α β : Type} {f : α → List β} {n : Nat} {l : List α} (h : ∀ x ∈ l,(f x).length = n) : (l.flatMap f).length = l.length * n := by
 induction l with
 | nil => simp
 | cons x l ih =>
  have := ih fun y hy => h y (List.mem_cons_of_mem _ hy)
  have h0 := h x (List.mem_cons_self ..)
  simp only [List.flatMap_cons,List.length_append,List.length_cons,h0,this,Nat.succ_mul]
  omega
theorem Zcs {α β : Type} {f : α → List β} {n : Nat} {l : List α} (h : ∀ x ∈ l,(f x).length = n) {k : Nat} {x : α} (hx : l[k]? = some x) : ((l.flatMap f).drop (k * n)).take n = f x := by
 induction l generalizing k with
 | nil => simp at hx
 | cons y l ih =>
  have h0 := h y (List.mem_cons_self ..)
  cases k with
  | zero =>
   have e : y = x := by simpa using hx
   subst e
   simp [List.flatMap_cons,← h0]
  | succ k =>
   have hx' : l[k]? = some x := by simpa using hx
   have := ih (fun z hz => h z (List.mem_cons_of_mem _ hz)) hx'
   rw [List.flatMap_cons,List.drop_append,h0,show (k + 1) * n - n = k * n by rw [Nat.succ_mul]; omega,List.drop_of_length_le (by rw [h0,Nat.succ_mul]; omega)]
   simpa using this
theorem Zsa {α : Type} {f : α → List Value} {n : Nat} {l : List α} (h : ∀ x ∈ l,(f x).length = n) {k : Nat} {y : α} (hy : (f y).length = n) (hk : k < l.length) : Zai (l.flatMap f) (k * n) (f y) = (l.set k y).flatMap f := by
 induction l generalizing k with
 | nil => simp at hk
 | cons x l ih =>
  have h0 := h x (List.mem_cons_self ..)
  cases k with
  | zero =>
   simp only [List.flatMap_cons,List.set_cons_zero,Nat.zero_mul,Zai]
   simp [hy,← h0]
  | succ k =>
   have := ih (fun z hz => h z (List.mem_cons_of_mem _ hz)) (k := k) (by simpa using hk)
   simp only [List.flatMap_cons,List.set_cons_succ]
   rw [← this];unfold Zai
   rw [List.take_append,List.drop_append,h0,show (k + 1) * n - n = k * n by rw [Nat.succ_mul]; omega,List.take_of_length_le (by rw [h0,Nat.succ_mul]; omega),List.drop_of_length_le (by rw [h0,Nat.succ_mul]; omega),
    show (k + 1) * n + (f y).length - n = k * n + (f y).length by rw [Nat.succ_mul]; omega]
   simp

def Zca (l : List (List UInt8)) (xs : List (Int × List UInt8)) : List (List UInt8) := xs.foldl (fun l x => l.set x.1.toNat x.2) l
theorem Zay (xs : List (Int × List UInt8)) : ∀ l,(Zca l xs).length = l.length := by
 induction xs with
 | nil => intro l; rfl
 | cons x xs ih => intro l; simp [Zca,List.foldl_cons] at ih ⊢; rw [ih]; simp
theorem Ztq (xs : List (Int × List UInt8)) (hx : ∀ x ∈ xs,x.2.length = 64) : ∀ l,(∀ s ∈ l,s.length = 64) → ∀ s ∈ Zca l xs,s.length = 64 := by
 induction xs with
 | nil => intro l h; exact h
 | cons x xs ih =>
  intro l h
  refine ih (fun y hy => hx y (List.mem_cons_of_mem _ hy)) _ fun s hs => ?_
  rcases List.mem_or_eq_of_mem_set hs with h' | rfl
  ·exact h s h'
  ·exact hx x (List.mem_cons_self ..)
theorem Zu6 {l : List (List UInt8)} {xs : List (Int × List UInt8)} {k : Nat} {x : Int × List UInt8} (hx : xs[k]? = some x) : Zca l (xs.take (k + 1)) = (Zca l (xs.take k)).set x.1.toNat x.2 := by
 have : xs.take (k + 1) = xs.take k ++ [x] := by
  rw [List.take_add_one,hx]; rfl
 rw [this,Zca,List.foldl_append]; rfl

theorem Z3r (x : Value) (W : World) : Calls Tryz.prog 243 #[x] W (Ret fun v w => v = .bool true ∧ W = w) := by
 refine Zab Tryz.func243 rfl Tryz.ntmps243 rfl ?_
 repeat (first|refine Yea ?_|refine Yag ?_|refine Ye1 ?_|refine Yec ?_)
 exact ⟨rfl,rfl⟩
def DiskM.flushed (D : DiskM) : DiskM := { D with laid := Zca D.laid D.line,line := [] }
theorem DiskM.flushed_ok {D : DiskM} (h : D.ok) : D.flushed.ok := by
 obtain ⟨h1,h2,h3,h4,h5,h6⟩ := h
 refine ⟨Ztq _ (fun x hx => (h2 x hx).1) _ h1,fun x hx => (by cases hx),?_,?_,h5,h6⟩ <;> simpa [DiskM.flushed,Zay] using (by assumption)
theorem lay_ (p : Nat) (D : DiskM) (W : World) (F : Nat → Prop) (hS : St W F [disk p D] W) (hline : D.line.length < 1073741824) :
  Calls Tryz.prog 242 #[.pointer (some ⟨p,0,none⟩),.func (.func 243) #[] #[]] W (Ret fun _ w => True ∧ St W F [disk p D.flushed] w) := by
 obtain ⟨hok,al,cl,ai,ci,c1,c2,hS⟩ := hS.openDisk
 refine Zab Tryz.func242 rfl Tryz.ntmps242 rfl ?_
 repeat (first|refine Yea ?_|(refine X_id ?_;first|refine Yaf ?_|refine Yag ?_|refine Yau ?_|refine Yan ?_|refine Yav ?_|refine Yap ?_)|refine Yae ?_|refine Zhh ?_|refine Ycj ?_|refine Yad ?_|refine Yal ?_|refine Yab ?_)
 refine Zal (α := Nat) (fun k => [(0,.pointer (some ⟨p,0,none⟩)),(1,.func (.func 243) #[] #[]),(5,.int .i64 (k : Nat)),(11,.slice ai D.line.length ci),(12,.int .i64 (D.line.length : Nat)),(13,.int .i64 (k : Nat))])
  (fun k w => k ≤ D.line.length ∧ St W F [pts p (.cells #[.bool D.off,.bool D.armed,.int .i64 D.left,.slice al D.laid.length cl,.slice ai D.line.length ci,.int .i64 D.writes,.int .i64 D.flushes] 164),
   own 334 64 al cl (Zbb (Zca D.laid (D.line.take k))),own 336 65 ai ci (Za5 D.line)] w) (fun k => D.line.length - k) 0 ⟨rfl,rfl,rfl,rfl,rfl,rfl,trivial⟩ ⟨Nat.zero_le _,hS⟩ ?_
 clear hS;rintro k w ⟨hk,hS⟩
 by_cases hlt : k < D.line.length
 ·obtain ⟨x,hx⟩ : ∃ x,D.line[k]? = some x := ⟨_,List.getElem?_eq_getElem hlt⟩
  have hxm := List.mem_of_getElem? hx
  have hln : ∀ x ∈ D.line,(Value.int .i64 x.1 :: bv x.2).length = 65 := fun x hx => by simp [(hok.line64 x hx).1]
  have hseg : CellsAt w (adr ai (k * 65)) (.int .i64 x.1 :: bv x.2) := by
   have := (hS.rd (List.mem_cons_of_mem _ (List.mem_cons_of_mem _ (List.mem_cons_self ..)))).own_row.seg (k * 65) 65
   rwa [show ((Za5 D.line).drop (k * 65)).take 65 = _ from Zcs hln hx] at this
  obtain ⟨ab,ao,hae⟩ := (hS.rd (List.mem_cons_of_mem _ (List.mem_cons_of_mem _ (List.mem_cons_self ..)))).own_row.base (by intro e; have h := Zdq fun x hx => (hok.line64 x hx).1; rw [e] at h; simp at h; omega)
  subst hae
  have hx64 := (hok.line64 x hxm).1
  have hx0 := (hok.line64 x hxm).2.1
  have hx1 := (hok.line64 x hxm).2.2
  have hl64 := Ztq (D.line.take k) (fun y hy => (hok.line64 y (List.mem_of_mem_take hy)).1) _ hok.laid64
  have hlay := Zdr hl64
  rw [Zay] at hlay;obtain ⟨lb,lo,rfl⟩ := (hS.rd (List.mem_cons_of_mem _ (List.mem_cons_self ..))).own_row.base (by intro e; rw [e] at hlay; simp at hlay; omega)
  have hlen : LenIs (bv x.2) 64 := ⟨by simp [(hok.line64 x hxm).1]⟩
  repeat (first|refine Yea ?_|refine Yaf ?_|refine Ya2 ?_|refine Ybc ?_|refine Yee ?_|refine Yab ?_)
  refine X_yl (Zdf rfl rfl hseg (by simp [(hok.line64 x hxm).1])) rfl rfl ?_
  repeat (first|refine Yea ?_|refine Yen ?_|refine Yao (fun _ hS _ => ?_)|refine Yar (fun _ _ hS _ => ?_)|refine Yeb ?_|refine Yab ?_)
  refine Zaa 243 rfl rfl rfl rfl rfl (Z3r _ _) ?_
  rintro _ _ ⟨rfl,rfl⟩
  repeat (first|refine Yea ?_|refine Ybd ?_|refine Yae ?_|refine Yak ?_|refine Yai ?_|refine Yab ?_)
  refine Zam (.s 0 (.s 1 (.s 2 (.s 3 (.s 4 (.s 5 (.s 6 (.s 7 (.s 8 (.h 9 .nil .no)))))))))) mixed (by kernel_rfl) rfl ?_
  have hS := hS.drew
  repeat (first|(refine Zae ?_;first|refine Ya3 ?_|refine Ybr ?_|refine Ybe ?_|refine Yb3 ?_|refine Ybk ?_|refine Yb1 ?_|refine Yas ?_))
  refine Zsq (a := some ⟨lb,lo,none⟩) (i := x.1.toNat * 64) rfl rfl ?_ rfl (Zfd) (by simp [hx64]) rfl hS (by simp [hx64,hlay]; omega) (by omega) (fun w hS => ?_)
  ·rfl
  repeat (first|refine Yea ?_|refine Yes ?_|refine Yad ?_|refine Yei ?_|(refine Zae ?_;first|refine Yay ?_)|(refine Zac ?_;first|refine Yaz ?_))
  refine Zaf (k + 1) ⟨rfl,rfl,rfl,rfl,rfl,rfl,trivial⟩ ⟨hlt,?_⟩ (by omega)
  rw [Zu6 hx];have hS := hS.pick [2,0,1]
  rwa [show Zai (Zbb (Zca D.laid (D.line.take k))) (x.1.toNat * 64) (bv x.2) = _ from Zsa (fun y hy => by simp [hl64 y hy]) (by simp [hx64]) (by rw [Zay]; omega)] at hS
 ·obtain rfl : k = D.line.length := by omega
  repeat (first|refine Yea ?_|(refine X_id ?_;first|refine Yaf ?_|refine Yag ?_|refine Yau ?_|refine Yan ?_|refine Ya6 ?_|refine Yao (fun _ hS _ => ?_))|refine Yej ?_|refine Yab ?_|refine Yb4 ?_|refine Yba ?_|refine Ybb ?_|refine Yam ?_)
  refine ⟨trivial,?_⟩
  refine St.shutDisk (D := D.flushed) (al := al) (ai := none) (cl := cl) (ci := 0) (DiskM.flushed_ok hok) (by simpa [DiskM.flushed,Zay]) (by simp [DiskM.flushed]) ?_
  have hS := ((hS.pick [0,0]).own_none 336 65 none).pick [1,1,0]
  rw [List.take_length] at hS
  simpa [DiskM.flushed,Zay,Za5] using hS
/-! ### Flush -/
def DiskM.flush (D : DiskM) : Int × DiskM :=
 if D.off then (9,D) else if useB D.off D.armed D.left = false then (9,D.used)
 else (0,{ D.used.flushed with flushes := IntKind.i64.wrap (D.flushes + 1) })
theorem DiskM.flush_use {D : DiskM} (h : D.off = false) (hu : useB D.off D.armed D.left = false) : D.flush = (9,D.used) := by
 unfold DiskM.flush
 rw [if_neg (by simp [h]),if_pos hu]
theorem DiskM.flush_yes {D : DiskM} (h : D.off = false) (hu : useB D.off D.armed D.left = true) : D.flush = (0,{ D.used.flushed with flushes := IntKind.i64.wrap (D.flushes + 1) }) := by
 unfold DiskM.flush
 rw [if_neg (by simp [h]),if_neg (by simp [hu])]
theorem Z5i (p : Nat) (D : DiskM) (W : World) (F : Nat → Prop) (hS : St W F [disk p D] W) (hline : D.line.length < 1073741824) :
  Calls Tryz.prog 208 #[.pointer (some ⟨p,0,none⟩)] W (Ret fun v w => v = .int .i64 D.flush.1 ∧ St W F [disk p D.flush.2] w) := by
 have hd := hS.rd (List.mem_cons_self ..)
 have hon := on_ p D W hd
 have hok := hd.disk.1
 cases hoff : D.off
 ·rw [hoff] at hon
  refine Zab Tryz.func208 rfl Tryz.ntmps208 rfl ?_
  repeat (first|refine Yer ?_|(refine X_id ?_;first|(refine Zaa 76 rfl rfl rfl rfl rfl hon ?_;rintro _ _ ⟨rfl,rfl⟩)|refine Yaf ?_|refine Yag ?_|refine Yau ?_|refine Yan ?_|refine Ybd ?_)|refine Yeb ?_|refine Yab ?_)
  obtain ⟨hok,al,cl,ai,ci,c1,c2,hS⟩ := hS.openDisk
  cases huse : useB D.off D.armed D.left
  ·skip
   obtain ⟨_,hc,hr,hw,hbk⟩ := hS.call [true,false,false]
   refine Zaa _ rfl rfl rfl rfl rfl (use_ p D.off D.armed D.left _ _ _ _ hok.left0 hok.left1 hc) ?_
   rintro _ w ⟨rfl,hS⟩
   replace hS := hbk hS
   clear hc hr hw hbk;rw [huse];repeat (first|refine Yer ?_|refine Yag ?_|refine Ya1 ?_|refine Ybq ?_|refine Yek ?_|refine Yel ?_)
   rw [DiskM.flush_use hoff huse];exact ⟨rfl,St.shutDisk (DiskM.used_ok hok) c1 c2 hS⟩
  ·skip
   obtain ⟨_,hc,hr,hw,hbk⟩ := hS.call [true,false,false]
   refine Zaa _ rfl rfl rfl rfl rfl (use_ p D.off D.armed D.left _ _ _ _ hok.left0 hok.left1 hc) ?_
   rintro _ w ⟨rfl,hS⟩
   replace hS := hbk hS
   clear hc hr hw hbk;rw [huse];replace hS : St W F [disk p D.used] w := St.shutDisk (DiskM.used_ok hok) c1 c2 hS
   repeat (first|refine Yer ?_|refine Yaf ?_|refine Ya1 ?_|refine Ybd ?_|refine Yem ?_|refine Yab ?_)
   obtain ⟨_,hc,hr,hw,hbk⟩ := hS.call [true]
   refine Zaa _ rfl rfl rfl rfl rfl (lay_ p D.used _ _ hc hline) ?_
   rintro _ w ⟨_,hS⟩
   replace hS := hbk hS
   clear hc hr hw hbk;obtain ⟨hok2,al2,cl2,ai2,ci2,d1,d2,hS⟩ := hS.openDisk
   repeat (first|refine Yea ?_|refine Yaf ?_|refine Yau ?_|refine Yan ?_|refine Yeb ?_|refine Yab ?_)
   obtain ⟨_,hc,hr,hw,hbk⟩ := hS.call [true,false,false]
   refine Zaa _ rfl rfl rfl rfl rfl (Z1u p 6 D.flushes 1 _ _ _ _ _ hc) ?_
   rintro _ w ⟨rfl,hS⟩
   replace hS := hbk hS
   clear hc hr hw hbk;repeat (first|refine Yea ?_|refine Yag ?_|refine Ye1 ?_|refine Yec ?_)
   rw [DiskM.flush_yes hoff huse];exact ⟨rfl,St.shutDisk (D := { D.used.flushed with flushes := IntKind.i64.wrap (D.flushes + 1) }) ⟨hok2.1,hok2.2,hok2.3,hok2.4,hok2.5,hok2.6⟩ d1 d2 hS⟩
 ·rw [hoff] at hon
  refine Zab Tryz.func208 rfl Tryz.ntmps208 rfl ?_
  repeat (first|refine Yep ?_|(refine X_id ?_;first|(refine Zaa 76 rfl rfl rfl rfl rfl hon ?_;rintro _ _ ⟨rfl,rfl⟩)|refine Yaf ?_|refine Yag ?_|refine Ya8 ?_|refine Ybq ?_)|refine Yek ?_|refine Yel ?_)
  exact ⟨by simp [DiskM.flush,hoff],by simpa [DiskM.flush,hoff] using hS⟩

/-! ### Read -/
theorem Znt {b : Nat} {l : List Value} {T : TypeId} : ∀ h,pts b (.cells l.toArray T (0,0)) h → row (some ⟨b,0,none⟩) l h := fun _ hg => .inr ⟨b,0,l.toArray,T,(0,0),rfl,hg,fun j v hv => by simpa using hv⟩
theorem Zrr {b off n : Nat} {l cs : List Value} {T : TypeId} (hs : (l.drop off).take n = cs) : ∀ h,pts b (.cells l.toArray T (0,0)) h → row (some ⟨b,off,none⟩) cs h := fun _ hg => .inr ⟨b,off,l.toArray,T,(0,0),rfl,hg,fun j v hv => by
 subst hs
 rw [List.getElem?_take] at hv
 split at hv
 ·rw [List.getElem?_drop] at hv
  simpa using hv
 ·cases hv⟩
theorem St.row_none {W : World} {F : Nat → Prop} {rs : List Res} {w : World} (hS : St W F rs w) : St W F (row none [] :: rs) w :=
 hS.imp fun h hh => ⟨fun _ => none,h,.inl ⟨rfl,fun _ => rfl⟩,hh,fun _ => .inl rfl,fun _ => by simp⟩
theorem St.more {W : World} {F : Nat → Prop} {rs : List Res} {w : World} (hS : St W noF rs w) : St W F rs w := by
 obtain ⟨h,hs,s⟩ := hS
 exact ⟨h,hs,s.agrees,fun b o e => (s.foot b o e).elim (fun h => h.elim) .inr,s.size,s.os,s.tape,s.output,fun k hk _ => s.kept k hk (fun h => h)⟩
theorem St.kept {W : World} {rs : List Res} {w : World} {b : Nat} {o : Obj} (hS : St W noF rs w) (h : W.heap[b]? = some o) : w.heap[b]? = some o := by
 have : Rd W (pts b o) := ⟨Zcl b o,rfl,fun k o' e => by obtain ⟨rfl,rfl⟩ := Zht e; exact h⟩
 exact (this.ro.rd hS).pts
theorem on_b (p : Nat) (D : DiskM) (b : Bool) (hb : D.off = b) (W : World) (hd : Rd W (disk p D)) : Calls Tryz.prog 76 #[.pointer (some ⟨p,0,none⟩)] W (Ret fun v w => v = .bool (!b) ∧ W = w) := by
 subst hb; exact on_ p D W hd
theorem Z5c (p : Nat) (D : DiskM) (no : Int) (b : Bool) (hb : Zdm D no = b) (W : World) (hd : Rd W (disk p D)) : Calls Tryz.prog 199 #[.pointer (some ⟨p,0,none⟩),.int .i64 no] W (Ret fun v w => v = .bool b ∧ W = w) := by
 subst hb; exact has_ p D no W hd
theorem Zsi (a : Option Addr) (n c : Nat) (W : World) : Calls Tryz.prog 200 #[.slice a n c] W
  (Ret fun v w => ∃ bx,v = .func (.func 238) #[] #[.pointer (some ⟨bx,0,none⟩)] ∧ St W noF [pts bx (.cells #[.slice a n c] 162)] w) := by
 have hS := St.start W
 refine Zab Tryz.func200 rfl Tryz.ntmps200 rfl ?_
 repeat (first|refine Yea ?_|refine Yag ?_|refine Ycg ?_|refine Ya5 (fun _ _ hS _ => ?_)|refine Ye1 ?_|refine Yec ?_)
 exact ⟨_,rfl,hS⟩
def DiskM.find (D : DiskM) (no : Int) : List UInt8 := match D.line.reverse.find? (fun x => x.1 == no) with | some x => x.2 | none => D.laid.getD no.toNat []
def DiskM.read (D : DiskM) (no : Int) : Int × List UInt8 := if D.off then (9,[]) else if Zdm D no = false then (1,[]) else (0,D.find no)
end Cr
namespace Cr
open Go
set_option maxHeartbeats 64000000

abbrev Zdw (l : List Rec) : List Value := l.flatMap Rec.cells
def Zc0 (l : List Rec) : List (List UInt8) := l.map fun r => encM (recM r)
theorem Zhq (l : List Rec) : (Zdw l).length = l.length * 5 := Zek (n := 5) fun _ _ => rfl
theorem Zkm (l : List Rec) : ∀ u ∈ Zdw l,u.oneCell' = true := fun u hu => by
 obtain ⟨x,_,hx⟩ := List.mem_flatMap.1 hu
 simp only [Rec.cells,List.mem_cons,List.not_mem_nil,or_false] at hx
 rcases hx with rfl | rfl | rfl | rfl | rfl <;> rfl
theorem Zps {l : List Rec} {i : Nat} {r : Rec} (h : l[i]? = some r) : ((Zdw l).drop (i * 5)).take 5 = r.cells := Zcs (f := Rec.cells) (fun _ _ => rfl) h
theorem Zkn (l m : List Rec) : Zdw (l ++ m) = Zdw l ++ Zdw m := List.flatMap_append
theorem Zh5 (l : List Rec) : (Zc0 l).length = l.length := List.length_map ..
theorem Zqm (l m : List Rec) : Zc0 (l ++ m) = Zc0 l ++ Zc0 m := List.map_append
theorem Zhb {l : List Rec} (h : ∀ r ∈ l,rchk r = 0) : ∀ s ∈ Zc0 l,s.length ≤ 400 := fun s hs => by
 obtain ⟨r,hr,rfl⟩ := List.mem_map.1 hs
 have := Znx (h r hr); omega
def badR : List Rec → Nat
 | [] => 0
 | r :: l => if rchk r = 0 then badR l else rchk r
theorem Zom : ∀ {l : List Rec},(∀ r ∈ l,rchk r = 0) → badR l = 0
 | [],_ => rfl
 | x :: l,h => by
  rw [badR,if_pos (h x (List.mem_cons_self ..))];exact Zom fun r hr => h r (List.mem_cons_of_mem _ hr)
theorem Z0w {l m : List Rec} (h : ∀ r ∈ l,rchk r = 0) : badR (l ++ m) = badR m := by
 induction l with
 | nil => rfl
 | cons x l ih =>
  rw [List.cons_append,badR,if_pos (h x (List.mem_cons_self ..))];exact ih fun r hr => h r (List.mem_cons_of_mem _ hr)
end Cr
namespace Cr
open Go Go.Proofs
set_option maxRecDepth 100000
set_option maxHeartbeats 64000000
attribute [local irreducible] Calls

def spot (k : Int) (i : Nat) : Nat := ((k - i) % 8).toNat
def sig3 (a : Int) (p q r : Nat) : Int := ixor .u32 (ixor .u32 (spin a p) (spin a q)) (spin a r)
def mixT (rd w : List Int) (V : List Int) (i : Nat) : Int :=
 let e := V.getD (spot 4 i) 0
 u32 (u32 (u32 (u32 (V.getD (spot 7 i) 0 + sig3 e 6 11 25) + ixor .u32 (V.getD (spot 6 i) 0) (iand .u32 e (ixor .u32 (V.getD (spot 5 i) 0) (V.getD (spot 6 i) 0)))) + rd.getD ((i : Int).toNat * 1) 0) + w.getD (0 + (i : Int).toNat * 1) 0)
def mixU (rd w : List Int) (V : List Int) (i : Nat) : List Int := V.set (spot 3 i) (u32 (V.getD (spot 3 i) 0 + mixT rd w V i))
def Zn0 (rd w : List Int) (V : List Int) (i : Nat) : List Int :=
 let a := V.getD (spot 0 i) 0
 let t := mixT rd w V i
 let U := mixU rd w V i
 U.set (spot 7 i) (u32 (u32 (t + sig3 a 2 13 22) + ior .u32 (iand .u32 a (U.getD (spot 1 i) 0)) (iand .u32 (U.getD (spot 2 i) 0) (ior .u32 a (U.getD (spot 1 i) 0)))))
def Zr1 (rd w H : List Int) : Nat → List Int
 | 0 => H
 | i + 1 => Zn0 rd w (Zr1 rd w H i) i
theorem Zjb (rd w H : List Int) : ∀ i,(Zr1 rd w H i).length = H.length
 | 0 => rfl
 | i + 1 => by simp [Zr1,Zn0,mixU,Zjb rd w H i]
def Zqy (H V : List Int) : Nat → List Int
 | 0 => H
 | i + 1 => (Zqy H V i).set i (u32 ((Zqy H V i).getD i 0 + V.getD i 0))
theorem Zgc (H V : List Int) : ∀ i,(Zqy H V i).length = H.length
 | 0 => rfl
 | i + 1 => by simp [Zqy,Zgc H V i]
def Z0u (rd H : List Int) (b : List UInt8) : List Int := Zqy H (Zr1 rd (Zbd b 64) H 64) 8
theorem Zqv (rd H : List Int) (b : List UInt8) : (Z0u rd H b).length = H.length := Zgc _ _ _

theorem St.abs2 {W : World} {F : Nat → Prop} {r : Res} {b : Nat} {k : IntKind} {L : List Int} {T : TypeId} {rs : List Res} {w : World} (hS : St W F (r :: pts b (.cells (ints k L).toArray T) :: rs) w) : ∃ U,U = L ∧ St W F (r :: pts b (.cells (ints k U).toArray T) :: rs) w := ⟨L,rfl,hS⟩
theorem mix_ (s : Nat) (H rd : List Int) (R : List UInt8) (tot : Int) (T : TypeId) (W : World) (F : Nat → Prop) (hH : H.length = 8) (hR : R.length = 64) (hrd : rd.length = 64) (hg : Ro W F (row (some ⟨5,0,none⟩) (ints .u32 rd)))
  (hS : St W F [pts s (.cells (ints .u32 H ++ (bv R ++ [Value.int .i64 tot])).toArray T)] W) :
  Calls Tryz.prog 233 #[.pointer (some ⟨s,0,none⟩),.slice (some ⟨s,8,none⟩) 64 64] W (Ret fun _ w => True ∧ St W F [pts s (.cells (ints .u32 (Z0u rd H R) ++ (bv R ++ [Value.int .i64 tot])).toArray T)] w) := by
 have hRb : Rd W (bytes (some ⟨s,8,none⟩) R) := (hS.rd (List.mem_cons_self ..)).mono fun h hh => ⟨h,Zgj (n := 64) (by
  rw [List.drop_append_of_le_length (by rw [ints_length]; omega),List.drop_of_length_le (by rw [ints_length]; omega),List.nil_append,List.take_append_of_le_length (by simp [hR]),List.take_of_length_le (by simp [hR])]) h hh,fun _ _ e => e⟩
 have hlH : LenIs (ints .u32 H) 8 := ⟨by rw [ints_length]; exact hH⟩
 have hlS : LenIs (ints .u32 (Zbd R 64)) 64 := ⟨by rw [ints_length]; exact Zc2 _ _⟩
 refine Zab Tryz.func233 rfl Tryz.ntmps233 rfl ?_
 repeat (first|refine Yea ?_|(refine X_id ?_;first|(refine Zad 258 rfl rfl rfl rfl rfl hS (Z2e _ _ R _ hRb hR (by omega)) ?_;rintro _ _ rfl hS)|refine Yaf ?_|refine Yau ?_|refine Ybg ?_|refine Yao (fun _ hS _ => ?_)|refine Yar (fun _ _ hS _ => ?_))|refine Yeb ?_|refine Yab ?_)
 rename_i b5 _ _;refine Zyi (l := List.replicate 8 (.int .u32 0)) rfl rfl rfl rfl hS (fun _ hS _ => ?_)
 repeat (first|refine Yea ?_|refine Yaf ?_|refine Yed ?_|refine Yab ?_)
 rename_i b4 _ _ _ _ _ _ _ _ _ _ _;refine Zal (α := Nat) (fun i => [(0,.pointer (some ⟨s,0,none⟩)),(4,.pointer (some ⟨b4,0,none⟩)),(5,.pointer (some ⟨b5,0,none⟩)),(17,.int .i64 (i : Nat))])
  (fun i w => i ≤ 64 ∧ St W F [pts b5 (.cells (ints .u32 (Zr1 rd (Zbd R 64) H i)).toArray 260),pts b4 (.cells (ints .u32 (Zbd R 64)).toArray 388),pts s (.cells (ints .u32 H ++ (bv R ++ [Value.int .i64 tot])).toArray T)] w) (fun i => 64 - i) 0 ⟨rfl,rfl,rfl,rfl,trivial⟩ ⟨Nat.zero_le _,hS⟩ ?_
 clear hS;rintro i w ⟨hi,hS⟩
 obtain ⟨V,hVe⟩ : ∃ V,V = Zr1 rd (Zbd R 64) H i := ⟨_,rfl⟩
 have hV : V.length = 8 := by rw [hVe,Zjb]; exact hH
 rw [← hVe] at hS;obtain ⟨Ws,hwe⟩ : ∃ L,L = Zbd R 64 := ⟨_,rfl⟩
 have hWs : Ws.length = 64 := by rw [hwe]; exact Zc2 _ _
 rw [← hwe] at hS;by_cases h64 : i < 64
 ·repeat (first|refine Yea ?_|(refine X_id ?_;first|refine Yaf ?_|refine Yag ?_|refine Ycg ?_|refine Ya2 ?_|refine Yao (fun _ hS _ => ?_)|refine Yar (fun _ _ hS _ => ?_))|refine Yee ?_|refine Yab ?_)
  refine Zam (.s 0 (.s 4 (.h 1 (.s 2 (.s 3 (.h 5 (.s 6 (.s 7 (.s 8 (.s 9 .nil)))) .no))) .no))) mixed (by kernel_rfl) rfl ?_
  have hS := hS.drew
  repeat (first|(refine X_id ?_;first|(refine Zsr 259 rfl rfl rfl rfl rfl (at_ _ i _ _ _ (by decide) (by decide) (by omega) (by omega) ((hS.rd (List.mem_cons_self ..)).ro)) ?_;rintro _ rfl))|refine Yae ?_|refine Yab ?_|(refine Zae ?_;first|refine Yay ?_|refine Ya3 ?_|refine Ybm ?_|refine Ybr ?_|refine Yc3 ?_|refine Yas ?_)|(refine Zac ?_;first|refine Yaz ?_))
  refine Zam (.s 0 (.s 4 (.s 6 (.s 9 (.s 13 (.s 17 (.s 18 (.s 22 (.s 30 (.s 31 (.s 32 (.s 34 (.s 35 (.s 36 (.h 1 (.s 2 (.s 3 (.h 5 (.h 7 (.s 8 (.h 10 (.s 11 (.s 12 (.h 14 (.s 15 (.s 16 (.h 19 (.s 20 (.s 21 (.h 23 (.s 24 (.s 25 (.s 26 (.s 27 (.s 28 (.s 29 (.s 33 (.s 37 (.s 38 .nil))))))))) .no))) .no))) .no))) .no)) .no) .no))) .no))))))))))))))) mixed (by kernel_rfl) rfl ?_
  have hS := hS.drew
  repeat (first|refine Yea ?_|(refine X_id ?_;first|(refine Zad 260 rfl rfl rfl rfl rfl hS (Z2f _ _ _ (by decide)) ?_;rintro _ _ rfl hS)|(refine Zsr 259 rfl rfl rfl rfl rfl (at_ _ i _ _ _ (by decide) (by decide) (by omega) (by omega) ((hS.rd (List.mem_cons_self ..)).ro)) ?_;rintro _ rfl)|refine Yaf ?_|refine Yau ?_|refine X_yl (Zm5 rfl rfl rfl rfl) rfl rfl ?_|refine X_yl (Zas rfl rfl (hS.cellI (by omega))) rfl rfl ?_|refine Ydh (fun _ hS => ?_))|refine Yeb ?_|refine Yab ?_|(refine Zae ?_;first|refine Yay ?_|refine Ya3 ?_|refine Ybm ?_|refine Ybr ?_|refine Ycp ?_|refine Ydi ?_|refine Ydu ?_|refine Zak rfl rfl (fun _ => Zye rfl rfl rfl) rfl rfl ?_|refine Ybk ?_|refine Yc3 ?_|refine Zat (fun w' => w'.cell? _ = some _) rfl rfl ((hg.rd hS).cellI (by omega)) (fun _ hc => Zas rfl rfl hc) rfl rfl ?_|refine Yas ?_)|(refine Zac ?_;first|refine Yaz ?_))
  obtain ⟨U,hUe,hS⟩ := St.abs2 hS
  have hUl : U.length = 8 := by rw [hUe]; simp [hV]
  replace hUe : U = mixU rd Ws V i := hUe
  refine Zam (.s 0 (.s 2 (.s 3 (.s 5 (.s 8 (.s 12 (.s 13 (.s 18 (.s 22 (.s 23 (.h 1 (.h 4 (.h 6 (.s 7 (.h 9 (.s 10 (.s 11 (.h 14 (.s 15 (.s 16 (.s 17 (.h 19 (.s 20 (.s 21 (.h 24 (.s 25 (.s 26 (.s 27 (.s 28 (.s 29 (.s 30 (.s 31 (.h 32 .nil .no)))))))) .no))) .no)))) .no))) .no)) .no) .no) .no))))))))))) mixed (by kernel_rfl) rfl ?_
  have hS := hS.drew
  repeat (first|refine Yea ?_|(refine X_id ?_;first|(refine Zad 260 rfl rfl rfl rfl rfl hS (Z2f _ _ _ (by decide)) ?_;rintro _ _ rfl hS)|(refine Zsr 259 rfl rfl rfl rfl rfl (at_ _ i _ _ _ (by decide) (by decide) (by omega) (by omega) ((hS.rd (List.mem_cons_self ..)).ro)) ?_;rintro _ rfl)|refine Yef ?_|refine Ydh (fun _ hS => ?_))|refine Yad ?_|refine Yei ?_|(refine Zae ?_;first|refine Yay ?_|refine Ya3 ?_|refine Ybr ?_|refine Ydi ?_|refine Ydu ?_|refine Zak rfl rfl (fun _ => Zye rfl rfl rfl) rfl rfl ?_|refine Yds ?_|refine Yc3 ?_|refine Yas ?_)|(refine Zac ?_;first|refine Yaz ?_))
  refine Zaf (i + 1) ⟨rfl,rfl,rfl,rfl,trivial⟩ ⟨by omega,?_⟩ (by omega)
  have hS := hS.pick [1,1,1]
  show St W F [pts b5 (.cells (ints .u32 (Zn0 rd (Zbd R 64) (Zr1 rd (Zbd R 64) H i) i)).toArray 260),pts b4 (.cells (ints .u32 (Zbd R 64)).toArray 388),_] _
  rw [← hVe,← hwe];unfold Zn0
  rw [← hUe];exact hS
 ·obtain rfl : i = 64 := by omega
  repeat (first|refine Yea ?_|refine Yaf ?_|refine Ya6 ?_|refine Yae ?_|refine Yad ?_|refine Yal ?_|refine Ya9 ?_|refine Yai ?_|refine Yeg ?_)
  refine Zal (α := Nat) (fun k => [(0,.pointer (some ⟨s,0,none⟩)),(5,.pointer (some ⟨b5,0,none⟩)),(107,.int .i64 (k : Nat))])
   (fun k w => k ≤ 8 ∧ St W F [pts b5 (.cells (ints .u32 V).toArray 260),pts b4 (.cells (ints .u32 Ws).toArray 388),pts s (.cells (ints .u32 (Zqy H V k) ++ (bv R ++ [Value.int .i64 tot])).toArray T)] w) (fun k => 8 - k) 0 ⟨rfl,rfl,rfl,trivial⟩ ⟨Nat.zero_le _,hS⟩ ?_
  clear hS;rintro k w ⟨hk,hS⟩
  obtain ⟨A,hAe⟩ : ∃ A,A = Zqy H V k := ⟨_,rfl⟩
  have hA : A.length = 8 := by rw [hAe,Zgc]; exact hH
  rw [← hAe] at hS;by_cases h8 : k < 8
  ·repeat (first|refine Yea ?_|refine Yaf ?_|refine Yag ?_|refine Ya2 ?_|refine Yee ?_|refine Yab ?_)
   refine Zam (.s 0 (.s 1 (.s 2 (.s 3 (.s 4 (.s 5 (.s 6 (.s 7 (.s 8 (.s 9 (.s 10 (.h 11 .nil .no)))))))))))) mixed (by kernel_rfl) rfl ?_
   have hS := hS.drew
   repeat (first|refine Yea ?_|(refine X_id ?_;first|refine Yef ?_|refine Zyh rfl rfl rfl rfl hS (by omega) (fun _ hS => ?_))|refine Yad ?_|refine Yei ?_|(refine Zae ?_;first|refine Yay ?_|refine Ya3 ?_|refine Ybr ?_|refine Ycp ?_|refine Ydi ?_|refine Yc3 ?_|refine Zat (fun w' => w'.cell? _ = some _) rfl rfl (hS.cellIP (by omega)) (fun _ hc => Zas rfl rfl hc) rfl rfl ?_|refine Yas ?_)|(refine Zac ?_;first|refine Yaz ?_))
   refine Zaf (k + 1) ⟨rfl,rfl,rfl,trivial⟩ ⟨by omega,?_⟩ (by omega)
   simp only [Zqy]
   rw [← hAe];rw [show 0 + (k : Int).toNat * 1 = k by omega] at hS
   exact hS
  ·obtain rfl : k = 8 := by omega
   repeat (first|refine Yea ?_|refine Ya6 ?_|refine Yeq ?_|refine Yab ?_|refine Yba ?_|refine Ybb ?_|refine Ybt ?_)
   refine ⟨trivial,?_⟩
   replace hS := hS.pick [2]
   rw [hAe,hVe] at hS;exact hS
/-! ### bytes -/
def Z6y (H : List Int) (i : Nat) : UInt8 := b8 (ishr .u32 (H.getD (i / 4) 0) (24 - i % 4 * 8))
def Zry (H : List Int) : Nat → List UInt8
 | 0 => List.replicate 32 0
 | i + 1 => (Zry H i).set i (Z6y H i)
theorem Zfz (H : List Int) : ∀ i,(Zry H i).length = 32
 | 0 => by simp [Zry]
 | i + 1 => by simp [Zry,Zfz H i]
def outB (H : List Int) : List UInt8 := Zry H 32
theorem Zec (H : List Int) : (outB H).length = 32 := Zfz H 32
theorem Z5z (s : Nat) (H : List Int) (r : List Value) (T : TypeId) (W : World) (hH : H.length = 8) (hs : Rd W (pts s (.cells (ints .u32 H ++ r).toArray T))) :
  Calls Tryz.prog 194 #[.pointer (some ⟨s,0,none⟩)] W (Ret fun v w => v = .agg (bv (outB H)).toArray ∧ St W noF [] w) := by
 have hS := St.start W
 have hg : Ro W noF (row (some ⟨s,0,none⟩) (ints .u32 H)) := hs.ro.mono fun h hh => ⟨h,Zgj (n := 8) (by rw [List.drop_zero,List.take_append_of_le_length (by rw [ints_length]; omega),List.take_of_length_le (by rw [ints_length]; omega)]) h hh,fun _ _ e => e⟩
 refine Zab Tryz.func194 rfl Tryz.ntmps194 rfl ?_
 repeat (first|refine Yea ?_|refine Yaf ?_|refine Yar (fun _ _ hS _ => ?_)|refine Yed ?_|refine Yab ?_)
 rename_i b2 _ _ _ b3 _ _;rw [Zgb] at hS;refine Zal (α := Nat) (fun i => [(0,.pointer (some ⟨s,0,none⟩)),(2,.pointer (some ⟨b2,0,none⟩)),(3,.pointer (some ⟨b3,0,none⟩)),(5,.int .i64 (i : Nat))])
  (fun i w => i ≤ 32 ∧ St W noF [pts b3 (.cells (bv (Zry H i)).toArray 79),pts b2 (.cells (bv (List.replicate 32 0)).toArray 79)] w) (fun i => 32 - i) 0 ⟨rfl,rfl,rfl,rfl,trivial⟩ ⟨Nat.zero_le _,hS⟩ ?_
 clear hS;rintro i w ⟨hi,hS⟩
 obtain ⟨L,hLe⟩ : ∃ L,L = Zry H i := ⟨_,rfl⟩
 have hL : L.length = 32 := by rw [hLe]; exact Zfz H i
 rw [← hLe] at hS;by_cases h32 : i < 32
 ·repeat (first|refine Yea ?_|(refine X_id ?_;first|refine Yaf ?_|refine Yag ?_|refine Yau ?_|refine Ya2 ?_|refine Ydt ?_|refine Ya0 ?_|refine Ybz ?_|refine Ycf ?_|refine Yc7 ?_|refine Yc0 ?_|refine Ydf ?_|refine Ych ?_|refine X_yl (Zas rfl rfl ((hg.rd hS).cellI (by omega))) rfl rfl ?_|refine Zov rfl rfl rfl rfl hS (by omega) (fun _ hS => ?_))|refine Yee ?_|refine Yei ?_)
  refine Zaf (i + 1) ⟨rfl,rfl,rfl,rfl,trivial⟩ ⟨by omega,?_⟩ (by omega)
  rw [show 0 + (i : Int).toNat * 1 = i by omega,show ((i : Int) / 4).toNat * 1 = i / 4 by omega,show (24 - (i : Int) % 4 * 8).toNat = 24 - i % 4 * 8 by omega,hLe] at hS
  exact hS
 ·obtain rfl : i = 32 := by omega
  have hlen : LenO (bv L) 32 := ⟨by simp [hL]⟩
  repeat (first|refine Yea ?_|refine Ya6 ?_|refine Ybg ?_|refine Ycl (fun _ hS => ?_)|refine Yej ?_|refine Yab ?_|refine Yba ?_|refine Ybb ?_|refine Ybw ?_)
  exact ⟨by rw [hLe]; rfl,hS.drops⟩

/-! ### one -/
structure StrM where
 H : List Int
 R : List UInt8
 n : Nat
structure StrM.ok (S : StrM) : Prop where
 h8 : S.H.length = 8
 r64 : S.R.length = 64
def StrM.cells (S : StrM) : List Value := ints .u32 S.H ++ (bv S.R ++ [.int .i64 (S.n : Nat)])
def Ze0 (fs H : List Int) (n : Nat) : List Int := if n = 0 then fs else H
def StrM.one (rd fs : List Int) (S : StrM) (c : UInt8) : StrM :=
 ⟨if (S.n + 1) % 64 = 0 then Z0u rd (Ze0 fs S.H S.n) (S.R.set (S.n % 64) c) else Ze0 fs S.H S.n,S.R.set (S.n % 64) c,S.n + 1⟩
structure Gl (W : World) (F : Nat → Prop) (rd fs : List Int) : Prop where
 round : Ro W F (row (some ⟨5,0,none⟩) (ints .u32 rd))
 first : Ro W F (row (some ⟨1,0,none⟩) (ints .u32 fs))
 round64 : rd.length = 64
 first8 : fs.length = 8
theorem Gl.mono {W w : World} {F F' : Nat → Prop} {rd fs : List Int} (h : Gl W F rd fs) (hw : ∀ r,Ro W F r → Ro w F' r) : Gl w F' rd fs := ⟨hw _ h.round,hw _ h.first,h.round64,h.first8⟩
theorem Zfo {fs H : List Int} (n : Nat) (h : fs.length = 8) (h' : H.length = 8) : (Ze0 fs H n).length = 8 := by unfold Ze0; split <;> assumption
theorem StrM.one_ok {rd fs : List Int} {S : StrM} {c : UInt8} (h : S.ok) (hf : fs.length = 8) : (S.one rd fs c).ok := by
 refine ⟨?_,by simp [StrM.one,h.r64]⟩
 simp only [StrM.one]
 split
 ·rw [Zqv]; exact Zfo _ hf h.h8
 ·exact Zfo _ hf h.h8
theorem one_ (s : Nat) (S : StrM) (c : UInt8) (rd fs : List Int) (T : TypeId) (W : World) (F : Nat → Prop) (hok : S.ok) (hn : S.n < 2305843009213693951) (hG : Gl W F rd fs) (hS : St W F [pts s (.cells S.cells.toArray T)] W) :
  Calls Tryz.prog 192 #[.pointer (some ⟨s,0,none⟩),.int .u8 (c.toNat : Int)] W (Ret fun _ w => True ∧ St W F [pts s (.cells (S.one rd fs c).cells.toArray T)] w) := by
 obtain ⟨H,R,n⟩ := S
 obtain ⟨h8,r64⟩ := hok
 unfold StrM.cells at hS
 simp only at h8 r64 hn hS
 have hl1 : LenO (ints .u32 H) 8 := ⟨by rw [ints_length]; exact h8⟩
 have hl2 : LenO (bv R) 64 := ⟨by simp [r64]⟩
 have hl3 : LenO (ints .u32 fs) 8 := ⟨by rw [ints_length]; exact hG.first8⟩
 refine Zab Tryz.func192 rfl Tryz.ntmps192 rfl ?_
 have hc1 : ∀ H',Ze0 fs H n = H' → H'.length = 8 := fun H' e => e ▸ Zfo n hG.first8 h8
 have hend : ∀ H' w,Ze0 fs H n = H' → St W F [pts s (.cells (ints .u32 (if (n + 1) % 64 = 0 then Z0u rd H' (R.set (n % 64) c) else H') ++ (bv (R.set (n % 64) c) ++ [Value.int .i64 ((n + 1 : Nat) : Int)])).toArray T)] w →
   St W F [pts s (.cells (StrM.one rd fs ⟨H,R,n⟩ c).cells.toArray T)] w := fun H' w e h => by
  unfold StrM.one StrM.cells; simp only [e]; exact h
 have ei : ((n : Int) % 64).toNat * 1 = n % 64 := by omega
 by_cases h0 : n = 0
 all_goals by_cases h64 : (n + 1) % 64 = 0
 ·repeat (first|refine Yea ?_|(refine X_id ?_;first|refine Yaf ?_|refine Yau ?_|refine Yan ?_|refine Ybi ?_|refine Yap ?_)|refine Yev ?_|refine Yab ?_)
  refine X_yl (Zdf rfl rfl ((hG.first.rd hS).cellsAt rfl) (by rw [ints_length]; exact hG.first8)) rfl rfl ?_
  repeat (first|refine Yea ?_|refine Yau ?_|refine Yan ?_|refine Yao (fun _ hS _ => ?_)|refine Yae ?_|refine Yab ?_)
  have e1 : Ze0 fs H n = fs := by simp [Ze0,h0]
  refine Zam (.s 0 (.s 1 (.s 2 (.s 3 (.s 4 (.s 5 (.s 6 (.s 7 (.s 8 (.s 9 (.h 10 .nil .no))))))))))) mixed (by kernel_rfl) rfl ?_
  have hS := hS.drew
  repeat (first|refine Yea ?_|(refine X_id ?_;first|refine Yaf ?_|refine Yau ?_|refine Yan ?_|refine Ybi ?_|refine Ya0 ?_|refine Ych ?_|refine Yap ?_|refine Ydm (fun _ hS => ?_)|refine Yao (fun _ hS _ => ?_))|refine Yev ?_|refine Yab ?_|(refine Zae ?_;first|refine Yay ?_|refine Ya3 ?_|refine Ybr ?_|refine Ybe ?_|refine Ycp ?_|refine Ydn ?_|refine Ybk ?_|refine Yas ?_)|(refine Zac ?_;first|refine Yaz ?_))
  rw [ei] at hS;refine Zam (.s 0 (.s 1 (.s 2 (.s 3 (.s 4 (.s 5 (.s 6 (.h 7 .nil .no)))))))) mixed (by kernel_rfl) rfl ?_
  have hS := hS.drew
  repeat (first|(refine Zae ?_;first|refine Ya3 ?_|refine Ybr ?_|refine Ybe ?_|refine Yc8 ?_|refine Yas ?_))
  obtain ⟨_,hc,hr,hw,hbk⟩ := hS.call [true]
  refine Zaa _ rfl rfl rfl rfl rfl (mix_ s fs rd (R.set (n % 64) c) (↑n + 1) T _ _ (hc1 _ e1) (by simp [r64]) hG.round64 (hw _ hG.round) hc) ?_
  rintro _ w ⟨_,hS⟩
  replace hS := hbk hS
  clear hc hr hw hbk;repeat (first|refine Ybt ?_|(refine Zae ?_;first|refine Yay ?_)|(refine Zac ?_;first|refine Yaz ?_))
  refine ⟨trivial,hend _ _ e1 ?_⟩
  rw [if_pos h64];exact hS
 ·repeat (first|refine Yea ?_|(refine X_id ?_;first|refine Yaf ?_|refine Yau ?_|refine Yan ?_|refine Ybi ?_|refine Yap ?_)|refine Yev ?_|refine Yab ?_)
  refine X_yl (Zdf rfl rfl ((hG.first.rd hS).cellsAt rfl) (by rw [ints_length]; exact hG.first8)) rfl rfl ?_
  repeat (first|refine Yea ?_|refine Yau ?_|refine Yan ?_|refine Yao (fun _ hS _ => ?_)|refine Yae ?_|refine Yab ?_)
  have e1 : Ze0 fs H n = fs := by simp [Ze0,h0]
  refine Zam (.s 0 (.s 1 (.s 2 (.s 3 (.s 4 (.s 5 (.s 6 (.s 7 (.s 8 (.s 9 (.h 10 .nil .no))))))))))) mixed (by kernel_rfl) rfl ?_
  have hS := hS.drew
  repeat (first|refine Yea ?_|(refine X_id ?_;first|refine Yaf ?_|refine Yau ?_|refine Yan ?_|refine Ybh ?_|refine Ya0 ?_|refine Ych ?_|refine Yap ?_|refine Ydm (fun _ hS => ?_)|refine Yao (fun _ hS _ => ?_))|refine Yem ?_|refine Yab ?_|refine Ybt ?_|(refine Zae ?_;first|refine Yay ?_|refine Ya3 ?_|refine Ybr ?_|refine Ybe ?_|refine Ycp ?_|refine Ydn ?_|refine Ybk ?_|refine Yas ?_)|(refine Zac ?_;first|refine Yaz ?_))
  rw [ei] at hS;refine ⟨trivial,hend _ _ e1 ?_⟩
  rw [if_neg h64];exact hS
 ·have e1 : Ze0 fs H n = H := by simp [Ze0,h0]
  repeat (first|refine Yea ?_|(refine X_id ?_;first|refine Yaf ?_|refine Yau ?_|refine Yan ?_|refine Ybh ?_|refine Yap ?_)|refine Yem ?_|refine Yab ?_)
  refine Zam (.s 0 (.s 1 (.s 2 (.s 3 (.s 4 (.s 5 (.s 6 (.s 7 (.s 8 (.s 9 (.h 10 .nil .no))))))))))) mixed (by kernel_rfl) rfl ?_
  have hS := hS.drew
  repeat (first|refine Yea ?_|(refine X_id ?_;first|refine Yaf ?_|refine Yau ?_|refine Yan ?_|refine Ybi ?_|refine Ya0 ?_|refine Ych ?_|refine Yap ?_|refine Ydm (fun _ hS => ?_)|refine Yao (fun _ hS _ => ?_))|refine Yev ?_|refine Yab ?_|(refine Zae ?_;first|refine Yay ?_|refine Ya3 ?_|refine Ybr ?_|refine Ybe ?_|refine Ycp ?_|refine Ydn ?_|refine Ybk ?_|refine Yas ?_)|(refine Zac ?_;first|refine Yaz ?_))
  rw [ei] at hS;refine Zam (.s 0 (.s 1 (.s 2 (.s 3 (.s 4 (.s 5 (.s 6 (.h 7 .nil .no)))))))) mixed (by kernel_rfl) rfl ?_
  have hS := hS.drew
  repeat (first|(refine Zae ?_;first|refine Ya3 ?_|refine Ybr ?_|refine Ybe ?_|refine Yc8 ?_|refine Yas ?_))
  obtain ⟨_,hc,hr,hw,hbk⟩ := hS.call [true]
  refine Zaa _ rfl rfl rfl rfl rfl (mix_ s H rd (R.set (n % 64) c) (↑n + 1) T _ _ (hc1 _ e1) (by simp [r64]) hG.round64 (hw _ hG.round) hc) ?_
  rintro _ w ⟨_,hS⟩
  replace hS := hbk hS
  clear hc hr hw hbk;repeat (first|refine Ybt ?_|(refine Zae ?_;first|refine Yay ?_)|(refine Zac ?_;first|refine Yaz ?_))
  refine ⟨trivial,hend _ _ e1 ?_⟩
  rw [if_pos h64];exact hS
 ·have e1 : Ze0 fs H n = H := by simp [Ze0,h0]
  repeat (first|refine Yea ?_|(refine X_id ?_;first|refine Yaf ?_|refine Yau ?_|refine Yan ?_|refine Ybh ?_|refine Yap ?_)|refine Yem ?_|refine Yab ?_)
  refine Zam (.s 0 (.s 1 (.s 2 (.s 3 (.s 4 (.s 5 (.s 6 (.s 7 (.s 8 (.s 9 (.h 10 .nil .no))))))))))) mixed (by kernel_rfl) rfl ?_
  have hS := hS.drew
  repeat (first|refine Yea ?_|(refine X_id ?_;first|refine Yaf ?_|refine Yau ?_|refine Yan ?_|refine Ybh ?_|refine Ya0 ?_|refine Ych ?_|refine Yap ?_|refine Ydm (fun _ hS => ?_)|refine Yao (fun _ hS _ => ?_))|refine Yem ?_|refine Yab ?_|refine Ybt ?_|(refine Zae ?_;first|refine Yay ?_|refine Ya3 ?_|refine Ybr ?_|refine Ybe ?_|refine Ycp ?_|refine Ydn ?_|refine Ybk ?_|refine Yas ?_)|(refine Zac ?_;first|refine Yaz ?_))
  rw [ei] at hS;refine ⟨trivial,hend _ _ e1 ?_⟩
  rw [if_neg h64];exact hS
structure Bs where
 a : Option Addr
 c : Nat
 s : List UInt8
def Bs.val (x : Bs) : Value := .slice x.a x.s.length x.c
structure Bss (W : World) (F : Nat → Prop) (a : Option Addr) (l : List Bs) : Prop where
 row : Ro W F (row a (l.map Bs.val))
 all : ∀ x ∈ l,Ro W F (bytes x.a x.s)
def StrM.more (rd fs : List Int) (S : StrM) (l : List UInt8) : StrM := l.foldl (StrM.one rd fs) S
theorem StrM.more_ok {rd fs : List Int} (hf : fs.length = 8) : ∀ {l : List UInt8} {S : StrM},S.ok → (S.more rd fs l).ok
 | [],_,h => h
 | c :: l,S,h => by
  show (StrM.more rd fs (S.one rd fs c) l).ok
  exact StrM.more_ok (rd := rd) hf (StrM.one_ok (rd := rd) h hf)
theorem StrM.more_n {rd fs : List Int} : ∀ {l : List UInt8} {S : StrM},(S.more rd fs l).n = S.n + l.length
 | [],_ => rfl
 | c :: l,S => by
  have := StrM.more_n (rd := rd) (fs := fs) (l := l) (S := S.one rd fs c)
  simp only [StrM.more,List.foldl_cons,List.length_cons] at this ⊢
  rw [this]; simp only [StrM.one]; omega
theorem StrM.more_append {rd fs : List Int} {S : StrM} {l m : List UInt8} : S.more rd fs (l ++ m) = (S.more rd fs l).more rd fs m := by simp [StrM.more]
theorem StrM.more_snoc {rd fs : List Int} {S : StrM} {l : List UInt8} {i : Nat} (h : i < l.length) : S.more rd fs (l.take (i + 1)) = (S.more rd fs (l.take i)).one rd fs (l.getD i 0) := by
 rw [List.take_succ_eq_append_getElem h,StrM.more_append];simp [StrM.more,List.getD_eq_getElem?_getD,h]
def Zaj (l : List Bs) : List UInt8 := l.flatMap Bs.s
theorem Zc8 {l : List Bs} {i : Nat} {x : Bs} (h : l[i]? = some x) : Zaj (l.take (i + 1)) = Zaj (l.take i) ++ x.s := by
 obtain ⟨hi,rfl⟩ := List.getElem?_eq_some_iff.1 h
 rw [List.take_succ_eq_append_getElem hi];simp only [Zaj,List.flatMap_append,List.flatMap_cons,List.flatMap_nil,List.append_nil]
theorem Zbq (l : List Bs) (i : Nat) : (Zaj (l.take i)).length ≤ (Zaj l).length := by
 have : Zaj l = Zaj (l.take i) ++ Zaj (l.drop i) := by unfold Zaj; rw [← List.flatMap_append,List.take_append_drop]
 rw [this]; simp

theorem Zxo (s : Nat) (S : StrM) (a : Option Addr) (c : Nat) (l : List Bs) (rd fs : List Int) (T : TypeId) (W : World) (F : Nat → Prop) (hok : S.ok) (hn : S.n + (Zaj l).length < 2305843009213693951) (hl : l.length < 2305843009213693951) (hG : Gl W F rd fs)
  (hB : Bss W F a l) (hS : St W F [pts s (.cells S.cells.toArray T)] W) :
  Calls Tryz.prog 126 #[.pointer (some ⟨s,0,none⟩),.slice a l.length c] W (Ret fun v w => v = .pointer (some ⟨s,0,none⟩) ∧ St W F [pts s (.cells (S.more rd fs (Zaj l)).cells.toArray T)] w) := by
 refine Zab Tryz.func126 rfl Tryz.ntmps126 rfl ?_
 repeat (first|refine Yea ?_|refine Yaf ?_|refine Yag ?_|refine Yav ?_|refine Ybu ?_|refine Ye4 ?_|refine Yab ?_)
 refine Zal (α := Nat) (fun i => [(0,.pointer (some ⟨s,0,none⟩)),(11,.slice a l.length c),(12,.int .i64 (l.length : Nat)),(13,.int .i64 (i : Nat))])
  (fun i w => i ≤ l.length ∧ St W F [pts s (.cells (S.more rd fs (Zaj (l.take i))).cells.toArray T)] w) (fun i => l.length - i) 0 ⟨rfl,rfl,rfl,rfl,trivial⟩ ⟨Nat.zero_le _,hS⟩ ?_
 clear hS;rintro i w ⟨hi,hS⟩
 by_cases hlt : i < l.length
 ·have hx : l[i]? = some l[i] := List.getElem?_eq_getElem hlt
  generalize l[i] = x at hx;have hxm := List.mem_of_getElem? hx
  have hbx := hB.all x hxm
  have hj := Zc8 hx
  have hle := Zbq l (i + 1)
  rw [hj,List.length_append] at hle;obtain ⟨ab,ao,rfl⟩ := (hB.row.rd hS).base (by intro e; simp at e; subst e; simp at hlt)
  have hr := hB.row
  replace hx : (l.map Bs.val)[i]? = some (.slice x.a x.s.length x.c) := by simp [hx,Bs.val]
  repeat (first|refine Yea ?_|(refine X_id ?_;first|refine Yaf ?_|refine Yag ?_|refine Yav ?_|refine Ya2 ?_|refine Ybc ?_|refine Yb2 ?_)|refine Yee ?_|refine Yab ?_)
  refine Zal (α := Nat) (fun j => [(0,.pointer (some ⟨s,0,none⟩)),(11,.slice (some ⟨ab,ao,none⟩) l.length c),(12,.int .i64 (l.length : Nat)),(13,.int .i64 (i : Nat)),(17,.slice x.a x.s.length x.c),(18,.int .i64 (x.s.length : Nat)),(19,.int .i64 (j : Nat))])
   (fun j w => j ≤ x.s.length ∧ St W F [pts s (.cells (S.more rd fs (Zaj (l.take i) ++ x.s.take j)).cells.toArray T)] w) (fun j => x.s.length - j) 0 ⟨rfl,rfl,rfl,rfl,rfl,rfl,rfl,trivial⟩ ⟨Nat.zero_le _,by simpa using hS⟩ ?_
  clear hS;rintro j w ⟨hj',hS⟩
  by_cases hjl : j < x.s.length
  ·obtain ⟨xb,xo,hxa⟩ := (hbx.rd hS).base (by intro e; have := Zah x.s; rw [e] at this; simp at this; omega)
   have hb : Ro W F (bytes (some ⟨xb,xo,none⟩) x.s) := hxa ▸ hbx
   rw [hxa];repeat (first|refine Yea ?_|(refine X_id ?_;first|refine Yaf ?_|refine Yag ?_|refine Ya2 ?_|refine Ybc ?_|refine X_yl (Zas rfl rfl ((hb.rd hS).cellB' (by omega))) rfl rfl ?_)|refine Yee ?_|refine Yab ?_)
   obtain ⟨S',hSe⟩ : ∃ S',S' = S.more rd fs (Zaj (l.take i) ++ x.s.take j) := ⟨_,rfl⟩
   have hok' : S'.ok := hSe ▸ StrM.more_ok hG.first8 hok
   have hn' : S'.n < 2305843009213693951 := by rw [hSe,StrM.more_n]; simp; omega
   rw [← hSe] at hS;obtain ⟨_,hc,hr,hw,hbk⟩ := hS.call [true]
   refine Zaa _ rfl rfl rfl rfl rfl (one_ s S' _ rd fs T _ _ hok' hn' (hG.mono hw) hc) ?_
   rintro _ w ⟨_,hS⟩
   replace hS := hbk hS
   clear hc hr hw hbk;repeat (first|refine Yea ?_|refine Yef ?_|refine Yad ?_|refine Yei ?_)
   refine Zaf (j + 1) ⟨rfl,rfl,rfl,rfl,rfl,rfl,rfl,trivial⟩ ⟨by omega,?_⟩ (by omega)
   rw [StrM.more_append,StrM.more_snoc hjl,← StrM.more_append,← hSe];rw [show (j : Int).toNat * 1 = j by omega] at hS
   exact hS
  ·obtain rfl : j = x.s.length := by omega
   repeat (first|refine Yea ?_|refine Yaf ?_|refine Ya6 ?_|refine Ya0 ?_|refine Yeq ?_|refine Yab ?_|refine Yba ?_|refine Ybb ?_|refine Yaw ?_)
   refine Zaf (i + 1) ⟨rfl,rfl,rfl,rfl,trivial⟩ ⟨by omega,?_⟩ (by omega)
   rw [hj];rw [List.take_length] at hS;exact hS
 ·obtain rfl : i = l.length := by omega
  rw [List.take_length] at hS;repeat (first|refine Yea ?_|refine Yfi ?_|refine Yej ?_|refine Yfe ?_)
  exact ⟨rfl,hS⟩

/-! ### Fork -/
def StrM.init : StrM := ⟨List.replicate 8 0,List.replicate 64 0,0⟩
theorem StrM.init_ok : StrM.init.ok := ⟨by simp [init],by simp [init]⟩
theorem Z7b (s : Nat) (S : StrM) (T : TypeId) (W : World) (hok : S.ok) (hs : Rd W (pts s (.cells S.cells.toArray T))) :
  Calls Tryz.prog 193 #[.pointer (some ⟨s,0,none⟩)] W (Ret fun v w => ∃ p,v = .pointer (some ⟨p,0,none⟩) ∧ St W noF [pts p (.cells S.cells.toArray 263)] w) := by
 obtain ⟨H,R,n⟩ := S
 obtain ⟨h8,r64⟩ := hok
 unfold StrM.cells at hs ⊢
 simp only at h8 r64 hs ⊢
 have hl1 : LenO (ints .u32 H) 8 := ⟨by rw [ints_length]; exact h8⟩
 have hl2 : LenO (bv R) 64 := ⟨by simp [r64]⟩
 have hc := hs.ro
 have hS := St.start W
 refine Zab Tryz.func193 rfl Tryz.ntmps193 rfl ?_
 repeat (first|refine Yea ?_|(refine X_id ?_;first|refine Yaf ?_|refine Yag ?_|refine Yau ?_|refine Ybl ?_|refine X_yl (Zgz rfl rfl rfl) rfl rfl ?_|refine Ya5 (fun _ _ hS _ => ?_))|refine Yev ?_|refine Yab ?_)
 rename_i bx wx _;replace hS : St W noF [pts bx (.cells (ints .u32 (List.replicate 8 0) ++ (bv (List.replicate 64 0) ++ [Value.int .i64 0])).toArray 263)] wx := hS
 have hl3 : LenO (ints .u32 (List.replicate 8 0)) 8 := ⟨by rw [ints_length]; simp⟩
 refine X_yl (Zdf rfl rfl (CellsAt.of_block (hc.rd hS).pts) (by simp [ints_length,h8,r64])) rfl rfl ?_
 repeat (first|refine Yea ?_|refine Yaf ?_|refine Yag ?_|refine Yau ?_|refine Ycl (fun _ hS => ?_)|refine Ye1 ?_|refine Yec ?_)
 exact ⟨_,rfl,hS⟩
theorem St.total {W : World} {F : Nat → Prop} {rs : List Res} {w : World} {b : Nat} {S : StrM} {T : TypeId} (hS : St W F rs w) [hh : Has rs b (.cells S.cells.toArray T (0,0))] (hok : S.ok) : w.cell? ⟨b,72,none⟩ = some (.int .i64 (S.n : Nat)) := by
 rw [cell_of_row w b 72 _ T (0,0) hS.has];have h1 : (ints .u32 S.H).length = 8 := by rw [ints_length]; exact hok.h8
 have h2 : (bv S.R).length = 64 := by rw [Zah]; exact hok.r64
 simp only [StrM.cells,List.getElem?_toArray]
 rw [List.getElem?_append_right (by omega),List.getElem?_append_right (by omega),h1,h2]
 rfl
def Z65 (n : Nat) (i : Nat) : UInt8 := b8 (ishr .u64 (IntKind.u64.wrap (IntKind.u64.wrap n * 8)) (8 * (7 - i)))
def lenB (n : Nat) : Nat → List UInt8
 | 0 => []
 | i + 1 => lenB n i ++ [Z65 n i]
def gap (n : Nat) : Nat := (119 - n % 64) % 64
def padB (n : Nat) : List UInt8 := 128 :: List.replicate (gap n) 0 ++ lenB n 8
def StrM.sum (rd fs : List Int) (S : StrM) : List UInt8 := outB (S.more rd fs (padB S.n)).H
theorem StrM.more_one {rd fs : List Int} {S : StrM} {l : List UInt8} {c : UInt8} : (S.more rd fs l).one rd fs c = S.more rd fs (l ++ [c]) := by simp [StrM.more]
theorem sum_ (s : Nat) (S : StrM) (rd fs : List Int) (T : TypeId) (W : World) (hok : S.ok) (hn : S.n < 1152921504606846976) (hG : Gl W noF rd fs) (hs : Rd W (pts s (.cells S.cells.toArray T))) :
  Calls Tryz.prog 127 #[.pointer (some ⟨s,0,none⟩)] W (Ret fun v w => v = .agg (bv (S.sum rd fs)).toArray ∧ St W noF [] w) := by
 have hS := St.start W
 have hso := hs.ro
 have hf := hG.first8
 have key : ∀ l : List UInt8,l.length ≤ 100 → (S.more rd fs l).n < 2305843009213693951 := fun l hl => by rw [StrM.more_n]; omega
 refine Zab Tryz.func127 rfl Tryz.ntmps127 rfl ?_
 repeat (first|refine Yea ?_|refine Yaf ?_|refine Yar (fun _ _ hS _ => ?_)|refine Yeb ?_|refine Yab ?_)
 rename_i b2 _ _;rw [Zgb] at hS;refine Zaa _ rfl rfl rfl rfl rfl (Z7b s S T _ hok (hso.rd hS)) ?_
 rintro _ w ⟨p,rfl,hS'⟩
 replace hS := hS.plus hS';clear hS';repeat (first|refine Yea ?_|refine Yaf ?_|refine Yag ?_|refine Yau ?_|refine Yan ?_|refine Yeb ?_|refine Yab ?_)
 refine X_yl (Zas rfl rfl (hS.total hok)) rfl rfl ?_
 repeat (first|refine Yea ?_|refine Yen ?_|refine Yeb ?_|refine Yab ?_)
 obtain ⟨_,hc,hr,hw,hbk⟩ := hS.call [true,false]
 refine Zaa _ rfl rfl rfl rfl rfl (one_ p S 128 rd fs _ _ _ hok (by omega) (hG.mono hw) hc) ?_
 rintro _ w ⟨_,hS⟩
 replace hS := hbk hS
 clear hc hr hw hbk;repeat (first|refine Yac ?_|refine Yae ?_|refine Yal ?_|refine Yab ?_)
 refine Zal (α := Nat) (fun k => [(2,.pointer (some ⟨b2,0,none⟩)),(3,.pointer (some ⟨p,0,none⟩)),(4,.int .i64 (S.n : Nat))])
  (fun k w => k ≤ gap S.n ∧ St W noF [pts p (.cells (S.more rd fs (128 :: List.replicate k 0)).cells.toArray 263),pts b2 (.cells (bv (List.replicate 32 0)).toArray 79)] w) (fun k => gap S.n - k) 0 ⟨rfl,rfl,rfl,trivial⟩ ⟨Nat.zero_le _,hS⟩ ?_
 clear hS;rintro k w ⟨hk,hS⟩
 have hg64 : gap S.n < 64 := by unfold gap; omega
 obtain ⟨S',hSe⟩ : ∃ S',S' = S.more rd fs (128 :: List.replicate k 0) := ⟨_,rfl⟩
 have hok' : S'.ok := hSe ▸ StrM.more_ok hf hok
 have hn' : S'.n = S.n + 1 + k := by rw [hSe,StrM.more_n]; simp; omega
 rw [← hSe] at hS;by_cases hkk : k < gap S.n
 ·have h56 : ((S'.n : Int) % 64 = 56) = False := by
   have : ¬ (S'.n : Int) % 64 = 56 := by unfold gap at hkk; omega
   simp [this]
  have h56' : ¬ (S'.n : Int) % 64 = 56 := by rw [h56]; exact id
  clear h56;repeat (first|refine Yaa ?_|refine Yaf ?_|refine Yau ?_|refine Yan ?_|refine Yeb ?_)
  refine X_yl (Zas rfl rfl (hS.total hok')) rfl rfl ?_
  repeat (first|refine Yea ?_|refine Yaf ?_|refine Ybj ?_|refine Ych ?_|refine Yad ?_|refine Yal ?_|refine Yak ?_|refine Yaj ?_|refine Yab ?_)
  obtain ⟨_,hc,hr,hw,hbk⟩ := hS.call [true,false]
  refine Zaa _ rfl rfl rfl rfl rfl (one_ p S' 0 rd fs _ _ _ hok' (by omega) (hG.mono hw) hc) ?_
  rintro _ w ⟨_,hS⟩
  replace hS := hbk hS
  clear hc hr hw hbk;repeat (first|refine Yac ?_|refine Yaw ?_)
  refine Zaf (k + 1) ⟨rfl,rfl,rfl,trivial⟩ ⟨by omega,?_⟩ (by omega)
  rw [hSe,StrM.more_one] at hS;rw [show (128 :: List.replicate (k + 1) 0 : List UInt8) = 128 :: List.replicate k 0 ++ [0] by simp [List.replicate_succ']]
  exact hS
 ·obtain rfl : k = gap S.n := by omega
  have h56 : (S'.n : Int) % 64 = 56 := by unfold gap at hn'; omega
  repeat (first|refine Yaa ?_|refine Yaf ?_|refine Yau ?_|refine Yan ?_|refine Yeb ?_)
  refine X_yl (Zas rfl rfl (hS.total hok')) rfl rfl ?_
  repeat (first|refine Yea ?_|refine Yaf ?_|refine Ya4 ?_|refine Ych ?_|refine Yae ?_|refine Yad ?_|refine Yal ?_|refine Ya9 ?_|refine Yai ?_|refine Yeg ?_)
  rw [hSe] at hS;clear hSe hok' hn' h56;refine Zal (α := Nat) (fun i => [(2,.pointer (some ⟨b2,0,none⟩)),(3,.pointer (some ⟨p,0,none⟩)),(4,.int .i64 (S.n : Nat)),(22,.int .i64 (i : Nat))])
   (fun i w => i ≤ 8 ∧ St W noF [pts p (.cells (S.more rd fs (128 :: List.replicate (gap S.n) 0 ++ lenB S.n i)).cells.toArray 263),pts b2 (.cells (bv (List.replicate 32 0)).toArray 79)] w) (fun i => 8 - i) 0 ⟨rfl,rfl,rfl,rfl,trivial⟩ ⟨Nat.zero_le _,by simpa [lenB] using hS⟩ ?_
  clear hS;rintro i w ⟨hi,hS⟩
  have hlen : ∀ i,(lenB S.n i).length = i := fun i => by
   induction i with
   | zero => rfl
   | succ i ih => simp [lenB,ih]
  obtain ⟨S',hSe⟩ : ∃ S',S' = S.more rd fs (128 :: List.replicate (gap S.n) 0 ++ lenB S.n i) := ⟨_,rfl⟩
  have hok' : S'.ok := hSe ▸ StrM.more_ok hf hok
  have hn' : S'.n < 2305843009213693951 := by rw [hSe]; exact key _ (by simp [hlen]; omega)
  rw [← hSe] at hS;by_cases h8 : i < 8
  ·repeat (first|refine Yea ?_|(refine X_id ?_;first|refine Yaf ?_|refine Yag ?_|refine Ya2 ?_|refine Ybz ?_|refine Ycf ?_|refine X_yl (Zx9 rfl rfl rfl rfl) rfl rfl ?_|refine Yc7 ?_|refine Yc4 ?_|refine Yc0 ?_)|refine Yee ?_|refine Yab ?_)
   obtain ⟨_,hc,hr,hw,hbk⟩ := hS.call [true,false]
   refine Zaa _ rfl rfl rfl rfl rfl (one_ p S' _ rd fs _ _ _ hok' hn' (hG.mono hw) hc) ?_
   rintro _ w ⟨_,hS⟩
   replace hS := hbk hS
   clear hc hr hw hbk;repeat (first|refine Yea ?_|refine Yef ?_|refine Yad ?_|refine Yei ?_)
   refine Zaf (i + 1) ⟨rfl,rfl,rfl,rfl,trivial⟩ ⟨by omega,?_⟩ (by omega)
   rw [hSe,StrM.more_one] at hS;simp only [lenB,← List.append_assoc]
   rw [show (8 * (7 - (i : Int))).toNat = 8 * (7 - i) by omega] at hS
   exact hS
  ·obtain rfl : i = 8 := by omega
   have hlen32 : LenO (bv (outB S'.H)) 32 := ⟨by rw [Zah]; exact Zec _⟩
   repeat (first|refine Yea ?_|(refine X_id ?_;first|(refine Zad 194 rfl rfl rfl rfl rfl hS (Z5z p S'.H _ 263 _ hok'.h8 (hS.rd (List.mem_cons_self ..))) ?_;rintro _ _ rfl hS)|refine Yaf ?_|refine Yau ?_|refine Yan ?_|refine Ya6 ?_|refine Ycl (fun _ hS => ?_))|refine Yej ?_|refine Yab ?_|refine Yba ?_|refine Ybb ?_|refine Ybw ?_)
   refine ⟨?_,hS.drops⟩
   rw [hSe]
   rfl
def Zxe (n : Nat) (i : Nat) : UInt8 := b8 (ishr .i64 n (8 * (3 - i)))
def Zf6 (n : Nat) : Nat → List UInt8
 | 0 => List.replicate 4 0
 | i + 1 => (Zf6 n i).set i (Zxe n i)
theorem Ze3 (n : Nat) : ∀ i,(Zf6 n i).length = 4
 | 0 => by simp [Zf6]
 | i + 1 => by simp [Zf6,Ze3 n i]
def Zqg (n : Nat) : List UInt8 := Zf6 n 4
theorem Zcf (n : Nat) : (Zqg n).length = 4 := Ze3 n 4
def Zbu (l : List (List UInt8)) : List UInt8 := l.flatMap fun s => Zqg s.length ++ s
theorem Zk2 {l : List (List UInt8)} {i : Nat} {x : List UInt8} (h : l[i]? = some x) : Zbu (l.take (i + 1)) = Zbu (l.take i) ++ (Zqg x.length ++ x) := by
 obtain ⟨hi,rfl⟩ := List.getElem?_eq_some_iff.1 h
 rw [List.take_succ_eq_append_getElem hi];simp only [Zbu,List.flatMap_append,List.flatMap_cons,List.flatMap_nil,List.append_nil]
theorem Zgx (l : List (List UInt8)) (i : Nat) : (Zbu (l.take i)).length ≤ (Zbu l).length := by
 have : Zbu l = Zbu (l.take i) ++ Zbu (l.drop i) := by unfold Zbu; rw [← List.flatMap_append,List.take_append_drop]
 rw [this]; simp
def digest (rd fs : List Int) (l : List (List UInt8)) : List UInt8 := (StrM.init.more rd fs (Zbu l)).sum rd fs
theorem Zau (rd fs : List Int) (l : List (List UInt8)) : (digest rd fs l).length = 32 := by unfold digest StrM.sum; exact Zec _
attribute [irreducible] digest
def Zax (l : List Bs) : List (List UInt8) := l.map Bs.s
theorem Zob (a : Option Addr) (c : Nat) (l : List Bs) (rd fs : List Int) (W : World) (hn : (Zbu (Zax l)).length < 1152921504606846976) (hl : l.length < 2305843009213693951) (hG : Gl W noF rd fs) (hB : Bss W noF a l) :
  Calls Tryz.prog 144 #[.slice a l.length c] W (Ret fun v w => v = .agg (bv (digest rd fs (Zax l))).toArray ∧ St W noF [] w) := by
 have hS := St.start W
 have hf := hG.first8
 refine Zab Tryz.func144 rfl Tryz.ntmps144 rfl ?_
 repeat (first|refine Yea ?_|(refine X_id ?_;first|refine Yaf ?_|refine Yag ?_|refine Yav ?_|refine Ybl ?_|refine Ya5 (fun _ _ hS _ => ?_)|refine Yar (fun _ _ hS _ => ?_))|refine Yed ?_|refine Yab ?_)
 rename_i b2 _ _ _ p wp _;rw [Zgb] at hS;replace hS : St W noF [pts p (.cells StrM.init.cells.toArray 263),pts b2 (.cells (bv (List.replicate 32 0)).toArray 79)] wp := hS
 refine Zal (α := Nat) (fun i => [(2,.pointer (some ⟨b2,0,none⟩)),(3,.pointer (some ⟨p,0,none⟩)),(10,.slice a l.length c),(11,.int .i64 (l.length : Nat)),(12,.int .i64 (i : Nat))])
  (fun i w => i ≤ l.length ∧ St W noF [pts p (.cells (StrM.init.more rd fs (Zbu ((Zax l).take i))).cells.toArray 263),pts b2 (.cells (bv (List.replicate 32 0)).toArray 79)] w) (fun i => l.length - i) 0 ⟨rfl,rfl,rfl,rfl,rfl,trivial⟩ ⟨Nat.zero_le _,hS⟩ ?_
 clear hS;rintro i w ⟨hi,hS⟩
 have hle := Zgx (Zax l) i
 obtain ⟨S',hSe⟩ : ∃ S',S' = StrM.init.more rd fs (Zbu ((Zax l).take i)) := ⟨_,rfl⟩
 have hok' : S'.ok := hSe ▸ StrM.more_ok hf StrM.init_ok
 have hn' : S'.n = (Zbu ((Zax l).take i)).length := by rw [hSe,StrM.more_n]; simp [StrM.init]
 rw [← hSe] at hS;by_cases hlt : i < l.length
 ·have hx0 : l[i]? = some l[i] := List.getElem?_eq_getElem hlt
  generalize l[i] = x at hx0;have hxm := List.mem_of_getElem? hx0
  have hbx := hB.all x hxm
  have hj := Zk2 (l := Zax l) (i := i) (x := x.s) (by simp [Zax,hx0])
  have hle1 := Zgx (Zax l) (i + 1)
  rw [hj,List.length_append,List.length_append,Zcf] at hle1;obtain ⟨ab,ao,rfl⟩ := (hB.row.rd hS).base (by intro e; simp at e; subst e; simp at hlt)
  have hr := hB.row
  have hx : (l.map Bs.val)[i]? = some (.slice x.a x.s.length x.c) := by simp [hx0,Bs.val]
  repeat (first|refine Yea ?_|refine Yfk ?_|refine Yar (fun _ _ hS _ => ?_)|refine Yee ?_|refine Yab ?_)
  rename_i b6 _ _;refine Zal (α := Nat) (fun j => [(2,.pointer (some ⟨b2,0,none⟩)),(3,.pointer (some ⟨p,0,none⟩)),(10,.slice (some ⟨ab,ao,none⟩) l.length c),(11,.int .i64 (l.length : Nat)),(12,.int .i64 (i : Nat)),(5,.slice x.a x.s.length x.c),(6,.pointer (some ⟨b6,0,none⟩)),(16,.int .i64 (j : Nat))])
   (fun j w => j ≤ 4 ∧ St W noF [pts b6 (.cells (bv (Zf6 x.s.length j)).toArray 341),pts p (.cells S'.cells.toArray 263),pts b2 (.cells (bv (List.replicate 32 0)).toArray 79)] w) (fun j => 4 - j) 0 ⟨rfl,rfl,rfl,rfl,rfl,rfl,rfl,rfl,trivial⟩ ⟨Nat.zero_le _,hS⟩ ?_
  clear hS;rintro j w ⟨hj4,hS⟩
  obtain ⟨B,hBe⟩ : ∃ B,B = Zf6 x.s.length j := ⟨_,rfl⟩
  have hBl : B.length = 4 := by rw [hBe]; exact Ze3 _ _
  rw [← hBe] at hS;by_cases hj : j < 4
  ·repeat (first|refine Yea ?_|(refine X_id ?_;first|refine Yaf ?_|refine Yag ?_|refine Yav ?_|refine Ya2 ?_|refine Ydt ?_|refine Ya0 ?_|refine Ybz ?_|refine Ycf ?_|refine Yc7 ?_|refine Yc0 ?_|refine Zov rfl rfl rfl rfl hS (by omega) (fun _ hS => ?_))|refine Yee ?_|refine Yei ?_)
   refine Zaf (j + 1) ⟨rfl,rfl,rfl,rfl,rfl,rfl,rfl,rfl,trivial⟩ ⟨by omega,?_⟩ (by omega)
   simp only [Zf6,Zxe]
   rw [← hBe];rw [show (8 * (3 - (j : Int))).toNat = 8 * (3 - j) by omega,show 0 + (j : Int).toNat * 1 = j by omega] at hS
   exact hS
  ·obtain rfl : j = 4 := by omega
   repeat (first|refine Yea ?_|refine Yaf ?_|refine Ya6 ?_|refine Yde ?_|refine Ybn (fun _ _ hS _ => ?_)|refine Yeq ?_|refine Yeg ?_)
   rename_i nb wb _;obtain ⟨_,hc,hr,hw,hbk⟩ := hS.call [false,false,true]
   have hBs : Bss wb _ (some ⟨nb,0,none⟩) [⟨some ⟨b6,0,none⟩,4,B⟩,x] := ⟨by
    have := (hr _ (List.mem_cons_self ..)).own_row
    simpa [Bs.val,hBl] using this,fun y hy => by
    simp only [List.mem_cons,List.not_mem_nil,or_false] at hy
    rcases hy with rfl | rfl
    ·exact (hr _ (List.mem_cons_of_mem _ (List.mem_cons_self ..))).mono fun h hh => ⟨h,Zgj (n := 4) (by simp [← Zah,← hBl]) h hh,fun _ _ e => e⟩
    ·exact hw _ hbx⟩
   refine Zaa _ rfl rfl rfl rfl rfl (Zxo p S' _ _ _ rd fs _ _ _ hok' (by simp [Zaj,hBl]; omega) (by simp) (hG.mono hw) hBs hc) ?_
   rintro _ w ⟨rfl,hS⟩
   replace hS := hbk hS
   clear hc hr hw hbk hBs;repeat (first|refine Yea ?_|refine Yef ?_|refine Yad ?_|refine Yei ?_)
   refine Zaf (i + 1) ⟨rfl,rfl,rfl,rfl,rfl,trivial⟩ ⟨by omega,?_⟩ (by omega)
   have hS := hS.pick [0,2]
   rw [Zk2 (x := x.s) (by simp [Zax,hx0]),StrM.more_append,← hSe]
   rw [show Zaj [⟨some ⟨b6,0,none⟩,4,B⟩,x] = Zqg x.s.length ++ x.s by rw [hBe]; simp [Zaj,Zqg]] at hS
   exact hS
 ·obtain rfl : i = l.length := by omega
  have hlen32 : LenO (bv (S'.sum rd fs)) 32 := ⟨by rw [Zah]; exact Zec _⟩
  repeat (first|refine Yea ?_|(refine X_id ?_;first|(refine Zad 127 rfl rfl rfl rfl rfl hS (sum_ p S' rd fs 263 _ hok' (by omega) (hG.mono fun r hr => (hr.rd hS).ro) (hS.rd (List.mem_cons_self ..))) ?_;rintro _ _ rfl hS)|refine Yaf ?_|refine Ya6 ?_|refine Ycl (fun _ hS => ?_))|refine Yej ?_|refine Yab ?_|refine Yba ?_|refine Ybb ?_|refine Ybw ?_)
  refine ⟨?_,hS.drops⟩
  rw [hSe,show (Zax l).take l.length = Zax l from List.take_of_length_le (by simp [Zax])]
  unfold digest
  rfl
def Zb3 (rd fs : List Int) (l : List UInt8) : List UInt8 := (StrM.init.more rd fs l).sum rd fs
theorem Zcn (rd fs : List Int) (l : List UInt8) : (Zb3 rd fs l).length = 32 := by unfold Zb3 StrM.sum; exact Zec _
attribute [irreducible] Zb3
theorem dof_ (a : Option Addr) (c : Nat) (l : List Bs) (rd fs : List Int) (W : World) (hn : (Zaj l).length < 1152921504606846976) (hl : l.length < 2305843009213693951) (hG : Gl W noF rd fs) (hB : Bss W noF a l) :
  Calls Tryz.prog 75 #[.slice a l.length c] W (Ret fun v w => v = .agg (bv (Zb3 rd fs (Zaj l))).toArray ∧ St W noF [] w) := by
 have hS := St.start W
 have hf := hG.first8
 refine Zab Tryz.func75 rfl Tryz.ntmps75 rfl ?_
 repeat (first|refine Yea ?_|refine Yaf ?_|refine Ybl ?_|refine Ya5 (fun _ _ hS _ => ?_)|refine Yar (fun _ _ hS _ => ?_)|refine Yeb ?_|refine Yab ?_)
 rename_i b2 _ _ _ p wp _;rw [Zgb] at hS;replace hS : St W noF [pts p (.cells StrM.init.cells.toArray 263),pts b2 (.cells (bv (List.replicate 32 0)).toArray 79)] wp := hS
 obtain ⟨_,hc,hr,hw,hbk⟩ := hS.call [true,false]
 have hBs : Bss wp _ a l := ⟨hw _ hB.row,fun y hy => hw _ (hB.all y hy)⟩
 refine Zaa _ rfl rfl rfl rfl rfl (Zxo p StrM.init _ _ _ rd fs _ _ _ StrM.init_ok (by simp [StrM.init]; omega) hl (hG.mono hw) hBs hc) ?_
 rintro _ w ⟨rfl,hS⟩
 replace hS := hbk hS
 clear hc hr hw hbk hBs;have hlen32 : LenO (bv ((StrM.init.more rd fs (Zaj l)).sum rd fs)) 32 := ⟨by rw [Zah]; exact Zec _⟩
 have hok' : (StrM.init.more rd fs (Zaj l)).ok := StrM.more_ok hf StrM.init_ok
 have hn' : (StrM.init.more rd fs (Zaj l)).n < 1152921504606846976 := by rw [StrM.more_n]; simp [StrM.init]; omega
 repeat (first|refine Yea ?_|(refine X_id ?_;first|(refine Zad 127 rfl rfl rfl rfl rfl hS (sum_ p (StrM.init.more rd fs (Zaj l)) rd fs 263 _ hok' hn' (hG.mono fun r hr => (hr.rd hS).ro) (hS.rd (List.mem_cons_self ..))) ?_;rintro _ _ rfl hS)|refine Ycl (fun _ hS => ?_))|refine Yah ?_|refine Yab ?_|refine Ybw ?_)
 refine ⟨?_,hS.drops⟩
 unfold Zb3
 rfl
end Cr
namespace Cr
open Go
set_option maxHeartbeats 64000000
section
variable {P : Program} {o : Oper} {σ : Env} {w : World} {N : Nat} {ds : Md} {K : Env → World → Prop}
variable {x : Operand} {t e : TypeId}
theorem Zi4 {b n c c' d : Nat} {T : TypeId} {cs : List Value} {W : World} {F : Nat → Prop} {rs rest : List Res} (ho : o.op = .convert t t x) (hx : ev σ x = some (.slice (some ⟨b,0,none⟩) n c)) [hu : Und P t (.slice e)] [he : Und P e (.int .u8)]
  (hd : o.dst = some d) (hN : Nat.blt d N = true) (hS : St W F rs w) [hh : HasOwn rs (some ⟨b,0,none⟩) T 1 c' cs rest] (hpos : 0 < cs.length)
  (hk : ∀ w',St W F (row (some ⟨b,0,none⟩) cs :: rest) w' → K ((d,.slice (some ⟨b,0,none⟩) n c) :: σ) w') : X P o N ds σ w K := ⟨fun f ha K' Q' hK => by
 obtain ⟨g,⟨g1,g2,hown,hrest,hdj,hun⟩,s⟩ := hS.perm hh.has
 obtain ⟨hle,hcm,⟨rfl,_⟩ | ⟨b',cells,hbe,rfl,hcz,ht⟩⟩ := hown
 ·rw [Nat.zero_mul] at hle; omega
 ·obtain rfl : b = b' := by simpa using hbe
  have hb : w.heap[b]? = some (.cells cells T (0,0)) := s.agrees b _ (by rw [hun,Zao]; rfl)
  have hS2 : St W F (pts b (.cells cells T (0,0)) :: rest) w := ⟨g,⟨_,g2,rfl,hrest,hdj,hun⟩,s⟩
  have hlt := Zb9 hb
  have hgb : w.heap[b] = .cells cells T (0,0) := (Array.getElem?_eq_some_iff.1 hb).2
  have u : SetBlock w (w.freeze ⟨b,cells.size,none⟩ 1) b (.cells cells T (cells.size,cells.size + 1)) := by
   unfold World.freeze
   rw [if_neg (by omega)];refine ⟨by simp,?_,fun k hk => ?_,rfl,rfl,rfl⟩
   ·rw [Array.getElem?_modify,if_pos rfl,hb]; rfl
   ·rw [Array.getElem?_modify,if_neg (Ne.symm hk)]
  have hexec : (execOp f.eval o).run P w = .ok (.value (.slice (some ⟨b,0,none⟩) n c)) (w.freeze ⟨b,cells.size,none⟩ 1) := by
   have hsh : (shape b).run P w = .ok (some (T,cells.size)) w := by simp [shape,Sem.run,World.shape?,hb]
   have hms : (markStringish ⟨b,0,none⟩).run P w = .ok () (w.freeze ⟨b,cells.size,none⟩ 1) := by
    unfold markStringish
    rw [Sem.run_bind,hsh]
    rfl
   simp [execOp,ho,ha.eval hx,convert,run_underlying hu.und,run_underlying he.und,hms,Result.andThen]
  unfold Oper.wp
  rw [hexec];have := hK _ _ _ (ha.put (Zan hN) (.slice (some ⟨b,0,none⟩) n c)) (hk _ ((hS2.set u).head fun h hh => .inr ⟨b,0,cells,T,_,rfl,hh,fun i v hv => by
   rw [← ht,List.getElem?_take] at hv
   split at hv
   ·simpa using hv
   ·cases hv⟩))
  rw [← hd] at this;exact this⟩
end
end Cr
namespace Cr
open Go
set_option maxRecDepth 10000
set_option maxHeartbeats 64000000
section
variable {P : Program} {o : Oper} {σ : Env} {w : World} {x y : Operand} {t ty e : TypeId} {N : Nat} {ds : Md} {K : Env → World → Prop}
theorem Zll {T bytes d c : Nat} {k k' : IntKind} {W : World} {F : Nat → Prop} {rs : List Res} (ho : o.op = .makeSlice t x y) (hx : ev σ x = some (.int k (c : Nat))) (hy : ev σ y = some (.int k' (c : Nat)))
  [h : Und P t (.slice T)] [hi : Inf P T (.int .u8 0) 1 bytes] (hb : bytes * c ≤ 281474976710656) (hm : c ≤ 9223372036854775807) (hd : o.dst = some d) (hN : Nat.blt d N = true) (hS : St W F rs w)
  (hk : ∀ b w',St W F (pts b (.cells (bv (List.replicate c 0)).toArray T) :: rs) w' → K ((d,.slice (some ⟨b,0,none⟩) c c) :: σ) w') : X P o N ds σ w K :=
 Z1w ho hx hy (by omega) (Int.le_refl _) (by rw [← Int.natCast_mul]; omega) (by omega) hd hN hS fun b w' hS' _ => hk b w' (by
  have e1 : (Value.int .u8 0).cells = #[Value.int .u8 0] := rfl
  rw [e1,Zn1,Int.toNat_natCast,Nat.mul_one,Zgb] at hS';exact hS')
theorem Zra {N : Nat} {ds : Md} {K : Env → World → Prop} {b off j : Nat} {c : UInt8} {L : List UInt8} {T : TypeId} {W : World} {F : Nat → Prop} {rs rs' : List Res} (ho : o.op = .store t x y) (hx : ev σ x = some (.pointer (some (adr (some ⟨b,off,none⟩) j)))) (hy : ev σ y = some (.int .u8 (c.toNat : Int))) [hs : Siz P t 1]
  (hd : o.dst = none) (hS : St W F rs w) [hh : Has rs b (.cells (bv L).toArray T (0,0))] (hfit : off + j < L.length) [hu : Upd rs b (.cells (bv (L.set (off + j) c)).toArray T (0,0)) rs']
  (h : ∀ w',St W F rs' w' → K σ w') : X P o N ds σ w K := Zov (off := off + j) ho hx hy hd hS hfit h
end
def rds (l : List Bs) : Res := Sep (l.map fun x => bytes x.a x.s)
theorem St.rdsNil {W : World} {F : Nat → Prop} {rs : List Res} {w : World} (hS : St W F rs w) : St W F (rds [] :: rs) w := by
 obtain ⟨h,hs,s⟩ := hS
 exact ⟨h,⟨fun _ => none,h,fun _ => rfl,hs,fun _ => .inl rfl,fun _ => by simp⟩,s⟩
theorem St.rdsCons {W : World} {F : Nat → Prop} {rs : List Res} {w : World} {x : Bs} {l : List Bs} (hS : St W F (bytes x.a x.s :: rds l :: rs) w) : St W F (rds (l ++ [x]) :: rs) w := by
 obtain ⟨h,hs,s⟩ := hS
 refine ⟨h,?_,s⟩
 obtain ⟨h1,h2,a,⟨h3,h4,b,c,d',u'⟩,d,u⟩ := hs
 refine ⟨fun k => (h1 k).or (h3 k),h4,?_,c,fun k => ?_,fun k => ?_⟩
 ·have : Sep (bytes x.a x.s :: (l.map fun x => bytes x.a x.s)) (fun k => (h1 k).or (h3 k)) := ⟨h1,h3,a,b,fun k => by
   rcases d k with e | e
   ·exact .inl e
   ·rw [u'] at e; simp at e; exact .inr e.1,fun _ => rfl⟩
  have p : (bytes x.a x.s :: (l.map fun x => bytes x.a x.s)).Perm ((l ++ [x]).map fun x => bytes x.a x.s) := by
   rw [List.map_append]; exact (List.perm_append_comm (l₁ := [bytes x.a x.s]) (l₂ := l.map fun x => bytes x.a x.s))
  exact Sep.perm p _ this
 ·rcases d k with e | e
  ·rcases d' k with e' | e'
   ·left; simp [e,e']
   ·exact .inr e'
  ·rw [u'] at e; simp at e; exact .inr e.2
 ·rw [u,u']; cases e1 : h1 k <;> simp [e1]
theorem Ro.sep {W : World} {F : Nat → Prop} {rs : List Res} (H : Ro W F (Sep rs)) : ∀ r ∈ rs,Ro W F r := by
 obtain ⟨f,hs,ha⟩ := H
 induction rs generalizing f with
 | nil => intro r hr; cases hr
 | cons x rs ih =>
  obtain ⟨h1,h2,hx,hrs,hd,hu⟩ := hs
  have s1 : ∀ b o,h1 b = some o → f b = some o := fun b o e => by rw [hu,e]; rfl
  have s2 : ∀ b o,h2 b = some o → f b = some o := fun b o e => by
   rw [hu]; rcases hd b with e' | e'
   ·simp [e',e]
   ·rw [e] at e'; simp at e'
  intro r hr
  cases hr with
  | head => exact ⟨h1,hx,fun b o e => ha b o (s1 b o e)⟩
  | tail _ hr => exact ih h2 hrs (fun b o e => ha b o (s2 b o e)) r hr
theorem Ro.rds {W : World} {F : Nat → Prop} {l : List Bs} (H : Ro W F (rds l)) : ∀ x ∈ l,Ro W F (bytes x.a x.s) := fun x hx => Ro.sep H _ (List.mem_map.2 ⟨x,hx,rfl⟩)
section
variable {P : Program} {w : World} {t e : TypeId}
theorem Zkl (d n : Nat) [h : Und P t (.array n e)] [he : Und P e (.int .u8)] [hs : Siz P e 1] [h1 : One P e] (a b : List UInt8) (ha : a.length = n) (hb : b.length = n) :
  (Op.equalIn (d + 2) t (.agg (bv a).toArray) (.agg (bv b).toArray)).run P w = .ok (decide (a = b)) w := by
 unfold Op.equalIn
 simp only [Sem.run_bind,run_underlying h.und,Result.andThen_ok,Zbj (n := 1),Nat.mul_one]
 simp only [Std.Legacy.Range.forIn_eq_forIn_range']
 have hp : ∀ (l : List UInt8) (i : Nat) (hi : i < l.length),(part e (bv l).toArray i).run P w = .ok (.int .u8 (l[i].toNat : Int)) w := fun l i hi => by
  have := Zxw hi
  simp [part,h1.one,List.getElem?_toArray,this]
 have key : ∀ m s,s + m = n → (forIn (List.range' s m) (none,()) (fun i (__s : Option Bool × Unit) => do
   let __do_lift ← part e (bv a).toArray i
   let __do_lift_1 ← part e (bv b).toArray i
   let __do_lift ← Op.equalIn (d + 1) e __do_lift __do_lift_1
   if (!__do_lift) = true then pure (ForInStep.done (some false,())) else pure (ForInStep.yield (none,()))) : Sem (Option Bool × Unit)).run P w = .ok (if a.drop s = b.drop s then none else some false,()) w := by
  intro m
  induction m with
  | zero =>
   intro s hs
   rw [List.drop_of_length_le (by omega),List.drop_of_length_le (by omega)];simp
  | succ m ih =>
   intro s hs
   have hsa : s < a.length := by omega
   have hsb : s < b.length := by omega
   rw [List.range'_succ,List.forIn_cons];simp only [Sem.run_bind,hp a s hsa,hp b s hsb,Result.andThen_ok,run_equalIn_int w d e .u8 .u8 _ _ he.und]
   rw [List.drop_eq_getElem_cons hsa,List.drop_eq_getElem_cons hsb];by_cases hc : a[s] = b[s]
   ·have e1 : ((a[s].toNat : Int) == (b[s].toNat : Int)) = true := by rw [hc]; simp
    rw [e1];simp only [Bool.not_true,Bool.false_eq_true,if_false,Sem.run_pure,Result.andThen_ok]
    rw [ih (s + 1) (by omega),hc];simp only [List.cons.injEq,true_and]
   ·have e1 : ((a[s].toNat : Int) == (b[s].toNat : Int)) = false := by
     simp only [beq_eq_false_iff_ne,ne_eq]
     intro h
     exact hc (UInt8.toNat_inj.1 (by omega))
    rw [e1];simp only [Bool.not_false,if_true,Sem.run_pure,Result.andThen_ok]
    rw [if_neg (fun h => hc (List.cons.inj h).1)]
 have hz : [:n].size = n := by simp [Std.Legacy.Range.size]
 rw [hz,key n 0 (by omega)];by_cases hab : a = b <;> simp [hab]
end
section
variable {P : Program} {o : Oper} {σ : Env} {w : World} {x y : Operand} {t ty e : TypeId}
class NoGuard (P : Program) (t : TypeId) : Prop where
 no : P.eqGuardType P.depth t = false
theorem Zia {n : Nat} {a b : List UInt8} (ho : o.op = .binOp .neq t x y ty) (hx : ev σ x = some (.agg (bv a).toArray)) (hy : ev σ y = some (.agg (bv b).toArray)) [h : Und P t (.array n e)] [he : Und P e (.int .u8)] [hs : Siz P e 1] [h1 : One P e] [hg : NoGuard P t] (ha : a.length = n) (hb : b.length = n) :
  Yl P o σ w (.bool (decide (¬ a = b))) := ⟨fun N ds f hf => by
 have h2 := run_eqGuard_agg (P := P) (w := w) .neq t x y (bv a).toArray (bv b).toArray hg.no
 have h3 := run_neq_struct (P := P) (w := w) t (bv a).toArray (bv b).toArray
 have h4 := Zkl (P := P) (w := w) (t := t) (e := e) 9998 n a b ha hb
 have e1 : (!(decide (a = b))) = decide (¬ a = b) := by by_cases q : a = b <;> simp [q]
 simp only [execOp,ho,hf.eval hx,hf.eval hy,Sem.run_bind,h2,h3,h4,Result.andThen_ok,e1]
 rfl⟩
end
end Cr
namespace Cr
open Go Go.Proofs
set_option maxRecDepth 100000
set_option maxHeartbeats 64000000
attribute [local irreducible] Calls

def Zcw : List UInt8 := [99,104,97,105,110]
theorem Z4f (rd fs : List Int) (W : World) (hG : Gl W noF rd fs) : Calls Tryz.prog 34 #[] W (Ret fun v w => v = .agg (bv (Zb3 rd fs Zcw)).toArray ∧ St W noF [] w) := by
 have hS := St.start W
 have hcl : bv Zcw = [.int .u8 99,.int .u8 104,.int .u8 97,.int .u8 105,.int .u8 110] := rfl
 refine Zab Tryz.func34 rfl Tryz.ntmps34 rfl ?_
 repeat (first|refine Yea ?_|refine Yar (fun _ _ hS _ => ?_)|refine Ybn (fun _ _ hS _ => ?_)|refine Yeb ?_|refine Yab ?_)
 rename_i b0 _ _;refine Zi4 rfl rfl rfl rfl hS (by simp) (fun w hS => ?_)
 repeat (first|refine Yaa ?_|refine Ybn (fun _ _ hS _ => ?_))
 rename_i b1 w1 _;have hB : Bss w1 noF (some ⟨b1,0,none⟩) [⟨some ⟨b0,0,none⟩,5,Zcw⟩] := ⟨(show Rd w1 (row (some ⟨b1,0,none⟩) _) by simpa [Bs.val,Zcw] using hS.ownRd (a := some ⟨b1,0,none⟩)).ro,fun x hx => by
  rw [List.mem_singleton] at hx;subst hx
  exact (hS.rd (r := bytes (some ⟨b0,0,none⟩) Zcw) (by simp [bytes,← hcl])).ro⟩
 have hl32 : LenO (bv (Zb3 rd fs (Zaj [⟨some ⟨b0,0,none⟩,5,Zcw⟩]))) 32 := ⟨by rw [Zah]; exact Zcn _ _ _⟩
 refine Zad _ rfl rfl rfl rfl rfl hS (dof_ _ 1 _ rd fs _ (by simp [Zaj,Zcw]) (by simp) (hG.mono fun r hr => (hr.rd hS).ro) hB) ?_
 rintro _ w rfl hS
 clear hB;repeat (first|refine Yea ?_|refine Yao (fun _ hS _ => ?_)|refine Yah ?_|refine Yab ?_|refine Ybw ?_)
 exact ⟨by rw [show Zaj [⟨some ⟨b0,0,none⟩,5,Zcw⟩] = Zcw by simp [Zaj]],hS.drops⟩
theorem Zt2 (a b : Option Addr) (n m c c' : Nat) (s t : List UInt8) (W : World) (ha : Rd W (bytes a s)) (hb : Rd W (bytes b t)) (hn : s.length = n) (hm : t.length = m) :
  Calls Tryz.prog 57 #[.slice a n c,.slice b m c'] W (Ret fun v w => v = .bool (decide (s = t)) ∧ W = w) := by
 refine Zab Tryz.func57 rfl Tryz.ntmps57 rfl ?_
 repeat (first|refine Yea ?_|refine Yen ?_|refine Yeb ?_|refine Yab ?_)
 refine X_yl (Zbk rfl rfl ha hn) rfl rfl ?_
 repeat (first|refine Yaa ?_|refine Yaf ?_)
 refine X_yl (Zbk rfl rfl hb hm) rfl rfl ?_
 repeat (first|refine Yaa ?_)
 refine X_yl (Zid rfl rfl rfl) rfl rfl ?_
 repeat (first|refine Yea ?_|refine Yag ?_|refine Yah ?_|refine Yec ?_)
 exact ⟨rfl,rfl⟩

theorem Zzy (n : Nat) (w : World) (hn : n ≤ 281474976710656) : ∃ cs : Array Value,(callFunc 232 #[.int .i64 n]).run Tryz.prog w = .ok (.value (.slice (some ⟨w.heap.size,0,none⟩) n cs.size)) (w.drew.drew.alloc (.cells cs 5)) ∧ n ≤ cs.size := by
 obtain ⟨cs,hrun,hle,_⟩ := Lib.run_makeNoZero (P := Tryz.prog) (w := w) #[3] 35 5 (Und.und (P := Tryz.prog) (t := 35) (d := .slice 5)) n hn
 refine ⟨cs,?_,hle⟩
 rw [run_callFunc_extern Tryz.func232 (by kernel_rfl) (by kernel_rfl) (by kernel_rfl) (e := Extern.BytealgMakeNoZero.makeNoZero #[3] #[35]) (by kernel_rfl),hrun]
 rfl
theorem St.alloc2 {W : World} {F : Nat → Prop} {rs : List Res} {w : World} (hS : St W F rs w) (o : Obj) : St W F (pts w.heap.size o :: rs) (w.drew.drew.alloc o) := hS.drew.drew.alloc o

theorem Z66 (ab ao c : Nat) (l : List Bs) (W : World) (hB : Bss W noF (some ⟨ab,ao,none⟩) l) (h2 : 2 ≤ l.length) (hc : l.length ≤ c) (hl : l.length ≤ 1099511627776) (hn : (Zaj l).length ≤ 1099511627776) :
  Calls Tryz.prog 241 #[.slice (some ⟨ab,ao,none⟩) l.length c,.slice none 0 0] W (Ret fun v w => ∃ p,v = .slice (some ⟨p,0,none⟩) (Zaj l).length (Zaj l).length ∧ St W noF [bytes (some ⟨p,0,none⟩) (Zaj l)] w) := by
 have hS := St.start W
 refine Zab Tryz.func241 rfl Tryz.ntmps241 rfl ?_
 repeat (first|refine Yea ?_|(refine X_id ?_;first|refine Yaf ?_|refine Yag ?_|refine Yav ?_|refine Ybh ?_|refine Ybs ?_)|refine Ye4 ?_|refine Yab ?_)
 refine Zal (α := Nat) (fun i => [(0,.slice (some ⟨ab,ao,none⟩) l.length c),(1,.slice none 0 0),(5,.int .i64 ((Zaj (l.take i)).length : Nat)),(42,.slice (some ⟨ab,ao,none⟩) l.length c),(43,.int .i64 (l.length : Nat)),(44,.int .i64 (i : Nat))])
  (fun i w => i ≤ l.length ∧ St W noF [] w) (fun i => l.length - i) 0 ⟨rfl,rfl,rfl,rfl,rfl,rfl,trivial⟩ ⟨Nat.zero_le _,hS⟩ ?_
 clear hS;rintro i w ⟨hi,hS⟩
 have hr := hB.row
 by_cases hlt : i < l.length
 ·have hx0 : l[i]? = some l[i] := List.getElem?_eq_getElem hlt
  generalize l[i] = x at hx0;have hx : (l.map Bs.val)[i]? = some (.slice x.a x.s.length x.c) := by simp [hx0,Bs.val]
  have hj := Zc8 hx0
  have hle := Zbq l (i + 1)
  have hjl : (Zaj (l.take (i + 1))).length = (Zaj (l.take i)).length + x.s.length := by rw [hj]; simp
  rw [hjl] at hle;clear hj;repeat (first|refine Yea ?_|(refine X_id ?_;first|refine Yaf ?_|refine Yag ?_|refine Yav ?_|refine Ya2 ?_|refine Ybs ?_|refine Ybc ?_|refine Ya0 ?_|refine Ybz ?_|refine Yb2 ?_)|refine Yeh ?_|refine Yei ?_)
  refine Zaf (i + 1) ⟨rfl,rfl,by rw [hjl]; rfl,rfl,rfl,rfl,trivial⟩ ⟨by omega,hS⟩ (by omega)
 ·obtain rfl : i = l.length := by omega
  rw [List.take_length];repeat (first|refine Yea ?_|refine Yaf ?_|refine Ya6 ?_|refine Yeq ?_|refine Yeg ?_)
  obtain ⟨cs,hrun,hcs⟩ := Zzy (Zaj l).length w (by omega)
  refine Zow rfl rfl rfl hrun rfl rfl ?_
  replace hS := hS.alloc2 (.cells cs 5)
  generalize w.drew.drew.alloc (.cells cs 5) = w2 at hS ⊢;generalize w.heap.size = p at hS ⊢;clear hrun;obtain ⟨T,hT⟩ : ∃ T,T = (Zaj l).length := ⟨_,rfl⟩
  have hjt := Zbq l
  rw [← hT] at hcs hn hjt ⊢;repeat (first|refine Yaa ?_|refine Yaf ?_)
  refine X_yl (Zli (l := 0) (h := T) (k := T) rfl rfl rfl rfl rfl ⟨_,_,rfl,by omega,by omega,hcs⟩ ⟨_,_,rfl,by omega,by omega,Nat.le_refl _⟩ (.inl ⟨rfl,rfl⟩)) rfl rfl ?_
  rw [sub_zero,Nat.sub_zero];obtain ⟨x,hx0⟩ : ∃ x,l[0]? = some x := ⟨_,List.getElem?_eq_getElem (by omega)⟩
  have hx : (l.map Bs.val)[0]? = some (.slice x.a x.s.length x.c) := by simp [hx0,Bs.val]
  have hbx := hB.all x (List.mem_of_getElem? hx0)
  have hj0 := Zc8 hx0
  simp only [List.take_zero,Nat.zero_add] at hj0
  replace hj0 : Zaj (l.take 1) = x.s := by rw [hj0]; rfl
  have hx1 := hjt 1
  rw [hj0] at hx1;obtain ⟨c0,rfl⟩ : ∃ c0 : List Value,cs = c0.toArray := ⟨cs.toList,by simp⟩
  have hc0 : T ≤ c0.length := by simpa using hcs
  repeat (first|refine Yea ?_|refine Yaf ?_|refine Yag ?_|refine Ybc ?_|refine Yb2 ?_|refine Yeb ?_|refine Yab ?_)
  refine Zrc rfl rfl rfl rfl rfl hS (hbx.rd hS) (by simp) Zfd (by omega) (fun w hS => ?_)
  rw [List.take_of_length_le (by simp; omega)] at hS;replace hS : St W noF [pts p (.cells (bv (Zaj (l.take 1)) ++ c0.drop x.s.length).toArray 5)] w := by
   rw [hj0]; simpa [Zai] using hS
  have hmin : min x.s.length T = (Zaj (l.take 1)).length := by rw [hj0]; omega
  rw [hmin];have hjx : (Zaj (l.take 1)).length = x.s.length := by rw [hj0]
  clear hmin hx hx0 hbx hj0;repeat (first|refine Yea ?_|refine Yen ?_|refine Yeb ?_|refine Yab ?_)
  refine X_yl (Zap (l := 1) (h := l.length) rfl rfl rfl rfl (.inl ⟨rfl,rfl⟩) (.inr ⟨_,_,rfl,by omega,by omega,by omega⟩)) rfl rfl ?_
  rw [show sub (some ⟨ab,ao,none⟩) 1 1 c = some ⟨ab,ao + 1,none⟩ by unfold sub; rw [if_neg (by omega)]; simp [Zbs]]
  have hr' : Ro W noF (row (some ⟨ab,ao + 1,none⟩) ((l.map Bs.val).drop 1)) := hr.mono fun h hh => by
   have := row.part (a := some ⟨ab,ao,none⟩) (cs' := (l.map Bs.val).drop 1) (i := 1) (fun j v hv => by simpa [Nat.add_comm] using hv) h hh
   simpa [adr] using this
  clear hr;repeat (first|refine Yea ?_|refine Yaf ?_|refine Yav ?_|refine Yal ?_|refine Yab ?_)
  refine Zal (α := Nat) (fun i => [(1,.slice none 0 0),(8,.slice (some ⟨p,0,none⟩) T T),(9,.int .i64 ((Zaj (l.take (i + 1))).length : Nat)),(70,.slice (some ⟨ab,ao + 1,none⟩) (l.length - 1) (c - 1)),(71,.int .i64 ((l.length - 1 : Nat) : Int)),(72,.int .i64 (i : Nat))])
   (fun i w => i ≤ l.length - 1 ∧ ∃ r,r.length + (Zaj (l.take (i + 1))).length = c0.length ∧ St W noF [pts p (.cells (bv (Zaj (l.take (i + 1))) ++ r).toArray 5)] w) (fun i => l.length - 1 - i) 0 ⟨rfl,rfl,rfl,rfl,rfl,rfl,trivial⟩ ⟨Nat.zero_le _,_,by simp; omega,hS⟩ ?_
  clear hS;rintro i w ⟨hi,r,hrl,hS⟩
  have hjt1 := hjt (i + 1)
  obtain ⟨J,hJ⟩ : ∃ J,J = Zaj (l.take (i + 1)) := ⟨_,rfl⟩
  rw [← hJ] at hS hrl hjt1 ⊢;by_cases hlt : i < l.length - 1
  ·obtain ⟨x,hx0⟩ : ∃ x,l[i + 1]? = some x := ⟨_,List.getElem?_eq_getElem (by omega)⟩
   have hbx := hB.all x (List.mem_of_getElem? hx0)
   have hj0 := Zc8 hx0
   have hx : ((l.map Bs.val).drop 1)[i]? = some (.slice x.a x.s.length x.c) := by simp [hx0,Bs.val]
   have hx1 := hjt (i + 1 + 1)
   rw [hj0,← hJ,List.length_append] at hx1;have hr := hr'
   repeat (first|refine Yea ?_|refine Yfk ?_|refine Yee ?_|refine Yab ?_)
   refine X_yl (Zap (l := J.length) (h := T) rfl rfl rfl rfl (.inl ⟨rfl,rfl⟩) (.inr ⟨_,_,rfl,by omega,by omega,by omega⟩)) rfl rfl ?_
   obtain ⟨off,hoff,hof⟩ : ∃ off,sub (some ⟨p,0,none⟩) J.length 1 T = some ⟨p,off,none⟩ ∧ (off = J.length ∨ (T = J.length ∧ off = 0)) := by
    unfold sub
    by_cases e : T = J.length
    ·exact ⟨0,by rw [if_pos e],.inr ⟨e,rfl⟩⟩
    ·exact ⟨J.length,by rw [if_neg e]; simp [Zbs],.inl rfl⟩
   rw [hoff];repeat (first|refine Yaa ?_|refine Yaf ?_)
   refine Zrc (news := []) rfl rfl rfl rfl rfl hS (Zm7 _ _) rfl (fun _ h => by cases h) (by simp; omega) (fun w hS => ?_)
   rw [show Zai (bv J ++ r) off (([] : List Value).take (T - J.length)) = bv J ++ r by simp [Zai]] at hS
   rw [show ((min 0 (T - J.length) : Nat) : Int) = 0 by omega]
   repeat (first|refine Yea ?_|refine Yes ?_|refine Yad ?_|refine Yab ?_)
   rw [show (J.length : Int) + 0 = (J.length : Nat) by omega]
   refine X_yl (Zap (l := J.length) (h := T) rfl rfl rfl rfl (.inl ⟨rfl,rfl⟩) (.inr ⟨_,_,rfl,by omega,by omega,by omega⟩)) rfl rfl ?_
   rw [hoff];repeat (first|refine Yaa ?_|refine Yaf ?_)
   refine Zrc rfl rfl rfl rfl rfl hS (hbx.rd hS) (by simp) Zfd (by simp; omega) (fun w hS => ?_)
   repeat (first|refine Yea ?_|refine Yes ?_|refine Yad ?_|refine Yei ?_)
   refine Zaf (i + 1) ⟨rfl,rfl,?_,rfl,rfl,rfl,trivial⟩ ⟨by omega,r.drop x.s.length,by rw [hj0,← hJ]; simp; omega,?_⟩ (by omega)
   ·show some _ = some _
    rw [hj0,← hJ]
    congr 2
    simp
    omega
   ·rw [hj0,← hJ,Zem]
    rcases hof with rfl | ⟨e,rfl⟩
    ·rw [List.take_of_length_le (by simp; omega)] at hS
     have : Zai (bv J ++ r) J.length (bv x.s) = bv J ++ bv x.s ++ r.drop x.s.length := by
      have := Zut (l := bv J) (m := r) (vs := bv x.s) (k := J.length) (n := 0) (by simp)
      rw [Nat.add_zero] at this;rw [this]; simp [Zai]
     rw [this] at hS;exact hS
    ·have h0 : x.s = [] := List.length_eq_zero_iff.1 (by omega)
     rw [h0] at hS ⊢
     simpa [Zai,bv] using hS
  ·obtain rfl : i = l.length - 1 := by omega
   have hJj : J = Zaj l := by rw [hJ,show l.length - 1 + 1 = l.length by omega,List.take_length]
   repeat (first|refine Yea ?_|refine Yfi ?_|refine Yej ?_|refine Yfe ?_)
   refine ⟨p,rfl,hS.head fun h hh => Zgj (n := J.length) ?_ h hh⟩
   rw [← hJj]; simp
end Cr
