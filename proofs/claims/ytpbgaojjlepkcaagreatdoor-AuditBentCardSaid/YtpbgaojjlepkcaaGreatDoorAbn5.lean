/-
  audit.Check: what is wrong with a record (rchk); strings.Fields and slices.Contains off the shelf.
  Package codec in plain words,lists in lists too: values as they stand in memory (Mv),what is wrong with them (chkM),their bytes (encM),what bytes say (decM),and that these fit.
  Layer 8 (tree) in plain words,1: a directory's bytes. No program is in sight.
  Package audit in plain words,lists in lists: a record as a value; what bytes say; what a query asks for. No program is in sight.
  A segment of a row that can be read. Over any program.
  A bag of rows: read only,and they may lie one in another. Over any program.
  Package codec's values,lists in lists too,in memory: to be read,among rows of a bag. No program is in sight.
  Package codec,lists in lists too: values made and copied.
  Package codec,lists in lists too: what is wrong with a value (chkM).
  Package codec: values made: Text,Int,Of; a leaf copied.
  Package codec: a writer; leaves and lists of leaves are written as encL and encT say.
  Package codec,lists in lists too: a right value is written as encM says; Encode.
  Package audit: Bytes,over values with lists in lists.
  Layer 27's example (known),over values with lists in lists.
  Layer 1 (block): what each function of package block does to a disk in memory.
  Layer 1 (block): New,Write,Flush.
-/
import Derived.Test.YtpbgaojjlepkcaaGreatDoorAbn4
import Derived.Test.YtpbgaojjlepkcaaGreatDoorAbn2
import Derived.Test.YtpbgaojjlepkcaaGreatDoorAbn3
namespace Cr
open Go Go.Proofs
set_option maxRecDepth 100000
set_option maxHeartbeats 64000000
attribute [local irreducible] Calls

def Sp (W : World) (F : Nat → Prop) : Prop := Ro W F (glob 0 (Lib.asciiSpaceTab.map fun z => Value.int .u8 z))
theorem Sp.at_ {W w : World} {F : Nat → Prop} {rs : List Res} (H : Sp W F) (hS : St W F rs w) : Sp w noF := (Ro.rd H hS).ro
def Zkb : List UInt8 := [105,110,115,116,97,108,108,32,114,101,102,114,101,115,104,32,114,101,118,101,114,116,32,114,101,109,111,118,101,32,99,111,110,110,101,99,116,32,100,105,115,99,111,110,110,101,99,116]
theorem Zo8 : ∀ b ∈ Zkb,b.toNat < 128 := by decide
theorem Znc : Lib.fields Zkb = words6 := by decide
theorem Z3d (W : World) (hT : Sp W noF) : Calls Tryz.prog 175 #[.string (str Zkb)] W (Ret fun v w => ∃ b,v = .slice (some ⟨b,0,none⟩) 6 6 ∧ St W noF [row (some ⟨b,0,none⟩) (words6.map sv)] w) := by
 have h := Tryz.strings_Fields_laid (str Zkb) W (by decide) (fun j b hb => Zo8 b (List.mem_of_getElem? (by simpa [str] using hb))) (Zn8 (by kernel_rfl) hT.start)
 have e : Lib.fields (str Zkb).data.toList = words6 := by rw [show (str Zkb).data.toList = Zkb by simp [str],Znc]
 rw [e] at h;refine h.mono ?_
 rintro e w ⟨rfl,rfl⟩
 refine ⟨_,rfl,_,rfl,?_⟩
 exact ((St.start W).alloc _).head Ztb
theorem Zxs (b : Nat) (x : List UInt8) (W : World) (hr : Rd W (row (some ⟨b,0,none⟩) (words6.map sv))) : Calls Tryz.prog 174 #[.slice (some ⟨b,0,none⟩) 6 6,.string (str x)] W (Ret fun v w => v = .bool (decide (x ∈ words6)) ∧ W = w) := by
 have h := Tryz.slices_Contains_string b 0 6 6 (words6.map str) (str x) W (by decide) (by decide) (fun j hj => ?_)
 ·refine h.mono ?_
  rintro e w ⟨rfl,rfl⟩
  refine ⟨_,rfl,?_,rfl⟩
  congr 1
  have : (Lib.containsS ((words6.map str).take 6) (str x) = true) ↔ x ∈ words6 := by
   rw [Lib.containsS_iff,List.take_of_length_le (by decide)]
   constructor
   ·intro h
    obtain ⟨y,hy,he⟩ := List.mem_map.1 h
    have := congrArg (fun z : ByteArray => z.data.toList) he
    obtain rfl : y = x := by simpa [str] using this
    exact hy
   ·exact fun h => List.mem_map.2 ⟨x,h,rfl⟩
  by_cases hx : x ∈ words6
  ·rw [decide_eq_true hx]; exact this.2 hx
  ·rw [decide_eq_false hx]
   cases hc : Lib.containsS ((words6.map str).take 6) (str x) with
   | false => rfl
   | true => exact absurd (this.1 hc) hx
 ·have hj6 : j < 6 := hj
  have h1 : (words6.map sv)[j]? = some (sv (words6.getD j [])) := by
   rw [List.getElem?_map,List.getElem?_eq_getElem (show j < words6.length from hj6),List.getD_eq_getElem?_getD,List.getElem?_eq_getElem (show j < words6.length from hj6)]; rfl
  have h2 : (words6.map str).getD j ByteArray.empty = str (words6.getD j []) := by
   rw [List.getD_eq_getElem?_getD,List.getElem?_map,List.getD_eq_getElem?_getD,List.getElem?_eq_getElem (show j < words6.length from hj6)]; rfl
  rw [h2];exact hr.cells j _ h1
theorem Zsk (r : Rec) (W : World) (hT : Sp W noF) : Calls Tryz.prog 112 #[.agg r.cells.toArray] W (Ret fun v w => v = .int .i64 (rchk r : Nat) ∧ St W noF [] w) := by
 have hS := St.start W
 have hC := fun b => Zxs b r.cmd
 have hN1 := Z1d r.pub
 have hN2 := Z1d r.pkg
 have hF := fun W h => Z3d W h
 by_cases h1 : r.cmd ∈ words6
 case neg =>
  simp only [decide_eq_false h1] at hC
  rw [show rchk r = 1 from if_neg h1];refine Zab Tryz.func112 rfl Tryz.ntmps112 rfl ?_
  repeat (first|refine Yea ?_|refine Yag ?_|refine Ya5 (fun _ _ hS _ => ?_)|refine Yed ?_|refine Yab ?_)
  refine Zam (.s 1 (.s 2 (.h 0 (.h 3 (.s 4 (.s 5 .nil)) .no) .no))) mixed (by kernel_rfl) rfl ?_
  have hS := hS.drew
  repeat (first|(refine Zae ?_;first|refine Ybe ?_|refine Ybk ?_|refine Yas ?_))
  refine Zaa _ rfl rfl rfl rfl rfl (hF _ (hT.at_ hS)) ?_
  rintro _ w ⟨b,rfl,hS'⟩
  replace hS := hS.plus hS';clear hS';repeat (first|(refine Zae ?_;first|refine Yas ?_)|(refine Zac ?_;first|refine Yaz ?_))
  refine Zaa 174 rfl rfl rfl rfl rfl (hC b _ (hS.rd (by simp))) ?_
  rintro _ _ ⟨rfl,rfl⟩
  repeat (first|refine Yea ?_|refine Yag ?_|refine Yek ?_|refine Yey ?_|(refine Zae ?_;first|refine Yay ?_|refine Ybm ?_|refine Zak rfl rfl (fun _ => Zoo rfl rfl) rfl rfl ?_)|(refine Zac ?_;first|refine Yaz ?_))
  exact ⟨rfl,hS.drops⟩
 case pos =>
  simp only [decide_eq_true h1] at hC
  refine Zab Tryz.func112 rfl Tryz.ntmps112 rfl ?_
  repeat (first|refine Yea ?_|refine Yag ?_|refine Ya5 (fun _ _ hS _ => ?_)|refine Yed ?_|refine Yab ?_)
  refine Zam (.s 1 (.s 2 (.h 0 (.h 3 (.s 4 (.s 5 .nil)) .no) .no))) mixed (by kernel_rfl) rfl ?_
  have hS := hS.drew
  repeat (first|(refine Zae ?_;first|refine Ybe ?_|refine Ybk ?_|refine Yas ?_))
  refine Zaa _ rfl rfl rfl rfl rfl (hF _ (hT.at_ hS)) ?_
  rintro _ w ⟨b,rfl,hS'⟩
  replace hS := hS.plus hS';clear hS';repeat (first|(refine Zae ?_;first|refine Yas ?_)|(refine Zac ?_;first|refine Yaz ?_))
  refine Zaa 174 rfl rfl rfl rfl rfl (hC b _ (hS.rd (by simp))) ?_
  rintro _ _ ⟨rfl,rfl⟩
  by_cases p1 : Zdp r.pub
  ·rw [decide_eq_true p1] at hN1
   by_cases p2 : Zdp r.pkg
   ·rw [decide_eq_true p2] at hN2
    have e : rchk r = if 0 ≤ r.rev ∧ r.rev ≤ 999999 ∧ 0 ≤ r.out ∧ r.out ≤ 19 then 0 else 2 := by unfold rchk; rw [if_pos h1,if_pos ⟨p1,p2⟩]
    repeat' (first|(refine Zad 176 rfl rfl rfl rfl rfl hS (hN1 _) ?_;rintro _ _ rfl hS)|(refine Zad 176 rfl rfl rfl rfl rfl hS (hN2 _) ?_;rintro _ _ rfl hS)|refine Yeu ?_|(refine X_id ?_;first|refine Yaf ?_|refine Yag ?_|refine Yan ?_|refine Ya8 ?_|refine Ya1 ?_|refine Ybd ?_|refine X_yl (Zjj rfl rfl rfl) rfl rfl ?_|refine X_yl (Zm1 rfl rfl rfl) rfl rfl ?_|refine Yap ?_)|refine Yez ?_|refine Yab ?_|refine Yaq ?_|refine Yaw ?_|refine Ya7 ?_|refine Yam ?_|(refine Zae ?_;first|refine Yay ?_|refine Ybm ?_|refine Ydd ?_)|(refine Zac ?_;first|refine Yaz ?_)|(refine Zct (d := 24) rfl ?_ ?_ <;> intro hd)|(refine Zct (d := 29) rfl ?_ ?_ <;> intro hd)|(refine Zct (d := 34) rfl ?_ ?_ <;> intro hd)|(refine Zd2 rfl ?_ ?_ <;> intro hd))
    all_goals
     refine ⟨?_,hS.drops⟩
     rw [e]
     first | (rw [if_pos (by omega)]; rfl) | (rw [if_neg (by omega)]; rfl)
   ·rw [decide_eq_false p2] at hN2
    rw [show rchk r = 10 by unfold rchk; rw [if_pos h1,if_neg (fun q => p2 q.2)]]
    repeat (first|refine Yer ?_|(refine X_id ?_;first|(refine Zad 176 rfl rfl rfl rfl rfl hS (hN1 _) ?_;rintro _ _ rfl hS)|(refine Zad 176 rfl rfl rfl rfl rfl hS (hN2 _) ?_;rintro _ _ rfl hS)|refine Yaf ?_|refine Yag ?_|refine Yan ?_|refine Ya1 ?_|refine Ybd ?_|refine Ybq ?_|refine Yap ?_)|refine Ye0 ?_|refine Yey ?_|(refine Zae ?_;first|refine Yay ?_|refine Ybm ?_|refine Ydd ?_)|(refine Zac ?_;first|refine Yaz ?_))
    exact ⟨rfl,hS.drops⟩
  ·rw [decide_eq_false p1] at hN1
   rw [show rchk r = 10 by unfold rchk; rw [if_pos h1,if_neg (fun q => p1 q.1)]]
   repeat (first|refine Yep ?_|(refine X_id ?_;first|(refine Zad 176 rfl rfl rfl rfl rfl hS (hN1 _) ?_;rintro _ _ rfl hS)|refine Yaf ?_|refine Yag ?_|refine Yan ?_|refine Ya8 ?_|refine Ybq ?_|refine Yap ?_)|refine Ye0 ?_|refine Yey ?_|(refine Zae ?_;first|refine Yay ?_|refine Ybm ?_|refine Ydd ?_)|(refine Zac ?_;first|refine Yaz ?_))
   exact ⟨rfl,hS.drops⟩
end Cr
namespace Cr
open Go
set_option maxHeartbeats 64000000

inductive Mv where
 | mk (k n : Int) (b : List UInt8) (l : List Mv)
 deriving Inhabited
abbrev nuM (n : Int) : Mv := .mk 0 n [] []
abbrev txM (b : List UInt8) : Mv := .mk 1 0 b []
abbrev liM (l : List Mv) : Mv := .mk 2 0 [] l
def Mv.kind : Mv → Int | .mk k _ _ _ => k
def Mv.num : Mv → Int | .mk _ n _ _ => n
def Mv.txt : Mv → List UInt8 | .mk _ _ b _ => b
def Mv.lst : Mv → List Mv | .mk _ _ _ l => l
def Zdy : Nat → Mv → Mv
 | 0,.mk k n b _ => .mk k n b []
 | d + 1,.mk k n b l => .mk k n b (l.map (Zdy d))
def kdM (k n : Int) (b : List UInt8) (l : List Mv) : Bool :=
 (decide (k = 0) && b.isEmpty && l.isEmpty) || (decide (k = 1) && decide (n = 0) && l.isEmpty) || (decide (k = 2) && decide (n = 0) && b.isEmpty)
def Zh3 : List Int → Int
 | [] => 0
 | e :: r => if e = 0 then Zh3 r else e
def chkM : Nat → Mv → Int
 | 0,.mk k n b l => if kdM k n b l = true then (if k = 2 then 18 else 0) else 17
 | m + 1,.mk k n b l => if kdM k n b l = true then Zh3 (l.map (chkM m)) else 17
theorem Zg9 : ∀ {l : List Int},Zh3 l = 0 ↔ ∀ e ∈ l,e = 0
 | [] => by simp [Zh3]
 | e :: r => by
  unfold Zh3
  split
  ·rename_i h; rw [Zg9]; simp [h]
  ·rename_i h; simp [h]
mutual
def encM : Mv → List UInt8
 | .mk k n b l => if k = 0 then 105 :: Lib.itoa n ++ [59] else if k = 1 then Lib.itoa (b.length : Nat) ++ 58 :: b else 40 :: Zaz l ++ [41]
def Zaz : List Mv → List UInt8
 | [] => []
 | x :: l => encM x ++ Zaz l
end
mutual
def fitM : Mv → Prop
 | .mk _ n b l => (-9223372036854775808 ≤ n ∧ n ≤ 9223372036854775807) ∧ b.length ≤ 9223372036854775807 ∧ Zda l
def Zda : List Mv → Prop
 | [] => True
 | x :: l => fitM x ∧ Zda l
end
theorem Zf7 : ∀ (l m : List Mv),Zaz (l ++ m) = Zaz l ++ Zaz m
 | [],m => by simp [Zaz]
 | x :: l,m => by rw [List.cons_append,Zaz,Zaz,Zf7 l m,List.append_assoc]
theorem fitMs_mem : ∀ {l : List Mv},Zda l ↔ ∀ x ∈ l,fitM x
 | [] => by simp [Zda]
 | x :: l => by rw [Zda,fitMs_mem]; simp
theorem Zcq (n : Int) (b : List UInt8) (l : List Mv) : encM (.mk 0 n b l) = 105 :: Lib.itoa n ++ [59] := by rw [encM,if_pos rfl]
theorem Zbx (n : Int) (b : List UInt8) (l : List Mv) : encM (.mk 1 n b l) = Lib.itoa (b.length : Nat) ++ 58 :: b := by rw [encM,if_neg (by decide),if_pos rfl]
theorem Zbl (n : Int) (b : List UInt8) (l : List Mv) : encM (.mk 2 n b l) = 40 :: Zaz l ++ [41] := by rw [encM,if_neg (by decide),if_neg (by decide)]
mutual
def wM : Mv → Nat
 | .mk _ _ b l => 1 + b.length + wMs l
def wMs : List Mv → Nat
 | [] => 0
 | x :: l => wM x + wMs l
end
theorem Zfs (k n : Int) (b : List UInt8) (l : List Mv) : wM (.mk k n b l) = 1 + b.length + wMs l := by rw [wM]
theorem Zig : ∀ {l : List Mv} {x : Mv},x ∈ l → wM x ≤ wMs l
 | y :: l,x,h => by
  rw [wMs];rcases List.mem_cons.1 h with rfl | h
  ·omega
  ·have := Zig h; omega
theorem Zih : ∀ (l : List Mv),l.length ≤ wMs l
 | [] => by simp
 | ⟨k,n,b,m⟩ :: l => by
  rw [wMs,Zfs];have := Zih l
  simp only [List.length_cons]; omega
theorem Zp8 {k n : Int} {b : List UInt8} {l : List Mv} (h : kdM k n b l = true) : (k = 0 ∧ b = [] ∧ l = []) ∨ (k = 1 ∧ n = 0 ∧ l = []) ∨ (k = 2 ∧ n = 0 ∧ b = []) := by
 unfold kdM at h
 simp only [Bool.or_eq_true,Bool.and_eq_true,decide_eq_true_eq,List.isEmpty_iff] at h
 rcases h with (⟨⟨h1,h2⟩,h3⟩ | ⟨⟨h1,h2⟩,h3⟩) | ⟨⟨h1,h2⟩,h3⟩
 ·exact .inl ⟨h1,h2,h3⟩
 ·exact .inr (.inl ⟨h1,h2,h3⟩)
 ·exact .inr (.inr ⟨h1,h2,h3⟩)
theorem Z3j {m : Nat} {k n : Int} {b : List UInt8} {l : List Mv} (h : chkM m (.mk k n b l) = 0) : kdM k n b l = true := by
 cases m <;> (rw [chkM] at h; split at h; assumption; cases h)
theorem Za8 {m : Nat} {v : Mv} (h : chkM m v = 0) : (∃ n,v = nuM n) ∨ (∃ b,v = txM b) ∨ ∃ l m',v = liM l ∧ m = m' + 1 ∧ ∀ x ∈ l,chkM m' x = 0 := by
 obtain ⟨k,n,b,l⟩ := v
 rcases Zp8 (Z3j h) with ⟨rfl,rfl,rfl⟩ | ⟨rfl,rfl,rfl⟩ | ⟨rfl,rfl,rfl⟩
 ·exact .inl ⟨n,rfl⟩
 ·exact .inr (.inl ⟨b,rfl⟩)
 ·refine .inr (.inr ?_)
  cases m with
  | zero => rw [chkM,if_pos (by rfl),if_pos rfl] at h; cases h
  | succ m =>
   rw [chkM,if_pos (by rfl),Zg9] at h;exact ⟨l,m,rfl,rfl,fun x hx => h _ (List.mem_map.2 ⟨x,hx,rfl⟩)⟩
theorem Zh7 {m : Nat} {l : List Mv} (h : ∀ x ∈ l,chkM m x = 0) : chkM (m + 1) (liM l) = 0 := by
 rw [chkM,if_pos (by rfl),Zg9];intro e he
 obtain ⟨x,hx,rfl⟩ := List.mem_map.1 he
 exact h x hx
theorem Zj1 (m : Nat) (n : Int) : chkM m (nuM n) = 0 := by cases m <;> rfl
theorem Zdz (m : Nat) (b : List UInt8) : chkM m (txM b) = 0 := by cases m <;> rfl
theorem Zoh : ∀ (m : Nat) (v : Mv),chkM m v = 0 → Zdy m v = v
 | 0,v,h => by
  rcases Za8 h with ⟨n,rfl⟩ | ⟨b,rfl⟩ | ⟨l,m',_,h',_⟩
  ·rfl
  ·rfl
  ·cases h'
 | m + 1,v,h => by
  rcases Za8 h with ⟨n,rfl⟩ | ⟨b,rfl⟩ | ⟨l,m',rfl,h',hl⟩
  ·rfl
  ·rfl
  ·obtain rfl : m = m' := by omega
   show Mv.mk 2 0 [] (l.map (Zdy m)) = _
   congr 1
   conv => rhs; rw [← List.map_id l]
   exact List.map_congr_left fun x hx => Zoh m x (hl x hx)

theorem Zon {s : List UInt8} {v : Int} (h : Lib.atoiAll s = .ok v) : -9223372036854775808 ≤ v ∧ v ≤ 9223372036854775807 := by
 cases s with
 | nil => cases h
 | cons c r =>
  unfold Lib.atoiAll at h
  simp only at h
  generalize Lib.parseMag _ = p at h;rcases p with u | _ | _
  ·simp only at h
   split at h
   ·cases h
   ·split at h
    ·cases h
    ·injection h with h
     rename_i h1 h2
     split at h <;> omega
  ·cases h
  ·cases h
theorem Zpv {below : Bool} {e : UInt8} {l r : List UInt8} {v : Int} (h : num below e l = some (v,r)) : -9223372036854775808 ≤ v ∧ v ≤ 9223372036854775807 := Zon (Zhu h).2.2
/-! ### reading -/
mutual
def pvM : Nat → Nat → List UInt8 → Option (Mv × List UInt8)
 | 0,_,_ => none
 | _ + 1,_,[] => none
 | f + 1,deep,c :: r =>
  if c = 40 then
   if 8 < deep then none else
   match plM f deep r with
   | some (x,r') => some (liM x,r')
   | none => none
  else if c = 105 then
   match num true 59 r with
   | some (v,r') => some (nuM v,r')
   | none => none
  else
   match num false 58 (c :: r) with
   | some (v,r') => if v.toNat ≤ r'.length then some (txM (r'.take v.toNat),r'.drop v.toNat) else none
   | none => none
def plM : Nat → Nat → List UInt8 → Option (List Mv × List UInt8)
 | 0,_,_ => none
 | _ + 1,_,[] => none
 | f + 1,deep,c :: r =>
  if c = 41 then some ([],r) else
  match pvM f (deep + 1) (c :: r) with
  | none => none
  | some (t,r') =>
   match plM f deep r' with
   | none => none
   | some (x,r'') => some (t :: x,r'')
end
theorem Z4u (f : Nat) : (∀ deep l t r,pvM f deep l = some (t,r) → r.length < l.length) ∧ (∀ deep l x r,plM f deep l = some (x,r) → r.length < l.length) := by
 induction f with
 | zero => exact ⟨fun _ _ _ _ h => by simp [pvM] at h,fun _ _ _ _ h => by simp [plM] at h⟩
 | succ f ih =>
  obtain ⟨ihv,ihl⟩ := ih
  refine ⟨fun deep l t r h => ?_,fun deep l x r h => ?_⟩
  ·cases l with
   | nil => simp [pvM] at h
   | cons c l =>
    rw [pvM] at h
    split at h
    ·split at h
     ·cases h
     ·split at h
      ·rename_i x r' hp
       have := ihl _ _ _ _ hp
       obtain ⟨_,rfl⟩ : _ ∧ r' = r := by simpa using h
       simp; omega
      ·cases h
    ·split at h
     ·split at h
      ·rename_i v r' hp
       have := Zwt hp
       obtain ⟨_,rfl⟩ : _ ∧ r' = r := by simpa using h
       simp; omega
      ·cases h
     ·split at h
      ·rename_i v r' hp
       have := Zwt hp
       split at h
       ·obtain ⟨_,rfl⟩ : _ ∧ r'.drop v.toNat = r := by simpa using h
        simp at this ⊢; omega
       ·cases h
      ·cases h
  ·cases l with
   | nil => simp [plM] at h
   | cons c l =>
    rw [plM] at h
    split at h
    ·obtain ⟨_,rfl⟩ : _ ∧ l = r := by simpa using h
     simp
    ·split at h
     ·cases h
     ·rename_i t r' hp
      have h1 := ihv _ _ _ _ hp
      split at h
      ·cases h
      ·rename_i x' r'' hp'
       have h2 := ihl _ _ _ _ hp'
       obtain ⟨_,rfl⟩ : _ ∧ r'' = r := by simpa using h
       omega
theorem Zzv (f : Nat) : (∀ deep m l t r,deep + m = 9 → pvM f deep l = some (t,r) → l = encM t ++ r ∧ chkM m t = 0 ∧ fitM t) ∧ (∀ deep m l x r,deep + m = 8 → plM f deep l = some (x,r) → l = Zaz x ++ 41 :: r ∧ (∀ t ∈ x,chkM m t = 0) ∧ Zda x) := by
 induction f with
 | zero => exact ⟨fun _ _ _ _ _ _ h => by simp [pvM] at h,fun _ _ _ _ _ _ h => by simp [plM] at h⟩
 | succ f ih =>
  obtain ⟨ihv,ihl⟩ := ih
  refine ⟨fun deep m l t r hm h => ?_,fun deep m l x r hm h => ?_⟩
  ·cases l with
   | nil => simp [pvM] at h
   | cons c l =>
    rw [pvM] at h
    split at h
    ·rename_i hc
     split at h
     ·cases h
     ·rename_i hd
      split at h
      ·rename_i x r' hp
       obtain ⟨m,rfl⟩ : ∃ k,m = k + 1 := ⟨m - 1,by omega⟩
       obtain ⟨h1,h2,h3⟩ := ihl deep m l x r' (by omega) hp
       obtain ⟨rfl,rfl⟩ : liM x = t ∧ r' = r := by simpa using h
       refine ⟨?_,Zh7 h2,by rw [fitM]; exact ⟨⟨by omega,by omega⟩,by simp,h3⟩⟩
       rw [Zbl,hc,h1]; simp
      ·cases h
    ·split at h
     ·rename_i hc
      split at h
      ·rename_i v r' hp
       obtain ⟨rfl,rfl⟩ : nuM v = t ∧ r' = r := by simpa using h
       refine ⟨?_,Zj1 _ _,?_⟩
       ·rw [Zcq,hc,Zpw hp]; simp
       ·rw [fitM]; exact ⟨Zpv hp,by simp,by rw [Zda]; trivial⟩
      ·cases h
     ·split at h
      ·rename_i v r' hp
       split at h
       ·rename_i hle
        obtain ⟨rfl,rfl⟩ : txM (r'.take v.toNat) = t ∧ r'.drop v.toNat = r := by simpa using h
        have h0 := Zmc hp
        have hr := Zpv hp
        refine ⟨?_,Zdz _ _,?_⟩
        ·rw [Zbx,Zpw hp]
         simp only [List.length_take]
         rw [show ((min v.toNat r'.length : Nat) : Int) = v by omega]
         simp
        ·rw [fitM]; exact ⟨⟨by omega,by omega⟩,by simp; omega,by rw [Zda]; trivial⟩
       ·cases h
      ·cases h
  ·cases l with
   | nil => simp [plM] at h
   | cons c l =>
    rw [plM] at h
    split at h
    ·rename_i hc
     obtain ⟨rfl,rfl⟩ : [] = x ∧ l = r := by simpa using h
     refine ⟨by rw [hc,Zaz]; rfl,fun t ht => (by cases ht),by rw [Zda]; trivial⟩
    ·split at h
     ·cases h
     ·rename_i t r' hp
      obtain ⟨h1,h2,h3⟩ := ihv (deep + 1) m _ t r' (by omega) hp
      split at h
      ·cases h
      ·rename_i x' r'' hp'
       obtain ⟨h4,h5,h6⟩ := ihl deep m _ x' r'' hm hp'
       obtain ⟨rfl,rfl⟩ : t :: x' = x ∧ r'' = r := by simpa using h
       refine ⟨by rw [h1,h4,Zaz]; simp,fun y hy => ?_,by rw [Zda]; exact ⟨h3,h6⟩⟩
       rcases List.mem_cons.1 hy with rfl | hy
       ·exact h2
       ·exact h5 y hy
theorem Zof {m : Nat} {v : Mv} (h : chkM m v = 0) : 2 ≤ (encM v).length := by
 rcases Za8 h with ⟨n,rfl⟩ | ⟨b,rfl⟩ | ⟨l,m',rfl,_,_⟩
 ·rw [Zcq]; simp
 ·rw [Zbx]
  obtain ⟨c,l,hc,_⟩ := Zp9 (u := b.length)
  rw [hc]; simp; omega
 ·rw [Zbl]; simp
theorem Z4v (f : Nat) : (∀ deep m v r,deep + m = 9 → chkM m v = 0 → fitM v → 2 * (encM v).length ≤ f → ∃ c t,encM v ++ r = c :: t ∧ c ≠ 41 ∧ pvM f deep (encM v ++ r) = some (v,r)) ∧
  (∀ deep m l r,deep + m = 8 → (∀ x ∈ l,chkM m x = 0) → Zda l → 2 * (Zaz l).length + 1 ≤ f → plM f deep (Zaz l ++ 41 :: r) = some (l,r)) := by
 induction f with
 | zero =>
  refine ⟨fun deep m v r _ hc _ hf => ?_,fun _ _ _ _ _ _ _ hf => by omega⟩
  have := Zof hc; omega
 | succ f ih =>
  obtain ⟨ihv,ihl⟩ := ih
  refine ⟨fun deep m v r hm hc hfit hf => ?_,fun deep m l r hm hc hfit hf => ?_⟩
  ·rcases Za8 hc with ⟨n,rfl⟩ | ⟨b,rfl⟩ | ⟨l,m',rfl,rfl,hl⟩
   ·rw [fitM] at hfit
    refine ⟨105,Lib.itoa n ++ 59 :: r,by rw [Zcq]; simp,by decide,?_⟩
    rw [show encM (nuM n) ++ r = 105 :: (Lib.itoa n ++ 59 :: r) by rw [Zcq]; simp,pvM,if_neg (by decide),if_pos rfl,Zti hfit.1.1 hfit.1.2 (.inl rfl) (by decide)]
   ·rw [fitM] at hfit
    obtain ⟨c,l,hc,hd⟩ := Zp9 (u := b.length)
    have hd' := dig_iff.1 hd
    have e : encM (txM b) ++ r = c :: (l ++ 58 :: (b ++ r)) := by rw [Zbx,hc]; simp
    have e2 : c :: (l ++ 58 :: (b ++ r)) = Lib.itoa (b.length : Nat) ++ 58 :: (b ++ r) := by rw [hc]; simp
    have ne : ∀ k : Nat,k < 48 ∨ 57 < k → k < 256 → c ≠ UInt8.ofNat k := fun k hk hk2 h => by
     have := congrArg UInt8.toNat h
     rw [UInt8.toNat_ofNat',Nat.mod_eq_of_lt hk2] at this;omega
    refine ⟨c,l ++ 58 :: (b ++ r),e,ne 41 (by omega) (by omega),?_⟩
    rw [e,pvM,if_neg (show ¬ c = 40 from ne 40 (by omega) (by omega)),if_neg (show ¬ c = 105 from ne 105 (by omega) (by omega)),e2,Zti (by omega) (by omega) (.inr (by omega)) (by decide)];simp only [Int.toNat_natCast]
    rw [if_pos (by simp),List.take_left,List.drop_left]
   ·rw [fitM] at hfit
    rw [Zbl] at hf ⊢;simp only [List.length_cons,List.length_append,List.length_nil] at hf
    refine ⟨40,Zaz l ++ 41 :: r,by simp,by decide,?_⟩
    rw [show 40 :: Zaz l ++ [41] ++ r = 40 :: (Zaz l ++ 41 :: r) by simp,pvM,if_pos rfl,if_neg (by omega),ihl deep m' l r (by omega) hl hfit.2.2 (by omega)]
  ·cases l with
   | nil => rw [show Zaz [] ++ 41 :: r = 41 :: r by rw [Zaz]; rfl,plM,if_pos rfl]
   | cons x l =>
    rw [Zda] at hfit;rw [Zaz] at hf ⊢;rw [List.length_append] at hf;have hx := hc x (List.mem_cons_self ..)
    have hp := Zof hx
    obtain ⟨c,t,h1,h2,h3⟩ := ihv (deep + 1) m x (Zaz l ++ 41 :: r) (by omega) hx hfit.1 (by omega)
    rw [List.append_assoc,h1,plM,if_neg h2,← h1,h3];simp only
    rw [ihl deep m l r hm (fun y hy => hc y (List.mem_cons_of_mem _ hy)) hfit.2 (by omega)]
def decM (b : List UInt8) : Option Mv :=
 match pvM (2 * b.length + 1) 1 b with
 | some (t,[]) => some t
 | _ => none
theorem Ziy {b : List UInt8} {v : Mv} (h : decM b = some v) : b = encM v ∧ chkM 8 v = 0 ∧ fitM v := by
 unfold decM at h
 split at h
 ·rename_i t hp
  injection h with h
  subst h
  have := (Zzv _).1 1 8 _ _ _ rfl hp
  rwa [List.append_nil] at this
 ·cases h
theorem Zt6 {v : Mv} (h : chkM 8 v = 0) (hf : fitM v) : decM (encM v) = some v := by
 obtain ⟨_,_,_,_,h3⟩ := (Z4v (2 * (encM v).length + 1)).1 1 8 v [] rfl h hf (by omega)
 rw [List.append_nil] at h3;unfold decM
 rw [h3]
abbrev Nm := List UInt8 × Int
def Zfa (x : Nm) : Mv := liM [txM x.1,nuM x.2]
def dirM (l : List Nm) : Mv := liM (l.map Zfa)
def wrD (l : List Nm) : List UInt8 := encM (dirM l)
def Zf8 (x : Mv) : Option Nm := match x.lst with
 | [a,b] => some (a.txt,b.num)
 | _ => none
def rdV (v : Mv) : List Nm := v.lst.filterMap Zf8
def rdD (b : List UInt8) : List Nm := match decM b with
 | some v => rdV v
 | none => []
def NmOk (l : List Nm) : Prop := l.length ≤ 1024 ∧ ∀ x ∈ l,x.1.length ≤ 64 ∧ 0 ≤ x.2 ∧ x.2 ≤ 1000000
theorem Zk7 (x : Nm) (m : Nat) : chkM (m + 1) (Zfa x) = 0 := Zh7 fun y hy => by
 simp only [List.mem_cons,List.not_mem_nil,or_false] at hy
 rcases hy with rfl | rfl
 ·exact Zdz _ _
 ·exact Zj1 _ _
theorem Zt9 (l : List Nm) : chkM 8 (dirM l) = 0 := Zh7 fun y hy => by
 obtain ⟨x,_,rfl⟩ := List.mem_map.1 hy
 exact Zk7 x _
theorem Zxg {x : Nm} (h : x.1.length ≤ 64 ∧ 0 ≤ x.2 ∧ x.2 ≤ 1000000) : fitM (Zfa x) := by
 rw [Zfa,fitM,Zda,Zda,Zda,fitM,fitM,Zda];refine ⟨by omega,by simp,⟨by omega,by omega,trivial⟩,⟨by omega,by simp,trivial⟩,trivial⟩
theorem Zt1 {l : List Nm} (h : ∀ x ∈ l,x.1.length ≤ 64 ∧ 0 ≤ x.2 ∧ x.2 ≤ 1000000) : fitM (dirM l) := by
 rw [dirM,fitM,fitMs_mem];refine ⟨by omega,by simp,fun y hy => ?_⟩
 obtain ⟨x,hx,rfl⟩ := List.mem_map.1 hy
 exact Zxg (h x hx)
theorem Zzr (l : List Nm) : rdV (dirM l) = l := by
 show List.filterMap Zf8 (l.map Zfa) = l
 rw [List.filterMap_map];have : (Zf8 ∘ Zfa) = some := by funext x; rfl
 rw [this,List.filterMap_some]
theorem Zwo {l : List Nm} (h : ∀ x ∈ l,x.1.length ≤ 64 ∧ 0 ≤ x.2 ∧ x.2 ≤ 1000000) : rdD (wrD l) = l := by
 unfold rdD wrD
 rw [Zt6 (Zt9 l) (Zt1 h)];exact Zzr l
theorem Zs5 : ∀ (k u : Nat),u < 10 ^ (k + 1) → (Lib.decDigits u).length ≤ k + 1
 | 0,u,h => by rw [Lib.decDigits_one (by simpa using h)]; simp
 | k + 1,u,h => by
  rw [Lib.decDigits];by_cases h' : u < 10
  ·rw [dif_pos h']; simp
  ·rw [dif_neg h',List.length_append]
   have := Zs5 k (u / 10) (by rw [Nat.pow_succ] at h; omega)
   simp; omega
theorem Zcb {n : Int} (h0 : 0 ≤ n) (h1 : n ≤ 1000000) : (Lib.itoa n).length ≤ 7 := by
 obtain ⟨u,rfl⟩ : ∃ u : Nat,n = u := ⟨n.toNat,by omega⟩
 rw [Zex]; exact Zs5 6 u (by omega)
theorem Zxn {x : Nm} (h : x.1.length ≤ 64 ∧ 0 ≤ x.2 ∧ x.2 ≤ 1000000) : (encM (Zfa x)).length ≤ 83 := by
 have h1 := Zcb (n := (x.1.length : Nat)) (by omega) (by omega)
 have h2 := Zcb h.2.1 h.2.2
 rw [Zfa,Zbl,Zaz,Zaz,Zaz,Zbx,Zcq];simp only [List.length_cons,List.length_append,List.length_nil]
 omega
theorem Zmt : ∀ {l : List Nm},(∀ x ∈ l,x.1.length ≤ 64 ∧ 0 ≤ x.2 ∧ x.2 ≤ 1000000) → (Zaz (l.map Zfa)).length ≤ 83 * l.length
 | [],_ => by simp [Zaz]
 | x :: l,h => by
  have h1 := Zxn (h x (List.mem_cons_self ..))
  have h2 := Zmt fun y hy => h y (List.mem_cons_of_mem _ hy)
  rw [List.map_cons,Zaz,List.length_append,List.length_cons]; omega
theorem Zrg {l : List Nm} (h : NmOk l) : (wrD l).length ≤ 84994 := by
 have := Zmt h.2
 have := h.1
 rw [wrD,dirM,Zbl];simp only [List.length_cons,List.length_append,List.length_nil]; omega
theorem Zy2 (x : Nm) : wM (Zfa x) = 3 + x.1.length := by
 simp only [Zfa,Zfs,wMs,List.length_nil]; omega
theorem Zsz : ∀ {l : List Nm},(∀ x ∈ l,x.1.length ≤ 64) → wMs (l.map Zfa) ≤ 67 * l.length
 | [],_ => by simp [wMs]
 | x :: l,h => by
  have h1 := h x (List.mem_cons_self ..)
  have h2 := Zsz fun y hy => h y (List.mem_cons_of_mem _ hy)
  rw [List.map_cons,wMs,Zy2,List.length_cons]; omega
theorem Z12 {l : List Nm} (h : NmOk l) : wM (dirM l) ≤ 1048576 := by
 have := Zsz (l := l) fun x hx => (h.2 x hx).1
 have := h.1
 rw [dirM,Zfs]; simp only [List.length_nil]; omega
theorem Zjz {m : Nat} : ∀ {l : List Mv},(∀ x ∈ l,chkM m x = 0) → 2 * l.length ≤ (Zaz l).length
 | [],_ => by simp
 | x :: l,h => by
  have h1 := Zof (h x (List.mem_cons_self ..))
  have h2 := Zjz (m := m) fun y hy => h y (List.mem_cons_of_mem _ hy)
  rw [Zaz,List.length_append,List.length_cons]; omega
theorem Zmx {s : List UInt8} {v : Mv} (h : decM s = some v) : 2 * v.lst.length ≤ s.length := by
 obtain ⟨rfl,hc,_⟩ := Ziy h
 rcases Za8 hc with ⟨n,rfl⟩ | ⟨b,rfl⟩ | ⟨l,m',rfl,_,hl⟩
 ·simp [Mv.lst]
 ·simp [Mv.lst]
 ·have := Zjz hl
  rw [Zbl]; simp [Mv.lst]; omega
def recM (r : Rec) : Mv := liM [txM r.cmd,txM r.pub,txM r.pkg,nuM r.rev,nuM r.out]
theorem Zzp (r : Rec) : chkM 8 (recM r) = 0 := Zh7 fun x hx => by
 simp only [List.mem_cons,List.not_mem_nil,or_false] at hx
 rcases hx with rfl | rfl | rfl | rfl | rfl
 ·exact Zdz _ _
 ·exact Zdz _ _
 ·exact Zdz _ _
 ·exact Zj1 _ _
 ·exact Zj1 _ _
theorem Zzo {r : Rec} (h : rchk r = 0) : fitM (recM r) := by
 obtain ⟨h1,h2,h3,h4,h5,h6,h7⟩ := Zrv h
 rw [recM,fitM,Zda,Zda,Zda,Zda,Zda,Zda,fitM,fitM,fitM,fitM,fitM,Zda];exact ⟨by omega,by simp,⟨by omega,by omega,trivial⟩,⟨by omega,by omega,trivial⟩,⟨by omega,by omega,trivial⟩,⟨by omega,by simp,trivial⟩,⟨by omega,by simp,trivial⟩,trivial⟩
theorem Znx {r : Rec} (h : rchk r = 0) : (encM (recM r)).length ≤ 200 := by
 obtain ⟨h1,h2,h3,h4,h5,h6,h7⟩ := Zrv h
 have i1 := Zcb (n := (r.cmd.length : Nat)) (by omega) (by omega)
 have i2 := Zcb (n := (r.pub.length : Nat)) (by omega) (by omega)
 have i3 := Zcb (n := (r.pkg.length : Nat)) (by omega) (by omega)
 have i4 := Zcb (n := r.rev) (by omega) (by omega)
 have i5 := Zcb (n := r.out) (by omega) (by omega)
 rw [recM,Zbl,Zaz,Zaz,Zaz,Zaz,Zaz,Zaz,Zbx,Zbx,Zbx,Zcq,Zcq];simp only [List.length_cons,List.length_append,List.length_nil]
 omega
theorem Z1b {r : Rec} (h : rchk r = 0) : wM (recM r) ≤ 1000 := by
 obtain ⟨h1,h2,h3,_⟩ := Zrv h
 simp only [recM,Zfs,wMs,List.length_nil]; omega
def Zg5 : Mv → Option Rec
 | .mk 2 0 [] [.mk 1 0 c [],.mk 1 0 p [],.mk 1 0 k [],.mk 0 n [] [],.mk 0 o [] []] => if rchk ⟨c,p,k,n,o⟩ = 0 then some ⟨c,p,k,n,o⟩ else none
 | _ => none
theorem Rd.cellsX {w : World} {a : Option Addr} {cs seg : List Value} {i' i n : Nat} (H : Rd w (Cr.row a cs)) (hi : i' = i) (h : (cs.drop i).take n = seg) (hn : seg.length = n) : Zcp w (adr a i') n seg := by
 subst hi; subst h
 exact ⟨H.seg _ _,hn⟩
theorem Sep.merge {r s t : Res} {rs : List Res} {h : Frag} (H : Sep (r :: s :: rs) h) (hm : ∀ h1 h3,r h1 → s h3 → (∀ k,h1 k = none ∨ h3 k = none) → t (fun k => (h1 k).or (h3 k))) : Sep (t :: rs) h := by
 obtain ⟨h1,h2,a,⟨h3,h4,b,c,d',u'⟩,d,u⟩ := H
 refine ⟨fun k => (h1 k).or (h3 k),h4,hm h1 h3 a b fun k => ?_,c,fun k => ?_,fun k => ?_⟩
 ·rcases d k with e | e
  ·exact .inl e
  ·rw [u'] at e; simp at e; exact .inr e.1
 ·rcases d k with e | e
  ·rcases d' k with e' | e'
   ·left; simp [e,e']
   ·exact .inr e'
  ·rw [u'] at e; simp at e; exact .inr e.2
 ·rw [u,u']; cases e1 : h1 k <;> simp [e1]
theorem St.merge {W : World} {F : Nat → Prop} {r s t : Res} {rs : List Res} {w : World} (hS : St W F (r :: s :: rs) w) (hm : ∀ h1 h3,r h1 → s h3 → (∀ k,h1 k = none ∨ h3 k = none) → t (fun k => (h1 k).or (h3 k))) : St W F (t :: rs) w :=
 hS.imp fun _ h => h.merge hm
abbrev RowD := Option Addr × List Value
def bag (X : List RowD) : Res := fun h => ∀ x ∈ X,∃ h',row x.1 x.2 h' ∧ ∀ b o,h' b = some o → h b = some o
theorem Ro.bag {W : World} {F : Nat → Prop} {X : List RowD} (H : Ro W F (Cr.bag X)) {x : RowD} (hx : x ∈ X) : Ro W F (row x.1 x.2) := H.mono fun _ hh => hh x hx
theorem Rd.bag {w : World} {X : List RowD} (H : Rd w (Cr.bag X)) {x : RowD} (hx : x ∈ X) : Rd w (row x.1 x.2) := H.mono fun _ hh => hh x hx
theorem Z3o (h : Frag) : bag [] h := fun x hx => by cases hx
section
variable {W : World} {F : Nat → Prop} {rs : List Res} {w : World}
theorem St.bagSub {X Y : List RowD} (hS : St W F (bag X :: rs) w) (h : ∀ x ∈ Y,x ∈ X) : St W F (bag Y :: rs) w := hS.head fun _ hg x hx => hg x (h x hx)
theorem St.bagNil (hS : St W F rs w) : St W F (bag [] :: rs) w := by
 obtain ⟨h,hs,s⟩ := hS
 exact ⟨h,⟨fun _ => none,h,Z3o _,hs,fun _ => .inl rfl,fun _ => by simp⟩,s⟩
theorem Zws {h1 h3 : Frag} {b : Nat} {o : Obj} (e : h1 b = some o) : (h1 b).or (h3 b) = some o := by rw [e]; rfl
theorem Ztg {h1 h3 : Frag} (d : ∀ k,h1 k = none ∨ h3 k = none) {b : Nat} {o : Obj} (e : h3 b = some o) : (h1 b).or (h3 b) = some o := by
 rcases d b with e' | e'
 ·rw [e',e]; rfl
 ·rw [e'] at e; cases e
theorem St.bagJoin {X Y : List RowD} (hS : St W F (bag X :: bag Y :: rs) w) : St W F (bag (X ++ Y) :: rs) w :=
 hS.merge fun h1 h3 a b d x hx => by
  rcases List.mem_append.1 hx with hx | hx
  ·obtain ⟨h',hr,hs⟩ := a x hx
   exact ⟨h',hr,fun b o e => Zws (hs b o e)⟩
  ·obtain ⟨h',hr,hs⟩ := b x hx
   exact ⟨h',hr,fun b o e => Ztg d (hs b o e)⟩
theorem St.toBag {r : Res} {a : Option Addr} {cs : List Value} (hS : St W F (r :: rs) w) (hr : ∀ h,r h → row a cs h) : St W F (bag [(a,cs)] :: rs) w :=
 hS.head fun h hg x hx => by
  rw [List.mem_singleton] at hx; subst hx
  exact ⟨h,hr h hg,fun _ _ e => e⟩
theorem St.bagAdd {r : Res} {a : Option Addr} {cs : List Value} {X : List RowD} (hS : St W F (r :: bag X :: rs) w) (hr : ∀ h,r h → row a cs h) : St W F (bag ((a,cs) :: X) :: rs) w :=
 (hS.toBag hr).bagJoin
theorem St.bagPart {X : List RowD} {a a' : Option Addr} {cs cs' : List Value} (hS : St W F (bag X :: rs) w) (hx : (a,cs) ∈ X) (hp : ∀ h,row a cs h → ∃ h',row a' cs' h' ∧ ∀ b o,h' b = some o → h b = some o) : St W F (bag ((a',cs') :: X) :: rs) w :=
 hS.head fun h hg x hx' => by
  rcases List.mem_cons.1 hx' with rfl | hx'
  ·obtain ⟨h1,hr,hs⟩ := hg _ hx
   obtain ⟨h2,hr2,hs2⟩ := hp h1 hr
   exact ⟨h2,hr2,fun b o e => hs b o (hs2 b o e)⟩
  ·exact hg x hx'
theorem own.shrink {T : TypeId} {e : Nat} {a : Option Addr} {c : Nat} {cs : List Value} (k : Nat) : ∀ h,own T e a c cs h → own T e a c (cs.take k) h := fun h H => by
 obtain ⟨hl,hm,H⟩ := H
 refine ⟨by rw [List.length_take]; omega,hm,H.imp id fun ⟨b,cells,ha,hh,hs,ht⟩ => ⟨b,cells,ha,hh,hs,?_⟩⟩
 rw [List.length_take,← List.take_take,ht]
end
inductive Mrd (R : Option Addr → List Value → Prop) : Mv → List Value → Prop
 | mk {k n : Int} {b : List UInt8} {l : List Mv} {a a2 : Option Addr} {c c2 : Nat} {rows : List (List Value)} (hc : b.length ≤ c) (hb : R a (bv b)) (hr : R a2 rows.flatten) (hl : rows.length = l.length) (h : ∀ (i : Nat) (y : Mv) (cs : List Value),l[i]? = some y → rows[i]? = some cs → Mrd R y cs) :
  Mrd R (.mk k n b l) [.int .i64 k,.int .i64 n,.slice a b.length c,.slice a2 l.length c2]
theorem Mrd.mk' {R : Option Addr → List Value → Prop} {k n : Int} {b : List UInt8} {l : List Mv} {a a2 : Option Addr} {c c2 nb nl : Nat} {rows : List (List Value)} (hnb : b.length = nb) (hnl : l.length = nl) (hc : nb ≤ c) (hb : R a (bv b)) (hr : R a2 rows.flatten) (hl : rows.length = l.length) (h : ∀ (i : Nat) (y : Mv) (cs : List Value),l[i]? = some y → rows[i]? = some cs → Mrd R y cs) : Mrd R (.mk k n b l) [.int .i64 k,.int .i64 n,.slice a nb c,.slice a2 nl c2] := by
 subst hnb hnl; exact .mk hc hb hr hl h
def Mrds (R : Option Addr → List Value → Prop) (l : List Mv) (rows : List (List Value)) : Prop :=
 rows.length = l.length ∧ ∀ (i : Nat) (y : Mv) (cs : List Value),l[i]? = some y → rows[i]? = some cs → Mrd R y cs
section
variable {R R' : Option Addr → List Value → Prop}
theorem Mrd.mono {v : Mv} {cs : List Value} (h : Mrd R v cs) (hm : ∀ a cs,R a cs → R' a cs) : Mrd R' v cs := by
 induction h with
 | mk hc hb hr hl h ih => exact .mk hc (hm _ _ hb) (hm _ _ hr) hl ih
theorem Mrds.mono {l : List Mv} {rows : List (List Value)} (h : Mrds R l rows) (hm : ∀ a cs,R a cs → R' a cs) : Mrds R' l rows := ⟨h.1,fun i y cs h1 h2 => (h.2 i y cs h1 h2).mono hm⟩
theorem Mrds.nil : Mrds R [] [] := ⟨rfl,fun i y cs h => by simp at h⟩
theorem Mrds.snoc {l : List Mv} {rows : List (List Value)} {y : Mv} {r : List Value} (h : Mrds R l rows) (hy : Mrd R y r) : Mrds R (l ++ [y]) (rows ++ [r]) := by
 refine ⟨by simp [h.1],fun i z cs h1 h2 => ?_⟩
 by_cases hi : i < l.length
 ·rw [List.getElem?_append_left hi] at h1
  rw [List.getElem?_append_left (by have := h.1; omega)] at h2;exact h.2 i z cs h1 h2
 ·rw [List.getElem?_append_right (by omega)] at h1
  rw [List.getElem?_append_right (by have := h.1; omega),h.1] at h2;cases hk : i - l.length with
  | zero =>
   rw [hk] at h1 h2;obtain rfl : y = z := by simpa using h1
   obtain rfl : r = cs := by simpa using h2
   exact hy
  | succ k => rw [hk] at h1; simp at h1
theorem Mrd.lit {v : Mv} {cs : List Value} (h : Mrd R v cs) : ∃ a1 c1 a2 c2 rows,cs = [.int .i64 v.kind,.int .i64 v.num,.slice a1 v.txt.length c1,.slice a2 v.lst.length c2] ∧ v.txt.length ≤ c1 ∧ R a1 (bv v.txt) ∧ R a2 rows.flatten ∧ Mrds R v.lst rows := by
 cases h with
 | mk hc hb hr hl h => exact ⟨_,_,_,_,_,rfl,hc,hb,hr,hl,h⟩
theorem Mrd.len {v : Mv} {cs : List Value} (h : Mrd R v cs) : cs.length = 4 := by cases h; rfl
theorem Mrds.four {l : List Mv} {rows : List (List Value)} (H : Mrds R l rows) : ∀ r ∈ rows,r.length = 4 := fun r hr => by
 obtain ⟨i,hi,he⟩ := List.mem_iff_getElem.1 hr
 have hix : i < l.length := by have := H.1; omega
 exact (H.2 i l[i] r (List.getElem?_eq_getElem hix) (by rw [List.getElem?_eq_getElem hi,he])).len
theorem Mrds.flat {l : List Mv} {rows : List (List Value)} (H : Mrds R l rows) : rows.flatten.length = l.length * 4 := by rw [Zje H.four,H.1]
theorem Mrds.at_ {l : List Mv} {rows : List (List Value)} (H : Mrds R l rows) {i : Nat} {y : Mv} (hy : l[i]? = some y) : ∃ cs,(rows.flatten.drop (i * 4)).take 4 = cs ∧ Mrd R y cs := by
 have hi := (List.getElem?_eq_some_iff.1 hy).1
 have hir : i < rows.length := by have := H.1; omega
 exact ⟨rows[i],Zt0 H.four (List.getElem?_eq_getElem hir),H.2 i y _ hy (List.getElem?_eq_getElem hir)⟩
end
abbrev RoR (W : World) (F : Nat → Prop) : Option Addr → List Value → Prop := fun a cs => Ro W F (row a cs)
def RX (X : List RowD) : Option Addr → List Value → Prop := fun a cs => cs = [] ∨ (a,cs) ∈ X
theorem RX.nil {X : List RowD} {a : Option Addr} : RX X a [] := .inl rfl
theorem RX.mem {X : List RowD} {a : Option Addr} {cs : List Value} (h : (a,cs) ∈ X) : RX X a cs := .inr h
theorem RX.sub {X Y : List RowD} (h : ∀ x ∈ X,x ∈ Y) {a : Option Addr} {cs : List Value} (hx : RX X a cs) : RX Y a cs := hx.imp id (h _)
theorem RX.left {X Y : List RowD} {a : Option Addr} {cs : List Value} (hx : RX X a cs) : RX (X ++ Y) a cs := hx.sub fun _ h => List.mem_append_left _ h
theorem RX.right {X Y : List RowD} {a : Option Addr} {cs : List Value} (hx : RX Y a cs) : RX (X ++ Y) a cs := hx.sub fun _ h => List.mem_append_right _ h
theorem RX.tail {X : List RowD} {x : RowD} {a : Option Addr} {cs : List Value} (hx : RX X a cs) : RX (x :: X) a cs := hx.sub fun _ h => List.mem_cons_of_mem _ h
theorem RX.ro {W : World} {F : Nat → Prop} {X : List RowD} (H : Ro W F (bag X)) {a : Option Addr} {cs : List Value} (hx : RX X a cs) : Ro W F (row a cs) := by
 rcases hx with rfl | hx
 ·exact Zfq _ _ _
 ·exact H.bag hx
theorem RX.rd {w : World} {X : List RowD} (H : Rd w (bag X)) {a : Option Addr} {cs : List Value} (hx : RX X a cs) : Rd w (row a cs) := by
 rcases hx with rfl | hx
 ·exact Zm7 _ _
 ·exact H.bag hx
theorem Mrd.ro {W : World} {F : Nat → Prop} {X : List RowD} {v : Mv} {cs : List Value} (h : Mrd (RX X) v cs) (H : Ro W F (bag X)) : Mrd (RoR W F) v cs := h.mono fun _ _ hx => hx.ro H
end Cr
namespace Cr
open Go Go.Proofs
set_option maxRecDepth 100000
set_option maxHeartbeats 64000000
attribute [local irreducible] Calls

theorem Zl2 (s : List UInt8) (W : World) : Calls Tryz.prog 45 #[.string (str s)] W (Ret fun v w => ∃ b c X,v = .agg (List.toArray [.int .i64 1,.int .i64 0,.slice b s.length c,.slice none 0 0]) ∧ Mrd (RX X) (txM s) [.int .i64 1,.int .i64 0,.slice b s.length c,.slice none 0 0] ∧ St W noF [bag X] w) := by
 have hS := St.start W
 refine Zab Tryz.func45 rfl Tryz.ntmps45 rfl ?_
 repeat (first|refine Yea ?_|(refine X_id ?_;first|refine Yaf ?_|refine Ybl ?_|refine Yao (fun _ hS _ => ?_)|refine Yar (fun _ _ hS _ => ?_)|refine Zi3 rfl rfl rfl rfl hS (fun _ _ _ hS _ => ?_))|refine Ye1 ?_|refine Yab ?_|refine Ybw ?_)
 have hS := hS.pick [0]
 exact ⟨_,_,_,rfl,.mk (rows := []) (by assumption) (.mem (List.mem_cons_self ..)) .nil rfl (fun _ _ _ h => by simp at h),hS.toBag fun _ h => h⟩
theorem Z27 (n : Int) (W : World) : Calls Tryz.prog 44 #[.int .i64 n] W (Ret fun v w => v = .agg (List.toArray [.int .i64 0,.int .i64 n,.slice none 0 0,.slice none 0 0]) ∧ St W noF [] w) := by
 have hS := St.start W
 refine Zab Tryz.func44 rfl Tryz.ntmps44 rfl ?_
 repeat (first|refine Yea ?_|refine Yaf ?_|refine Ybl ?_|refine Yao (fun _ hS _ => ?_)|refine Yar (fun _ _ hS _ => ?_)|refine Ye1 ?_|refine Yab ?_|refine Ybw ?_)
 exact ⟨rfl,hS.took⟩
theorem Zwv {R : Option Addr → List Value → Prop} (h0 : ∀ a,R a []) (n : Int) : Mrd R (nuM n) [.int .i64 0,.int .i64 n,.slice none 0 0,.slice none 0 0] :=
 .mk (b := []) (l := []) (rows := []) (Nat.zero_le _) (h0 _) (h0 _) rfl (fun _ _ _ h => by simp at h)
theorem Z0q : ∀ (d : Nat) (v : Mv) (cs : List Value) (W : World) (F : Nat → Prop),Mrd (RoR W F) v cs → wM v ≤ 1048576 → d ≤ 8 →
  Calls Tryz.prog 92 #[.agg (List.toArray cs),.int .i64 (d : Nat)] W (Ret fun u w => ∃ cs' X,u = .agg (List.toArray cs') ∧ Mrd (RX X) (Zdy d v) cs' ∧ St W noF [bag X] w) := by
 intro d
 induction d with
 | zero =>
  intro v cs W F hv hw hd
  have hS := St.start W
  obtain ⟨k,n,b,l⟩ := v
  rw [Zfs] at hw;obtain ⟨a1,c1,a2,c2,rows,rfl,hc1,hb,hr,hM⟩ := hv.lit
  simp only [Mv.kind,Mv.num,Mv.txt,Mv.lst] at *
  replace hb : Ro W noF (bytes a1 b) := hb.start.ro
  refine Zab Tryz.func92 rfl Tryz.ntmps92 rfl ?_
  repeat (first|refine Yea ?_|refine Yan ?_|refine Yap ?_|refine Ya5 (fun _ _ hS _ => ?_)|refine Yar (fun _ _ hS _ => ?_)|refine Yeb ?_|refine Yab ?_)
  refine Zaa _ rfl rfl rfl rfl rfl (Zeo _ _ _ b _ (hb.rd hS) rfl (by omega)) ?_
  rintro _ w ⟨a',c',rfl,_,hca,hS'⟩
  replace hS := hS.plus hS';clear hS';repeat (first|refine Yea ?_|(refine X_id ?_;first|refine Yaf ?_|refine Yag ?_|refine Yan ?_|refine Ybs ?_|refine Yap ?_|refine Ybg ?_|refine Yao (fun _ hS _ => ?_))|refine Yfa ?_|refine Yab ?_|refine Ybw ?_)
  have hS : St W noF [own 5 1 a' c' (bv b)] _ := hS.took
  exact ⟨_,_,rfl,.mk' (rows := []) rfl rfl hca (.mem (List.mem_cons_self ..)) .nil rfl (fun _ _ _ h => by simp at h),hS.toBag fun _ h => h.row⟩
 | succ d ih =>
  intro v cs W F hv hw hd
  have hS := St.start W
  obtain ⟨k,n,b,l⟩ := v
  rw [Zfs] at hw;obtain ⟨a1,c1,a2,c2,rows,rfl,hc1,hb,hr,hM⟩ := hv.lit
  simp only [Mv.kind,Mv.num,Mv.txt,Mv.lst] at *
  have hwl := Zih l
  replace hb : Ro W noF (bytes a1 b) := hb.start.ro
  replace hr : Ro W noF (row a2 rows.flatten) := hr.start.ro
  replace hM : Mrds (RoR W noF) l rows := hM.mono fun _ _ h => h.start.ro
  refine Zab Tryz.func92 rfl Tryz.ntmps92 rfl ?_
  repeat (first|refine Yea ?_|refine Yan ?_|refine Yap ?_|refine Ya5 (fun _ _ hS _ => ?_)|refine Yar (fun _ _ hS _ => ?_)|refine Yeb ?_|refine Yab ?_)
  rename_i b2 _ _ _ b4 _ _;refine Zaa _ rfl rfl rfl rfl rfl (Zeo _ _ _ b _ (hb.rd hS) rfl (by omega)) ?_
  rintro _ w ⟨a',c',rfl,_,hca,hS'⟩
  replace hS := hS.plus hS';clear hS';repeat (first|refine Yea ?_|(refine X_id ?_;first|refine Yaf ?_|refine Yag ?_|refine Yan ?_|refine Yav ?_|refine Ybx ?_|refine Yap ?_|refine Yao (fun _ hS _ => ?_))|refine Ye9 ?_|refine Yab ?_)
  have hS : St W noF [own 5 1 a' c' (bv b),pts b4 (.cells (List.toArray [.int .i64 0,.int .i64 0,.slice none 0 0,.slice none 0 0]) 38 (0,0)),pts b2 (.cells (List.toArray [.int .i64 k,.int .i64 n,.slice a' b.length c',.slice none 0 0]) 38 (0,0))] _ := hS.took
  refine Zal (α := Nat × Option Addr × Nat) (fun z => [(1,.int .i64 ((d + 1 : Nat) : Int)),(2,.pointer (some ⟨b2,0,none⟩)),(4,.pointer (some ⟨b4,0,none⟩)),(17,.slice a2 l.length c2),(18,.int .i64 (l.length : Nat)),(19,.int .i64 (z.1 : Nat))])
   (fun z w => z.1 ≤ l.length ∧ z.1 ≤ z.2.2 ∧ ∃ rows' X,Mrds (RX X) ((l.take z.1).map (Zdy d)) rows' ∧ St W noF [own 38 4 z.2.1 z.2.2 rows'.flatten,bag X,own 5 1 a' c' (bv b),pts b4 (.cells (List.toArray [.int .i64 0,.int .i64 0,.slice none 0 0,.slice none 0 0]) 38 (0,0)),pts b2 (.cells (List.toArray [.int .i64 k,.int .i64 n,.slice a' b.length c',.slice z.2.1 z.1 z.2.2]) 38 (0,0))] w)
   (fun z => l.length - z.1) (0,none,0) ⟨rfl,rfl,rfl,rfl,rfl,rfl,trivial⟩ ⟨Nat.zero_le _,Nat.le_refl _,[],[],.nil,(hS.bagNil).own_none _ _ _⟩ ?_
  clear hS;rintro ⟨i,q,qc⟩ w ⟨hi,hiq,rows',X,hMs,hS2⟩
  simp only at hi hiq hMs hS2
  have hrl : rows'.flatten.length = i * 4 := by rw [hMs.flat,List.length_map,List.length_take,Nat.min_eq_left hi]
  by_cases hlt : i < l.length
  ·obtain ⟨y,hyx⟩ : ∃ y,y = l[i] := ⟨_,rfl⟩
   have hy0 : l[i]? = some y := by rw [hyx]; exact List.getElem?_eq_getElem hlt
   have hyw := Zig (List.mem_of_getElem? hy0)
   obtain ⟨cs,hxs,hy⟩ := hM.at_ hy0
   obtain ⟨d1,e1,d2,e2,rows2,rfl,_⟩ := hy.lit
   obtain ⟨ab,ao,rfl⟩ := hr.start.base (by
    intro e
    rw [e] at hxs;simp at hxs)
   have hS := hS2
   repeat (first|refine Yea ?_|(refine X_id ?_;first|refine Ya2 ?_|refine Ybc ?_|refine Ybp ?_|refine Yao (fun _ hS _ => ?_)|refine Yar (fun _ _ hS _ => ?_))|refine Yee ?_|refine Yab ?_)
   refine Zam (.s 0 (.s 1 (.s 2 (.s 3 (.s 4 (.h 5 (.h 6 (.h 7 (.s 8 (.h 9 .nil .no)) .no) .no) .no)))))) mixed (by kernel_rfl) rfl ?_
   have hS := hS.drew
   repeat (first|(refine Zae ?_;first|refine Ya3 ?_|refine Ybe ?_|refine Ycv ?_|refine Ybk ?_|refine Yb1 ?_|refine Yas ?_))
   rw [show (((d + 1 : Nat) : Int) - 1) = ((d : Nat) : Int) by omega]
   refine Zaa _ rfl rfl rfl rfl rfl (ih y _ _ noF (hy.mono fun _ _ h => (h.rd hS).ro) (by omega) (by omega)) ?_
   rintro _ w ⟨cs',Y,rfl,hY,hS'⟩
   replace hS := hS.plus hS';clear hS';obtain ⟨g1,h1,g2,h2,rows3,rfl,_⟩ := hY.lit
   repeat (first|refine Ybn (fun _ _ hS _ => ?_)|(refine Zae ?_;first|refine Yas ?_)|(refine Zac ?_;first|refine Yaz ?_))
   have hnw := (hS.rd (List.mem_cons_self ..)).own_row
   refine Zar rfl rfl rfl rfl rfl hS hrl hiq hnw rfl (by simp [Value.oneCell']) (by omega) (by simp only [maxLen]; omega) (fun b' q' w hS hq' _ => ?_)
   repeat (first|refine Yea ?_|refine Yef ?_|refine Yao (fun _ hS _ => ?_)|refine Yad ?_|refine Yei ?_|(refine Zae ?_;first|refine Yay ?_|refine Ybe ?_|refine Yas ?_)|(refine Zac ?_;first|refine Yaz ?_))
   refine Zaf (z := (i,q,qc)) (i + 1,b',q') ⟨rfl,rfl,rfl,rfl,rfl,rfl,trivial⟩ ⟨hlt,hq',rows' ++ [[.int .i64 (Zdy d y).kind,.int .i64 (Zdy d y).num,.slice g1 (Zdy d y).txt.length h1,.slice g2 (Zdy d y).lst.length h2]],X ++ Y,?_,?_⟩ (by dsimp only; omega)
   ·rw [List.take_succ_eq_append_getElem hlt,← hyx,List.map_append]
    exact (hMs.mono fun _ _ h => h.left).snoc (hY.mono fun _ _ h => h.right)
   ·have hS : St W noF [bag X,bag Y,own 38 4 b' q' (rows'.flatten ++ [.int .i64 (Zdy d y).kind,.int .i64 (Zdy d y).num,.slice g1 (Zdy d y).txt.length h1,.slice g2 (Zdy d y).lst.length h2]),own 5 1 a' c' (bv b),pts b4 (.cells (List.toArray [.int .i64 0,.int .i64 0,.slice none 0 0,.slice none 0 0]) 38 (0,0)),pts b2 (.cells (List.toArray [.int .i64 k,.int .i64 n,.slice a' b.length c',.slice b' (i + 1) q']) 38 (0,0))] _ := hS.took
    have hS := hS.bagJoin
    rw [List.flatten_append]
    simpa using hS.took
  ·obtain rfl : i = l.length := by omega
   have hS := hS2
   repeat (first|refine Yea ?_|refine Ya6 ?_|refine Ybg ?_|refine Yao (fun _ hS _ => ?_)|refine Yej ?_|refine Yab ?_|refine Yba ?_|refine Ybb ?_|refine Ybw ?_)
   rw [List.take_length] at hMs;have hS : St W noF [own 38 4 q qc rows'.flatten,own 5 1 a' c' (bv b),bag X] _ := hS.took
   have hS := (hS.second (r' := own 5 1 a' c' (bv b)) fun _ h => h)
   have hS : St W noF [own 5 1 a' c' (bv b),bag X,own 38 4 q qc rows'.flatten] _ := hS.took
   have hS := hS.bagAdd (a := a') (cs := bv b) fun _ h => h.row
   have hS : St W noF [own 38 4 q qc rows'.flatten,bag ((a',bv b) :: X)] _ := hS.took
   have hS := hS.bagAdd (a := q) (cs := rows'.flatten) fun _ h => h.row
   exact ⟨_,_,rfl,.mk' rfl (by rw [List.length_map]) hca (.mem (List.mem_cons_of_mem _ (List.mem_cons_self ..))) (.mem (List.mem_cons_self ..)) hMs.1 (fun i y cs h1 h2 => (hMs.2 i y cs h1 h2).mono fun _ _ h => h.tail.tail),hS⟩
theorem of_M (a : Option Addr) (l : List Mv) (c : Nat) (rows : List (List Value)) (W : World) (hr : Ro W noF (row a rows.flatten)) (hM : Mrds (RoR W noF) l rows) (hw : wMs l ≤ 1048576) :
  Calls Tryz.prog 43 #[.slice a l.length c] W (Ret fun v w => ∃ b q rows' X,v = .agg (List.toArray [.int .i64 2,.int .i64 0,.slice none 0 0,.slice b l.length q]) ∧ l.length ≤ q ∧ Mrds (RX X) (l.map (Zdy 8)) rows' ∧ St W noF [own 38 4 b q rows'.flatten,bag X] w) := by
 have hS := St.start W
 have hwl := Zih l
 refine Zab Tryz.func43 rfl Tryz.ntmps43 rfl ?_
 repeat (first|refine Yea ?_|(refine X_id ?_;first|refine Yaf ?_|refine Yav ?_|refine Ybl ?_|refine Yao (fun _ hS _ => ?_)|refine Yar (fun _ _ hS _ => ?_))|refine Yed ?_|refine Yab ?_)
 rename_i b2 _ _ _ b3 _ _ _ _ _;refine Zal (α := Nat × Option Addr × Nat) (fun z => [(2,.pointer (some ⟨b2,0,none⟩)),(3,.pointer (some ⟨b3,0,none⟩)),(7,.slice a l.length c),(8,.int .i64 (l.length : Nat)),(9,.int .i64 (z.1 : Nat))])
  (fun z w => z.1 ≤ l.length ∧ z.1 ≤ z.2.2 ∧ ∃ rows' X,Mrds (RX X) ((l.take z.1).map (Zdy 8)) rows' ∧ St W noF [own 38 4 z.2.1 z.2.2 rows'.flatten,bag X,pts b3 (.cells (List.toArray [.int .i64 2,.int .i64 0,.slice none 0 0,.slice z.2.1 z.1 z.2.2]) 38 (0,0)),pts b2 (.cells (List.toArray [.int .i64 0,.int .i64 0,.slice none 0 0,.slice none 0 0]) 38 (0,0))] w)
  (fun z => l.length - z.1) (0,none,0) ⟨rfl,rfl,rfl,rfl,rfl,trivial⟩ ⟨Nat.zero_le _,Nat.le_refl _,[],[],.nil,(hS.bagNil).own_none _ _ _⟩ ?_
 clear hS;rintro ⟨i,b,q⟩ w ⟨hi,hiq,rows',X,hMs,hS2⟩
 simp only at hi hiq hMs hS2
 have hrl : rows'.flatten.length = i * 4 := by rw [hMs.flat,List.length_map,List.length_take,Nat.min_eq_left hi]
 by_cases hlt : i < l.length
 ·obtain ⟨y,hyx⟩ : ∃ y,y = l[i] := ⟨_,rfl⟩
  have hy0 : l[i]? = some y := by rw [hyx]; exact List.getElem?_eq_getElem hlt
  have hyw := Zig (List.mem_of_getElem? hy0)
  obtain ⟨cs,hxs,hy⟩ := hM.at_ hy0
  obtain ⟨d1,e1,d2,e2,rows2,rfl,_⟩ := hy.lit
  obtain ⟨ab,ao,rfl⟩ := hr.start.base (by
   intro e
   rw [e] at hxs;simp at hxs)
  have hS := hS2
  repeat (first|refine Yea ?_|(refine X_id ?_;first|refine Ya2 ?_|refine Ybc ?_|refine Ybp ?_|refine Yao (fun _ hS _ => ?_)|refine Yar (fun _ _ hS _ => ?_))|refine Yee ?_|refine Yab ?_)
  refine Zam (.s 0 (.s 1 (.s 2 (.h 3 (.h 4 (.h 5 (.s 6 (.h 7 .nil .no)) .no) .no) .no)))) mixed (by kernel_rfl) rfl ?_
  have hS := hS.drew
  repeat (first|(refine Zae ?_;first|refine Ybe ?_|refine Ybk ?_|refine Yb1 ?_|refine Yas ?_))
  refine Zaa _ rfl rfl rfl rfl rfl (Z0q 8 y _ _ noF (hy.mono fun _ _ h => (h.rd hS).ro) (by omega) (by omega)) ?_
  rintro _ w ⟨cs',Y,rfl,hY,hS'⟩
  replace hS := hS.plus hS';clear hS';obtain ⟨g1,h1,g2,h2,rows3,rfl,_⟩ := hY.lit
  repeat (first|refine Ybn (fun _ _ hS _ => ?_)|(refine Zae ?_;first|refine Yas ?_)|(refine Zac ?_;first|refine Yaz ?_))
  have hnw := (hS.rd (List.mem_cons_self ..)).own_row
  refine Zar rfl rfl rfl rfl rfl hS hrl hiq hnw rfl (by simp [Value.oneCell']) (by omega) (by simp only [maxLen]; omega) (fun b' q' w hS hq' _ => ?_)
  repeat (first|refine Yea ?_|refine Yef ?_|refine Yao (fun _ hS _ => ?_)|refine Yad ?_|refine Yei ?_|(refine Zae ?_;first|refine Yay ?_|refine Ybe ?_|refine Yas ?_)|(refine Zac ?_;first|refine Yaz ?_))
  refine Zaf (z := (i,b,q)) (i + 1,b',q') ⟨rfl,rfl,rfl,rfl,rfl,trivial⟩ ⟨hlt,hq',rows' ++ [[.int .i64 (Zdy 8 y).kind,.int .i64 (Zdy 8 y).num,.slice g1 (Zdy 8 y).txt.length h1,.slice g2 (Zdy 8 y).lst.length h2]],X ++ Y,?_,?_⟩ (by dsimp only; omega)
  ·rw [List.take_succ_eq_append_getElem hlt,← hyx,List.map_append]
   exact (hMs.mono fun _ _ h => h.left).snoc (hY.mono fun _ _ h => h.right)
  ·have hS : St W noF [bag X,bag Y,own 38 4 b' q' (rows'.flatten ++ [.int .i64 (Zdy 8 y).kind,.int .i64 (Zdy 8 y).num,.slice g1 (Zdy 8 y).txt.length h1,.slice g2 (Zdy 8 y).lst.length h2]),
    pts b3 (.cells (List.toArray [.int .i64 2,.int .i64 0,.slice none 0 0,.slice b' (i + 1) q']) 38 (0,0)),pts b2 (.cells (List.toArray [.int .i64 0,.int .i64 0,.slice none 0 0,.slice none 0 0]) 38 (0,0))] _ := hS.took
   have hS := hS.bagJoin
   rw [List.flatten_append]
   simpa using hS.took
 ·obtain rfl : i = l.length := by omega
  have hS := hS2
  repeat (first|refine Yea ?_|refine Ya6 ?_|refine Ybg ?_|refine Yao (fun _ hS _ => ?_)|refine Yej ?_|refine Yab ?_|refine Yba ?_|refine Ybb ?_|refine Ybw ?_)
  rw [List.take_length] at hMs;exact ⟨b,q,rows',X,rfl,hiq,hMs,hS.took⟩
theorem Z1h (k n : Int) (b : List UInt8) (l : List Mv) (a1 a2 : Option Addr) (c1 c2 : Nat) (W : World) :
  Calls Tryz.prog 156 #[.agg (List.toArray [.int .i64 k,.int .i64 n,.slice a1 b.length c1,.slice a2 l.length c2])] W (Ret fun v w => v = .bool (kdM k n b l) ∧ St W noF [] w) := by
 have hS := St.start W
 by_cases h0 : k = 0
 ·subst h0
  cases b with
  | cons x b =>
   simp only [List.length_cons]
   refine Zab Tryz.func156 rfl Tryz.ntmps156 rfl ?_
   repeat (first|refine Yep ?_|(refine X_id ?_;first|refine Yaf ?_|refine Yag ?_|refine Yan ?_|refine Ya1 ?_|refine Yav ?_|refine Ybi ?_|refine Ybh ?_|refine Yap ?_|refine Ya5 (fun _ _ hS _ => ?_))|refine Yfb ?_|refine Yey ?_)
   refine ⟨?_,hS.drops⟩
   simp [kdM, *]
  | nil =>
   cases l with
   | cons x l =>
    simp only [List.length_cons]
    refine Zab Tryz.func156 rfl Tryz.ntmps156 rfl ?_
    repeat (first|refine Yer ?_|(refine X_id ?_;first|refine Yaf ?_|refine Yag ?_|refine Yan ?_|refine Ya8 ?_|refine Yav ?_|refine Ybi ?_|refine Ybh ?_|refine Ycz ?_|refine Yap ?_|refine Ya5 (fun _ _ hS _ => ?_))|refine Yfb ?_|refine Yey ?_)
    refine ⟨?_,hS.drops⟩
    simp [kdM, *]
   | nil =>
    refine Zab Tryz.func156 rfl Tryz.ntmps156 rfl ?_
    repeat (first|refine Yer ?_|(refine X_id ?_;first|refine Yaf ?_|refine Yag ?_|refine Yan ?_|refine Ya8 ?_|refine Yav ?_|refine Ybi ?_|refine Ycz ?_|refine Yap ?_|refine Ya5 (fun _ _ hS _ => ?_))|refine Yfb ?_|refine Yey ?_)
    refine ⟨?_,hS.drops⟩
    simp [kdM, *]
 ·by_cases h1 : k = 1
  ·subst h1
   by_cases hn : n = 0
   ·subst hn
    cases l with
    | cons x l =>
     simp only [List.length_cons]
     refine Zab Tryz.func156 rfl Tryz.ntmps156 rfl ?_
     repeat (first|refine Yer ?_|(refine X_id ?_;first|refine Yaf ?_|refine Yag ?_|refine Yan ?_|refine Ya8 ?_|refine Yav ?_|refine Ybi ?_|refine Ybh ?_|refine Yap ?_|refine Ya5 (fun _ _ hS _ => ?_))|refine Yfc ?_|refine Yey ?_)
     refine ⟨?_,hS.drops⟩
     simp [kdM, *]
    | nil =>
     refine Zab Tryz.func156 rfl Tryz.ntmps156 rfl ?_
     repeat (first|refine Yer ?_|(refine X_id ?_;first|refine Yaf ?_|refine Yag ?_|refine Yan ?_|refine Ya8 ?_|refine Yav ?_|refine Ybi ?_|refine Ybh ?_|refine Ycz ?_|refine Yap ?_|refine Ya5 (fun _ _ hS _ => ?_))|refine Yfc ?_|refine Yey ?_)
     refine ⟨?_,hS.drops⟩
     simp [kdM, *]
   ·skip
    refine Zab Tryz.func156 rfl Tryz.ntmps156 rfl ?_
    repeat (first|refine Yep ?_|(refine X_id ?_;first|refine Yaf ?_|refine Yag ?_|refine Yan ?_|refine Ya1 ?_|refine Ybi ?_|refine Ybh ?_|refine Yap ?_|refine Ya5 (fun _ _ hS _ => ?_))|refine Yfc ?_|refine Yey ?_)
    refine ⟨?_,hS.drops⟩
    simp [kdM, *]
  ·by_cases h2 : k = 2
   ·subst h2
    by_cases hn : n = 0
    ·subst hn
     cases b with
     | cons x b =>
      simp only [List.length_cons]
      refine Zab Tryz.func156 rfl Tryz.ntmps156 rfl ?_
      repeat (first|refine Yer ?_|(refine X_id ?_;first|refine Yaf ?_|refine Yag ?_|refine Yan ?_|refine Ya8 ?_|refine Yav ?_|refine Ybi ?_|refine Ybh ?_|refine Yap ?_|refine Ya5 (fun _ _ hS _ => ?_))|refine Yfc ?_|refine Yey ?_)
      refine ⟨?_,hS.drops⟩
      simp [kdM, *]
     | nil =>
      refine Zab Tryz.func156 rfl Tryz.ntmps156 rfl ?_
      repeat (first|refine Yer ?_|(refine X_id ?_;first|refine Yaf ?_|refine Yag ?_|refine Yan ?_|refine Ya8 ?_|refine Yav ?_|refine Ybi ?_|refine Ybh ?_|refine Ycz ?_|refine Yap ?_|refine Ya5 (fun _ _ hS _ => ?_))|refine Yfc ?_|refine Yey ?_)
      refine ⟨?_,hS.drops⟩
      simp [kdM, *]
    ·skip
     refine Zab Tryz.func156 rfl Tryz.ntmps156 rfl ?_
     repeat (first|refine Yep ?_|(refine X_id ?_;first|refine Yaf ?_|refine Yag ?_|refine Yan ?_|refine Ya1 ?_|refine Ybi ?_|refine Ybh ?_|refine Yap ?_|refine Ya5 (fun _ _ hS _ => ?_))|refine Yfc ?_|refine Yey ?_)
     refine ⟨?_,hS.drops⟩
     simp [kdM, *]
   ·skip
    refine Zab Tryz.func156 rfl Tryz.ntmps156 rfl ?_
    repeat (first|refine Yea ?_|(refine X_id ?_;first|refine Yag ?_|refine Yan ?_|refine Ybh ?_|refine Yap ?_|refine Ya5 (fun _ _ hS _ => ?_))|refine Yfd ?_|refine Yab ?_|refine Yaw ?_|refine Yam ?_)
    refine ⟨?_,hS.drops⟩
    simp [kdM, *]
theorem Zha {f : Mv → Int} : ∀ {l : List Mv} {i : Nat},(∀ j,j < i → ∀ y,l[j]? = some y → f y = 0) → Zh3 (l.map f) = Zh3 ((l.drop i).map f)
 | [],i,_ => by simp
 | x :: l,0,_ => rfl
 | x :: l,i + 1,h => by
  have h0 := h 0 (by omega) x rfl
  rw [List.map_cons,Zh3,if_pos h0,List.drop_succ_cons];exact Zha fun j hj y hy => h (j + 1) (by omega) y (by simpa using hy)
theorem Z3l : ∀ (m : Nat) (v : Mv) (cs : List Value) (deep : Nat) (W : World) (F : Nat → Prop),deep + m = 9 → Mrd (RoR W F) v cs → wM v ≤ 1048576 →
  Calls Tryz.prog 93 #[.agg (List.toArray cs),.int .i64 (deep : Nat)] W (Ret fun u w => u = .int .i64 (chkM m v) ∧ St W noF [] w) := by
 intro m
 induction m with
 | zero =>
  intro v cs deep W F hd hv hw
  have hS := St.start W
  obtain ⟨k,n,b,l⟩ := v
  obtain ⟨a1,c1,a2,c2,rows,rfl,hc1,hb,hr,hM⟩ := hv.lit
  simp only [Mv.kind,Mv.num,Mv.txt,Mv.lst] at *
  have hk := fun W => Z1h k n b l a1 a2 c1 c2 W
  rw [chkM];obtain rfl : deep = 9 := by omega
  by_cases hkd : kdM k n b l = true
  ·rw [if_pos hkd]
   simp only [hkd] at hk
   by_cases h2 : k = 2
   ·subst h2
    rw [if_pos rfl];refine Zab Tryz.func93 rfl Tryz.ntmps93 rfl ?_
    repeat (first|refine Yer ?_|(refine X_id ?_;first|(refine Zad 156 rfl rfl rfl rfl rfl hS (hk _) ?_;rintro _ _ rfl hS)|refine Yaf ?_|refine Yag ?_|refine Yan ?_|refine Ya8 ?_|refine Ybd ?_|refine Ybi ?_|refine Ybx ?_|refine Yap ?_|refine Ybg ?_|refine Ya5 (fun _ _ hS _ => ?_))|refine Yfc ?_|refine Yey ?_)
    exact ⟨rfl,hS.drops⟩
   ·rw [if_neg h2]
    have hl0 : l = [] := by
     rcases Zp8 hkd with ⟨_,_,h⟩ | ⟨_,_,h⟩ | ⟨h,_,_⟩
     ·exact h
     ·exact h
     ·exact absurd h h2
    subst hl0
    refine Zab Tryz.func93 rfl Tryz.ntmps93 rfl ?_
    repeat (first|refine Yep ?_|(refine X_id ?_;first|(refine Zad 156 rfl rfl rfl rfl rfl hS (hk _) ?_;rintro _ _ rfl hS)|refine Yaf ?_|refine Yag ?_|refine Yan ?_|refine Ya1 ?_|refine Ybd ?_|refine Yav ?_|refine Ybh ?_|refine Yap ?_|refine Ybg ?_|refine Ya5 (fun _ _ hS _ => ?_))|refine Ye4 ?_|refine Yei ?_)
    refine Zal (α := Unit) (fun _ => [(22,.int .i64 0),(23,.int .i64 0)]) (fun _ w => St W noF [] w) (fun _ => 0) () ⟨rfl,rfl,trivial⟩ hS.drops ?_
    clear hS;rintro _ w hS
    repeat (first|refine Yea ?_|refine Yag ?_|refine Ya6 ?_|refine Yej ?_|refine Yfe ?_)
    exact ⟨rfl,hS⟩
  ·rw [if_neg hkd]
   simp only [eq_false_of_ne_true hkd] at hk
   refine Zab Tryz.func93 rfl Tryz.ntmps93 rfl ?_
   repeat (first|refine Yea ?_|(refine X_id ?_;first|(refine Zad 156 rfl rfl rfl rfl rfl hS (hk _) ?_;rintro _ _ rfl hS)|refine Yag ?_|refine Ybq ?_|refine Ybg ?_|refine Ya5 (fun _ _ hS _ => ?_))|refine Yfb ?_|refine Yey ?_)
   exact ⟨rfl,hS.drops⟩
 | succ m ih =>
  intro v cs deep W F hd hv hw
  have hS := St.start W
  obtain ⟨k,n,b,l⟩ := v
  obtain ⟨a1,c1,a2,c2,rows,rfl,hc1,hb,hr,hM⟩ := hv.lit
  simp only [Mv.kind,Mv.num,Mv.txt,Mv.lst] at *
  rw [Zfs] at hw;have hwl := Zih l
  replace hr : Ro W noF (row a2 rows.flatten) := hr.start.ro
  replace hM : Mrds (RoR W noF) l rows := hM.mono fun _ _ h => h.start.ro
  have hk := fun W => Z1h k n b l a1 a2 c1 c2 W
  rw [chkM];by_cases hkd : kdM k n b l = true
  ·rw [if_pos hkd]
   simp only [hkd] at hk
   refine Zab Tryz.func93 rfl Tryz.ntmps93 rfl ?_
   by_cases h2 : k = 2
   case' pos =>
    subst h2
    repeat (first|refine Yer ?_|(refine X_id ?_;first|(refine Zad 156 rfl rfl rfl rfl rfl hS (hk _) ?_;rintro _ _ rfl hS)|refine Yaf ?_|refine Yag ?_|refine Yan ?_|refine Ya8 ?_|refine Ybd ?_|refine Yav ?_|refine Ybi ?_|refine Ybs ?_|refine Yap ?_|refine Ybg ?_|refine Ya5 (fun _ _ hS _ => ?_))|refine Ye4 ?_|refine Yei ?_)
   case' neg =>
    repeat (first|refine Yep ?_|(refine X_id ?_;first|(refine Zad 156 rfl rfl rfl rfl rfl hS (hk _) ?_;rintro _ _ rfl hS)|refine Yaf ?_|refine Yag ?_|refine Yan ?_|refine Ya1 ?_|refine Ybd ?_|refine Yav ?_|refine Ybh ?_|refine Yap ?_|refine Ybg ?_|refine Ya5 (fun _ _ hS _ => ?_))|refine Ye4 ?_|refine Yei ?_)
   all_goals
    refine Zal (α := Nat) (fun i => [(1,.int .i64 (deep : Nat)),(21,.slice a2 l.length c2),(22,.int .i64 (l.length : Nat)),(23,.int .i64 (i : Nat))]) (fun i w => i ≤ l.length ∧ (∀ j,j < i → ∀ y,l[j]? = some y → chkM m y = 0) ∧ St W noF [] w) (fun i => l.length - i) 0 ⟨rfl,rfl,rfl,rfl,trivial⟩ ⟨Nat.zero_le _,fun j hj => absurd hj (by omega),hS.drops⟩ ?_
    clear hS;rintro i w ⟨hi,hz,hS2⟩
    by_cases hlt : i < l.length
    ·obtain ⟨y,hyx⟩ : ∃ y,y = l[i] := ⟨_,rfl⟩
     have hy0 : l[i]? = some y := by rw [hyx]; exact List.getElem?_eq_getElem hlt
     have hyw := Zig (List.mem_of_getElem? hy0)
     obtain ⟨cs,hxs,hy⟩ := hM.at_ hy0
     obtain ⟨d1,e1,d2,e2,rows2,rfl,_⟩ := hy.lit
     obtain ⟨ab,ao,rfl⟩ := hr.start.base (by
      intro e
      rw [e] at hxs;simp at hxs)
     have hdr : (l.drop i).map (chkM m) = chkM m y :: (l.drop (i + 1)).map (chkM m) := by rw [List.drop_eq_getElem_cons hlt,← hyx]; rfl
     have ihy := fun W h => ih y [.int .i64 y.kind,.int .i64 y.num,.slice d1 y.txt.length e1,.slice d2 y.lst.length e2] (deep + 1) W noF (by omega) h (by omega)
     obtain ⟨e,he⟩ : ∃ e,e = chkM m y := ⟨_,rfl⟩
     rw [← he] at ihy hdr;have hS := hS2
     repeat (first|refine Yea ?_|(refine X_id ?_;first|refine Yaf ?_|refine Ya2 ?_|refine Ybc ?_|refine Ya0 ?_|refine Ybg ?_|refine Ybp ?_|refine Yao (fun _ hS _ => ?_)|refine Yar (fun _ _ hS _ => ?_))|refine Yee ?_|refine Yab ?_)
     rw [show ((deep : Nat) : Int) + 1 = ((deep + 1 : Nat) : Int) by omega]
     refine Zad 93 rfl rfl rfl rfl rfl hS (ihy _ (hy.mono fun _ _ h => (h.rd hS).ro)) ?_
     rintro _ w rfl hS
     by_cases h0 : e = 0
     ·subst h0
      repeat (first|refine Yea ?_|refine Yaf ?_|refine Yag ?_|refine Ya4 ?_|refine Ya0 ?_|refine Yem ?_|refine Yei ?_)
      exact Zaf (i + 1) ⟨rfl,rfl,rfl,rfl,trivial⟩ ⟨hlt,fun j hj z hzj => by
       by_cases hji : j = i
       ·subst hji
        rw [hy0] at hzj;cases hzj
        exact he.symm
       ·exact hz j (by omega) z hzj,hS.drops⟩ (by omega)
     ·repeat (first|refine Yea ?_|refine Yaf ?_|refine Yag ?_|refine Ybj ?_|refine Yek ?_|refine Yey ?_)
      rw [Zha hz,hdr,Zh3,if_neg h0];exact ⟨rfl,hS.drops⟩
    ·obtain rfl : i = l.length := by omega
     have hS := hS2
     repeat (first|refine Yea ?_|refine Yag ?_|refine Ya6 ?_|refine Yej ?_|refine Yfe ?_)
     rw [Zha hz,List.drop_length];exact ⟨rfl,hS⟩
  ·rw [if_neg hkd]
   simp only [eq_false_of_ne_true hkd] at hk
   refine Zab Tryz.func93 rfl Tryz.ntmps93 rfl ?_
   repeat (first|refine Yea ?_|(refine X_id ?_;first|(refine Zad 156 rfl rfl rfl rfl rfl hS (hk _) ?_;rintro _ _ rfl hS)|refine Yag ?_|refine Ybq ?_|refine Ybg ?_|refine Ya5 (fun _ _ hS _ => ?_))|refine Yfb ?_|refine Yey ?_)
   exact ⟨rfl,hS.drops⟩
abbrev Wt (p : Nat) (b : Option Addr) (q : Nat) (s : List UInt8) : List Res := [pts p (.cells (List.toArray [.slice b s.length q,.bool false]) 207 (0,0)),own 5 1 b q (bv s)]
theorem Zqt (p : Nat) (b : Option Addr) (q : Nat) (s : List UInt8) (a : Option Addr) (t : List UInt8) (c m : Nat) (W : World) (F : Nat → Prop) (hq : s.length ≤ q) (hm : t.length = m) (hS : St W F (Wt p b q s) W) (ht : Ro W F (bytes a t)) (hl : s.length + t.length ≤ 131072) :
  Calls Tryz.prog 157 #[.pointer (some ⟨p,0,none⟩),.slice a m c] W (Ret fun v w => (v = .tuple #[] ∧ ∃ b' q',(s ++ t).length ≤ q' ∧ St W F (Wt p b' q' (s ++ t)) w)) := by
 subst hm
 refine Zab Tryz.func157 rfl Tryz.ntmps157 rfl ?_
 repeat (first|refine Yer ?_|(refine X_id ?_;first|refine Yaf ?_|refine Yau ?_|refine Yan ?_|refine Ya1 ?_|refine Ybq ?_|refine Yav ?_|refine Ybs ?_|refine Ya0 ?_|refine Yap ?_|refine Yao (fun _ hS _ => ?_))|refine Yev ?_|refine Yab ?_)
 refine Zar rfl rfl rfl rfl rfl hS (by simp) hq (ht.rd hS) (by simp) Zfd (by omega) (by simp only [maxLen]; omega) (fun b' q' w hS hq' _ => ?_)
 repeat (first|refine Yea ?_|refine Yau ?_|refine Yan ?_|refine Yao (fun _ hS _ => ?_)|refine Ybt ?_)
 refine ⟨rfl,b',q',by simpa using hq',?_⟩
 exact St.conv (rs := [pts p (.cells (List.toArray [.slice b' ((s.length + t.length : Nat)) q',.bool false]) 207 (0,0)),own 5 1 b' q' (bv s ++ bv t)]) hS.took (by show _ = [_,_]; rw [List.length_append,Zem])
theorem Zvh (l : List Mv) (i : Nat) : (Zaz (l.take i)).length ≤ (Zaz l).length := by
 have := congrArg List.length (congrArg Zaz (List.take_append_drop i l))
 rw [Zf7,List.length_append] at this; omega
theorem Zvi (l : List Mv) (y : Mv) : Zaz (l ++ [y]) = Zaz l ++ encM y := by rw [Zf7,Zaz,Zaz,List.append_nil]
theorem Z02 (n : Int) (cs : List Value) (p : Nat) (b : Option Addr) (q : Nat) (s : List UInt8) (W : World) (F : Nat → Prop) (hq : s.length ≤ q) (hv : Mrd (RoR W F) (nuM n) cs) (hfit : fitM (nuM n)) (hS : St W F (Wt p b q s) W) (hl : s.length + (encM (nuM n)).length ≤ 131072) (hG : Lg W F) :
  Calls Tryz.prog 94 #[.pointer (some ⟨p,0,none⟩),.agg (List.toArray cs)] W (Ret fun u w => (u = .tuple #[] ∧ ∃ b' q',(s ++ encM (nuM n)).length ≤ q' ∧ St W F (Wt p b' q' (s ++ encM (nuM n))) w)) := by
 obtain ⟨a1,c1,a2,c2,rows,rfl,_⟩ := hv.lit
 simp only [Mv.kind,Mv.num,Mv.txt,Mv.lst,List.length_nil] at *
 rw [fitM] at hfit;have e : encM (nuM n) = [105] ++ Lib.itoa n ++ [59] := by rw [Zcq]; simp
 rw [e] at hl ⊢;have hl2 := hl
 simp only [List.length_append,List.length_cons,List.length_nil] at hl2
 refine Zab Tryz.func94 rfl Tryz.ntmps94 rfl ?_
 repeat (first|refine Yea ?_|(refine X_id ?_;first|(refine Zad 70 rfl rfl rfl rfl rfl hS (Z26 n _ _ (hG.at_ hS) hfit.1.1 hfit.1.2) ?_;rintro _ _ rfl hS)|refine Yaf ?_|refine Yag ?_|refine Yan ?_|refine Ybi ?_|refine Yap ?_|refine Ya5 (fun _ _ hS _ => ?_)|refine Ydz ?_|refine Zi3 rfl rfl rfl rfl hS (fun _ _ _ hS _ => ?_))|refine Ye9 ?_|refine Yab ?_)
 obtain ⟨_,hc,hr,hw,hbk⟩ := hS.call [false,false,true,true]
 refine Zaa _ rfl rfl rfl rfl rfl (Zqt p b q s _ _ _ _ _ _ hq rfl hc (hr _ (List.mem_cons_self ..)) hl) ?_
 rintro _ w ⟨rfl,b',q',hq',hS⟩
 replace hS := hbk hS
 clear hc hr hw hbk;repeat (first|refine Yac ?_|refine Yaw ?_|refine Ybt ?_)
 exact ⟨rfl,b',q',hq',hS.took⟩
theorem Z01 (t : List UInt8) (cs : List Value) (p : Nat) (b : Option Addr) (q : Nat) (s : List UInt8) (W : World) (F : Nat → Prop) (hq : s.length ≤ q) (hv : Mrd (RoR W F) (txM t) cs) (hfit : fitM (txM t)) (hS : St W F (Wt p b q s) W) (hl : s.length + (encM (txM t)).length ≤ 131072) (hG : Lg W F) :
  Calls Tryz.prog 94 #[.pointer (some ⟨p,0,none⟩),.agg (List.toArray cs)] W (Ret fun u w => (u = .tuple #[] ∧ ∃ b' q',(s ++ encM (txM t)).length ≤ q' ∧ St W F (Wt p b' q' (s ++ encM (txM t))) w)) := by
 obtain ⟨a,c,a2,c2,rows,rfl,hc1,hb,_⟩ := hv.lit
 simp only [Mv.kind,Mv.num,Mv.txt,Mv.lst,List.length_nil] at *
 rw [fitM] at hfit;have e : s ++ encM (txM t) = (s ++ (Lib.itoa (t.length : Nat) ++ [58])) ++ t := by rw [Zbx]; simp
 have hl2 := congrArg List.length e
 rw [List.length_append] at hl2;rw [e];rw [hl2] at hl;simp only [List.length_append,List.length_cons,List.length_nil] at hl
 refine Zab Tryz.func94 rfl Tryz.ntmps94 rfl ?_
 repeat (first|refine Yea ?_|(refine X_id ?_;first|(refine Zad 70 rfl rfl rfl rfl rfl hS (Z26 (t.length : Nat) _ _ (hG.at_ hS) (by omega) (by omega)) ?_;rintro _ _ rfl hS)|refine Yaf ?_|refine Yag ?_|refine Yan ?_|refine Yav ?_|refine Ybi ?_|refine Ybh ?_|refine Yap ?_|refine Ya5 (fun _ _ hS _ => ?_)|refine Ydz ?_|refine Zi3 rfl rfl rfl rfl hS (fun _ _ _ hS _ => ?_))|refine Ye8 ?_|refine Yab ?_)
 obtain ⟨_,hc,hr,hw,hbk⟩ := hS.call [false,false,true,true]
 refine Zaa _ rfl rfl rfl rfl rfl (Zqt p b q s _ _ _ _ _ _ hq rfl hc (hr _ (List.mem_cons_self ..)) (by simp; omega)) ?_
 rintro _ w ⟨rfl,b',q',hq',hS⟩
 replace hS := hbk hS
 clear hc hr hw hbk;repeat (first|refine Yea ?_|refine Yaf ?_|refine Yan ?_|refine Yap ?_|refine Yad ?_|refine Yab ?_)
 obtain ⟨_,hc,hr,hw,hbk⟩ := hS.call [true,true,false,false]
 refine Zaa _ rfl rfl rfl rfl rfl (Zqt p b' q' _ a t c t.length _ _ hq' rfl hc (hw _ hb) (by simp; omega)) ?_
 rintro _ w ⟨rfl,b2,q2,hq2,hS⟩
 replace hS := hbk hS
 clear hc hr hw hbk;repeat (first|refine Yac ?_|refine Yaw ?_|refine Ybt ?_)
 exact ⟨rfl,b2,q2,hq2,hS.took⟩
theorem Zyz : ∀ (m : Nat) (v : Mv) (cs : List Value) (p : Nat) (b : Option Addr) (q : Nat) (s : List UInt8) (W : World) (F : Nat → Prop),s.length ≤ q → Mrd (RoR W F) v cs → wM v ≤ 1048576 → chkM m v = 0 → fitM v → St W F (Wt p b q s) W → s.length + (encM v).length ≤ 131072 → Lg W F →
  Calls Tryz.prog 94 #[.pointer (some ⟨p,0,none⟩),.agg (List.toArray cs)] W (Ret fun u w => (u = .tuple #[] ∧ ∃ b' q',(s ++ encM v).length ≤ q' ∧ St W F (Wt p b' q' (s ++ encM v)) w)) := by
 intro m
 induction m with
 | zero =>
  intro v cs p b q s W F hq hv hwv hck hfit hS hl hG
  rcases Za8 hck with ⟨n,rfl⟩ | ⟨t,rfl⟩ | ⟨l,m',_,h',_⟩
  ·exact Z02 n cs p b q s W F hq hv hfit hS hl hG
  ·exact Z01 t cs p b q s W F hq hv hfit hS hl hG
  ·cases h'
 | succ m ih =>
  intro v cs p b q s W F hq hv hwv hck hfit hS hl hG
  rcases Za8 hck with ⟨n,rfl⟩ | ⟨t,rfl⟩ | ⟨l,m',rfl,h',hck⟩
  ·exact Z02 n cs p b q s W F hq hv hfit hS hl hG
  ·exact Z01 t cs p b q s W F hq hv hfit hS hl hG
  obtain rfl : m = m' := by omega
  obtain ⟨a1,c1,a,c,rows,rfl,hc1,hb0,hr0,hx⟩ := hv.lit
  simp only [Mv.kind,Mv.num,Mv.txt,Mv.lst,List.length_nil] at *
  rw [Zfs] at hwv;rw [fitM] at hfit;have hwl := Zih l
  have e : s ++ encM (liM l) = ((s ++ [40]) ++ Zaz l) ++ [41] := by rw [Zbl]; simp
  have hl2 := congrArg List.length e
  rw [List.length_append] at hl2;rw [e];rw [hl2] at hl;simp only [List.length_append,List.length_cons,List.length_nil] at hl
  refine Zab Tryz.func94 rfl Tryz.ntmps94 rfl ?_
  repeat (first|refine Yea ?_|(refine X_id ?_;first|refine Yaf ?_|refine Yag ?_|refine Yan ?_|refine Ybi ?_|refine Ybh ?_|refine Yap ?_|refine Ya5 (fun _ _ hS _ => ?_)|refine Ybn (fun _ _ hS _ => ?_))|refine Ye8 ?_|refine Yab ?_)
  obtain ⟨_,hc,hr,hw,hbk⟩ := hS.call [false,false,true,true]
  refine Zaa _ rfl rfl rfl rfl rfl (Zqt p b q s _ [40] _ _ _ _ hq rfl hc (hr _ (List.mem_cons_self ..)).own_row (by simp; omega)) ?_
  rintro _ w ⟨rfl,b',q',hq',hS⟩
  replace hS := hbk hS
  clear hc hr hw hbk;repeat (first|refine Yea ?_|refine Yaf ?_|refine Yan ?_|refine Yav ?_|refine Yap ?_|refine Yed ?_|refine Yab ?_)
  refine Zal (α := Nat × Option Addr × Nat) (fun z => [(0,.pointer (some ⟨p,0,none⟩)),(38,.slice a l.length c),(39,.int .i64 (l.length : Nat)),(40,.int .i64 (z.1 : Nat))])
   (fun z w => z.1 ≤ l.length ∧ ((s ++ [40]) ++ Zaz (l.take z.1)).length ≤ z.2.2 ∧ St W F (Wt p z.2.1 z.2.2 ((s ++ [40]) ++ Zaz (l.take z.1))) w) (fun z => l.length - z.1) (0,b',q') ⟨rfl,rfl,rfl,rfl,trivial⟩ ⟨Nat.zero_le _,by simpa [Zaz] using hq',by rw [List.take_zero,Zaz,List.append_nil]; exact hS.took⟩ ?_
  clear hS;rintro ⟨i,b2,q2⟩ w ⟨hi,hq2,hS2⟩
  simp only at hi hq2 hS2
  by_cases hlt : i < l.length
  ·obtain ⟨y,hyx⟩ : ∃ y,y = l[i] := ⟨_,rfl⟩
   have hy0 : l[i]? = some y := by rw [hyx]; exact List.getElem?_eq_getElem hlt
   have hymem : y ∈ l := List.mem_of_getElem? hy0
   have hyw := Zig hymem
   obtain ⟨cs,hxs,hy⟩ := hx.at_ hy0
   obtain ⟨d1,e1,d2,e2,rows2,rfl,_⟩ := hy.lit
   have hr := hr0
   obtain ⟨ab,ao,rfl⟩ := hr.start.base (by
    intro e
    rw [e] at hxs;simp at hxs)
   have htk : Zaz (l.take (i + 1)) = Zaz (l.take i) ++ encM y := by
    rw [List.take_succ_eq_append_getElem hlt,← hyx,Zvi]
   have hle := Zvh l (i + 1)
   rw [htk,List.length_append] at hle;have hS := hS2
   repeat (first|refine Yea ?_|(refine X_id ?_;first|refine Yaf ?_|refine Ya2 ?_|refine Ybc ?_|refine Ybg ?_|refine Ybp ?_|refine Yao (fun _ hS _ => ?_)|refine Yar (fun _ _ hS _ => ?_))|refine Yee ?_|refine Yab ?_)
   obtain ⟨_,hc,hr,hw,hbk⟩ := hS.call [false,true,true]
   refine Zaa _ rfl rfl rfl rfl rfl (ih y _ p b2 q2 _ _ _ hq2 (hy.mono fun _ _ h => hw _ h) (by omega) (hck y hymem) (fitMs_mem.1 hfit.2.2 y hymem) hc (by simp; omega) (hG.mono hw)) ?_
   rintro _ w ⟨rfl,b3,q3,hq3,hS⟩
   replace hS := hbk hS
   clear hc hr hw hbk;repeat (first|refine Yea ?_|refine Yef ?_|refine Yad ?_|refine Yei ?_)
   refine Zaf (z := (i,b2,q2)) (i + 1,b3,q3) ⟨rfl,rfl,rfl,rfl,trivial⟩ ⟨hlt,?_,?_⟩ (by dsimp only; omega)
   ·rw [htk,← List.append_assoc]; exact hq3
   ·rw [htk,← List.append_assoc]; exact hS.took
  ·obtain rfl : i = l.length := by omega
   have hS := hS2
   rw [List.take_length] at hS hq2;repeat (first|refine Yea ?_|refine Yaf ?_|refine Ya6 ?_|refine Ybn (fun _ _ hS _ => ?_)|refine Yeq ?_|refine Yeg ?_)
   obtain ⟨_,hc,hr,hw,hbk⟩ := hS.call [false,true,true]
   refine Zaa _ rfl rfl rfl rfl rfl (Zqt p b2 q2 _ _ [41] _ _ _ _ hq2 rfl hc (hr _ (List.mem_cons_self ..)).own_row (by simp; omega)) ?_
   rintro _ w ⟨rfl,b3,q3,hq3,hS⟩
   replace hS := hbk hS
   clear hc hr hw hbk;repeat (first|refine Yac ?_|refine Yaw ?_|refine Ybt ?_)
   exact ⟨rfl,b3,q3,hq3,hS.took⟩
theorem Zoe (v : Mv) (cs : List Value) (W : World) (hv : Mrd (RoR W noF) v cs) (hwv : wM v ≤ 1048576) (hfit : fitM v) (hl : (encM v).length ≤ 131072) (hG : Lg W noF) :
  Calls Tryz.prog 46 #[.agg (List.toArray cs)] W (Ret fun u w => (chkM 8 v ≠ 0 ∧ u = .tuple #[.slice none 0 0,.int .i64 (chkM 8 v)] ∧ St W noF [] w) ∨ (chkM 8 v = 0 ∧ ∃ b q,u = .tuple #[.slice b (encM v).length q,.int .i64 0] ∧ (encM v).length ≤ q ∧ St W noF [own 5 1 b q (bv (encM v))] w)) := by
 have hS := St.start W
 have hck := fun W h => Z3l 8 v cs 1 W noF rfl h hwv
 obtain ⟨a1,c1,a2,c2,rows,rfl,_⟩ := hv.lit
 obtain ⟨e,he⟩ : ∃ e,e = chkM 8 v := ⟨_,rfl⟩
 rw [← he] at hck ⊢;by_cases h0 : e = 0
 ·subst h0
  refine Zab Tryz.func46 rfl Tryz.ntmps46 rfl ?_
  repeat (first|refine Yea ?_|(refine X_id ?_;first|(refine Zad 93 rfl rfl rfl rfl rfl hS (hck _ (hv.mono fun _ _ h => (h.rd hS).ro)) ?_;rintro _ _ rfl hS)|refine Yaf ?_|refine Yag ?_|refine Ya4 ?_|refine Ybl ?_|refine Ybg ?_|refine Ya5 (fun _ _ hS _ => ?_))|refine Yem ?_|refine Yab ?_)
  rename_i p _ _;replace hS := hS.head (r' := pts p (.cells (List.toArray [.slice none 0 0,.bool false]) 207 (0,0))) (fun _ h => h)
  replace hS := hS.own_none 5 1 none
  have hS := hS.pick [1,0,0]
  obtain ⟨_,hc,hr,hw,hbk⟩ := hS.call [true,true,false]
  refine Zaa _ rfl rfl rfl rfl rfl (Zyz 8 v _ p none 0 [] _ _ (Nat.le_refl _) (hv.mono fun _ _ h => hw _ h) hwv he.symm hfit hc (by simpa using hl) (hG.mono hw)) ?_
  rintro _ w ⟨rfl,b,q,hq,hS⟩
  replace hS := hbk hS
  clear hc hr hw hbk;rw [List.nil_append] at hS hq;repeat (first|refine Yea ?_|(refine X_id ?_;first|refine Yaf ?_|refine Yag ?_|refine Yau ?_|refine Yan ?_|refine Yap ?_)|refine Yfa ?_|refine Yex ?_)
  refine .inr ⟨rfl,b,q,rfl,hq,?_⟩
  have hS := hS.pick [1]
  exact hS
 ·refine Zab Tryz.func46 rfl Tryz.ntmps46 rfl ?_
  repeat (first|refine Yea ?_|(refine X_id ?_;first|(refine Zad 93 rfl rfl rfl rfl rfl hS (hck _ (hv.mono fun _ _ h => (h.rd hS).ro)) ?_;rintro _ _ rfl hS)|refine Yaf ?_|refine Yag ?_|refine Ybj ?_|refine Ybg ?_|refine Ya5 (fun _ _ hS _ => ?_))|refine Yek ?_|refine Yew ?_)
  exact .inl ⟨h0,rfl,hS.drops⟩
theorem Zsl (r : Rec) (W : World) (hT : Sp W noF) (hbad : rchk r ≠ 0) : Calls Tryz.prog 62 #[.agg r.cells.toArray] W (Ret fun v w => v = .tuple #[.slice none 0 0,.int .i64 (rchk r : Nat)] ∧ St W noF [] w) := by
 have hS := St.start W
 have hC := fun W h => Zsk r W h
 generalize rchk r = n at hC hbad ⊢;refine Zab Tryz.func62 rfl Tryz.ntmps62 rfl ?_
 repeat (first|refine Yea ?_|(refine X_id ?_;first|(refine Zad 112 rfl rfl rfl rfl rfl hS (hC _ (hT.at_ hS)) ?_;rintro _ _ rfl hS)|refine Yaf ?_|refine Yag ?_|refine Ybj ?_|refine Ybg ?_|refine Ya5 (fun _ _ hS _ => ?_))|refine Yek ?_|refine Yew ?_)
 exact ⟨rfl,hS.drops⟩
theorem Zuf (r : Rec) (W : World) (hG : Lg W noF) (hT : Sp W noF) (hok : rchk r = 0) : Calls Tryz.prog 62 #[.agg r.cells.toArray] W (Ret fun v w => ∃ b q,v = .tuple #[.slice b (encM (recM r)).length q,.int .i64 0] ∧ (encM (recM r)).length ≤ q ∧ St W noF [own 5 1 b q (bv (encM (recM r)))] w) := by
 have hS := St.start W
 have hC := fun W h => Zsk r W h
 rw [hok] at hC;have hlen := Znx hok
 refine Zab Tryz.func62 rfl Tryz.ntmps62 rfl ?_
 repeat (first|refine Yea ?_|(refine X_id ?_;first|(refine Zad 112 rfl rfl rfl rfl rfl hS (hC _ (hT.at_ hS)) ?_;rintro _ _ rfl hS)|refine Yaf ?_|refine Yag ?_|refine Ya4 ?_|refine Ybg ?_|refine Ya5 (fun _ _ hS _ => ?_))|refine Yem ?_|refine Yab ?_)
 refine Zam (.s 0 (.s 1 (.s 3 (.s 4 (.s 6 (.s 7 (.s 9 (.s 10 (.s 12 (.s 13 (.h 2 (.h 5 (.h 8 (.h 11 (.h 14 (.h 15 (.h 16 (.h 17 (.s 18 (.s 19 (.s 20 (.s 21 .nil)))) .no) .no) .no) .no) .no) .no) .no) .no))))))))))) mixed (by kernel_rfl) rfl ?_
 have hS := hS.drew
 repeat (first|(refine Zae ?_;first|refine Ybe ?_|refine Ybk ?_|refine Yas ?_))
 refine Zaa _ rfl rfl rfl rfl rfl (Zl2 r.cmd _) ?_
 rintro _ w ⟨b1,q1,X1,rfl,hM1,hS'⟩
 replace hS := hS.plus hS';clear hS';repeat (first|(refine Zae ?_;first|refine Yas ?_)|(refine Zac ?_;first|refine Yaz ?_))
 refine Zaa _ rfl rfl rfl rfl rfl (Zl2 r.pub _) ?_
 rintro _ w ⟨b2,q2,X2,rfl,hM2,hS'⟩
 replace hS := hS.plus hS';clear hS';repeat (first|(refine Zae ?_;first|refine Yas ?_)|(refine Zac ?_;first|refine Yaz ?_))
 refine Zaa _ rfl rfl rfl rfl rfl (Zl2 r.pkg _) ?_
 rintro _ w ⟨b3,q3,X3,rfl,hM3,hS'⟩
 replace hS := hS.plus hS';clear hS';repeat (first|(refine Zae ?_;first|refine Yas ?_)|(refine Zac ?_;first|refine Yaz ?_))
 refine Zaa _ rfl rfl rfl rfl rfl (Z27 r.rev _) ?_
 rintro _ w ⟨rfl,hS'⟩
 replace hS := hS.plus hS';clear hS';repeat (first|(refine Zae ?_;first|refine Yas ?_)|(refine Zac ?_;first|refine Yaz ?_))
 refine Zaa _ rfl rfl rfl rfl rfl (Z27 r.out _) ?_
 rintro _ w ⟨rfl,hS'⟩
 replace hS := hS.plus hS';clear hS';repeat (first|refine Ybn (fun _ _ hS _ => ?_)|(refine Zae ?_;first|refine Yas ?_)|(refine Zac ?_;first|refine Yaz ?_))
 have hrow : Ro _ noF (row _ (List.flatten [[.int .i64 1,.int .i64 0,.slice b1 r.cmd.length q1,.slice none 0 0],[.int .i64 1,.int .i64 0,.slice b2 r.pub.length q2,.slice none 0 0],[.int .i64 1,.int .i64 0,.slice b3 r.pkg.length q3,.slice none 0 0],[.int .i64 0,.int .i64 r.rev,.slice none 0 0,.slice none 0 0],[.int .i64 0,.int .i64 r.out,.slice none 0 0,.slice none 0 0]])) := (hS.rd (List.mem_cons_self ..)).own_row.ro
 have hL : Mrds (RoR _ noF) [txM r.cmd,txM r.pub,txM r.pkg,nuM r.rev,nuM r.out] [[.int .i64 1,.int .i64 0,.slice b1 r.cmd.length q1,.slice none 0 0],[.int .i64 1,.int .i64 0,.slice b2 r.pub.length q2,.slice none 0 0],[.int .i64 1,.int .i64 0,.slice b3 r.pkg.length q3,.slice none 0 0],[.int .i64 0,.int .i64 r.rev,.slice none 0 0,.slice none 0 0],[.int .i64 0,.int .i64 r.out,.slice none 0 0,.slice none 0 0]] :=
  ((((Mrds.nil.snoc (hM1.mono fun _ _ h => (h.rd (hS.rd (r := bag X1) (by simp))).ro)).snoc (hM2.mono fun _ _ h => (h.rd (hS.rd (r := bag X2) (by simp))).ro)).snoc (hM3.mono fun _ _ h => (h.rd (hS.rd (r := bag X3) (by simp))).ro)).snoc (Zwv (fun _ => Zfq _ _ _) r.rev)).snoc (Zwv (fun _ => Zfq _ _ _) r.out)
 have hw := Z1b hok
 rw [recM,Zfs] at hw;refine Zaa _ rfl rfl rfl rfl rfl (of_M _ [txM r.cmd,txM r.pub,txM r.pkg,nuM r.rev,nuM r.out] 5 _ _ hrow hL (by omega)) ?_
 rintro _ w ⟨b5,q5,rows,X5,rfl,hq5,hM5,hS'⟩
 replace hS := hS.plus hS';clear hS' hrow hL hM1 hM2 hM3;have hM5 : Mrds (RX X5) [txM r.cmd,txM r.pub,txM r.pkg,nuM r.rev,nuM r.out] rows := hM5
 have hrow := (hS.rd (r := own 38 4 b5 q5 rows.flatten) (by simp)).own_row.ro
 have hv : Mrd (RoR _ noF) (recM r) [.int .i64 2,.int .i64 0,.slice none 0 0,.slice b5 5 q5] := .mk' (b := []) (rows := rows) rfl rfl (Nat.zero_le _) (Zfq _ _ _) hrow hM5.1 (fun i y cs h1 h2 => (hM5.2 i y cs h1 h2).mono fun _ _ h => (h.rd (hS.rd (r := bag X5) (by simp))).ro)
 repeat (first|(refine Zae ?_;first|refine Yas ?_)|(refine Zac ?_;first|refine Yaz ?_))
 refine Zaa _ rfl rfl rfl rfl rfl (Zoe (recM r) _ _ hv (by have := Z1b hok; omega) (Zzo hok) (by omega) (hG.at_ hS)) ?_
 rintro _ w hE
 rcases hE with ⟨hne,_⟩ | ⟨_,b6,q6,rfl,hq6,hS'⟩
 ·exact absurd (Zzp r) hne
 replace hS := hS.plus hS';clear hS';repeat (first|refine Yah ?_|refine Yex ?_|(refine Zae ?_;first|refine Yay ?_|refine Ybm ?_|refine Ycq ?_)|(refine Zac ?_;first|refine Yaz ?_))
 exact ⟨b6,q6,rfl,hq6,hS.pick [0]⟩
theorem Zf3 {k : Nat} (h : k < 10) : Lib.itoa (k : Int) = [UInt8.ofNat (48 + k)] := by
 rw [Zex,Lib.decDigits_one h]
def kA : Rec := ⟨[105,110,115,116,97,108,108],[97,110,110],[116,111,111,108],1,0⟩
theorem Z60 : rchk kA = 0 := by decide
theorem Z5n : encM (recM kA) = [40,55,58,105,110,115,116,97,108,108,51,58,97,110,110,52,58,116,111,111,108,105,49,59,105,48,59,41] := by
 have e : recM kA = liM [txM [105,110,115,116,97,108,108],txM [97,110,110],txM [116,111,111,108],nuM 1,nuM 0] := rfl
 have a1 : encM (txM [105,110,115,116,97,108,108]) = [55,58,105,110,115,116,97,108,108] := by
  rw [Zbx,show Lib.itoa (([105,110,115,116,97,108,108] : List UInt8).length : Nat) = [55] from Zf3 (k := 7) (by decide)]; rfl
 have a2 : encM (txM [97,110,110]) = [51,58,97,110,110] := by
  rw [Zbx,show Lib.itoa (([97,110,110] : List UInt8).length : Nat) = [51] from Zf3 (k := 3) (by decide)]; rfl
 have a3 : encM (txM [116,111,111,108]) = [52,58,116,111,111,108] := by
  rw [Zbx,show Lib.itoa (([116,111,111,108] : List UInt8).length : Nat) = [52] from Zf3 (k := 4) (by decide)]; rfl
 have a4 : encM (nuM 1) = [105,49,59] := by
  rw [Zcq,show Lib.itoa 1 = [49] from Zf3 (k := 1) (by decide)]; rfl
 have a5 : encM (nuM 0) = [105,48,59] := by
  rw [Zcq,show Lib.itoa 0 = [48] from Zf3 (k := 0) (by decide)]; rfl
 rw [e,Zbl,Zaz,Zaz,Zaz,Zaz,Zaz,Zaz,a1,a2,a3,a4,a5]; rfl
theorem Zef (W : World) (hG : Lg W noF) (hT : Sp W noF) : Calls Tryz.prog 26 #[] W (Ret fun v w => v = .bool true ∧ St W noF [] w) := by
 have hS := St.start W
 have h1 := fun W h g => Zuf kA W h g Z60
 rw [Z5n] at h1;refine Zab Tryz.func26 rfl Tryz.ntmps26 rfl ?_
 repeat (first|refine Yea ?_|refine Yag ?_|refine Ybl ?_|refine Yeb ?_|refine Yab ?_)
 refine Zaa _ rfl rfl rfl rfl rfl (h1 _ (hG.at_ hS) (hT.at_ hS)) ?_
 rintro _ w ⟨b1,q1,rfl,_,hS'⟩
 replace hS := hS.plus hS';clear hS';have hy1 := (hS.rd (List.mem_cons_self ..)).own_row
 repeat (first|refine Yer ?_|refine Yaf ?_|refine Yag ?_|refine Yat ?_|refine Ybi ?_|refine Yeb ?_|refine Yab ?_)
 refine X_yl (Zbk rfl rfl hy1 rfl) rfl rfl ?_
 repeat (first|refine Yer ?_|refine Yag ?_|refine Ya8 ?_|refine Ydj ?_|refine Yah ?_|refine Yec ?_)
 exact ⟨rfl,hS.drops⟩
end Cr
namespace Cr
open Go Go.Proofs
set_option maxRecDepth 100000
set_option maxHeartbeats 64000000

structure DiskM where
 off : Bool
 armed : Bool
 left : Int
 laid : List (List UInt8)
 line : List (Int × List UInt8)
 writes : Int
 flushes : Int
structure DiskM.ok (D : DiskM) : Prop where
 laid64 : ∀ s ∈ D.laid,s.length = 64
 line64 : ∀ x ∈ D.line,x.2.length = 64 ∧ 0 ≤ x.1 ∧ x.1 < D.laid.length
 some_ : 1 ≤ D.laid.length
 most : D.laid.length ≤ 4096
 left0 : 0 ≤ D.left
 left1 : D.left ≤ 9223372036854775807
def Zbb (l : List (List UInt8)) : List Value := l.flatMap bv
def Za5 (l : List (Int × List UInt8)) : List Value := l.flatMap fun x => .int .i64 x.1 :: bv x.2
def disk (p : Nat) (D : DiskM) : Res := fun h => D.ok ∧ ∃ al cl ai ci,D.laid.length ≤ cl ∧ D.line.length ≤ ci ∧
 Sep [pts p (.cells #[.bool D.off,.bool D.armed,.int .i64 D.left,.slice al D.laid.length cl,.slice ai D.line.length ci,.int .i64 D.writes,.int .i64 D.flushes] 164),
  own 334 64 al cl (Zbb D.laid),own 336 65 ai ci (Za5 D.line)] h

theorem St.shutR {W : World} {F : Nat → Prop} {r : Res} {rs rs' : List Res} {w : World} (hS : St W F (rs' ++ rs) w) (hr : ∀ h,Sep rs' h → r h) : St W F (r :: rs) w :=
 hS.imp fun h hh => by
  obtain ⟨h1,h2,a,b,c,d⟩ := Sep.append hh
  exact ⟨h1,h2,hr _ a,b,c,d⟩
/-! ### On,Sectors,has,use -/
theorem Rd.disk {w : World} {p : Nat} {D : DiskM} (h : Rd w (disk p D)) : D.ok ∧ ∃ al cl ai ci,D.laid.length ≤ cl ∧ D.line.length ≤ ci ∧
  w.heap[p]? = some (.cells #[.bool D.off,.bool D.armed,.int .i64 D.left,.slice al D.laid.length cl,.slice ai D.line.length ci,.int .i64 D.writes,.int .i64 D.flushes] 164) ∧
  Rd w (row al (Zbb D.laid)) ∧ Rd w (row ai (Za5 D.line)) := by
 obtain ⟨f,⟨hok,al,cl,ai,ci,h1,h2,hs⟩,ha⟩ := h
 have hr := Rd.sep ⟨f,hs,ha⟩
 exact ⟨hok,al,cl,ai,ci,h1,h2,(hr _ (by simp)).pts,(hr _ (List.mem_cons_of_mem _ (List.mem_cons_self ..))).own_row,(hr _ (List.mem_cons_of_mem _ (List.mem_cons_of_mem _ (List.mem_cons_self ..)))).own_row⟩
theorem on_ (p : Nat) (D : DiskM) (W : World) (hd : Rd W (disk p D)) :
  Calls Tryz.prog 76 #[.pointer (some ⟨p,0,none⟩)] W (Ret fun v w => v = .bool (!D.off) ∧ W = w) := by
 obtain ⟨_,al,cl,ai,ci,_,_,hc,_,_⟩ := hd.disk
 have hS := St.start W
 refine Zab Tryz.func76 rfl Tryz.ntmps76 rfl ?_
 repeat (first|refine Yer ?_|(refine X_id ?_;first|refine Yaf ?_|refine Yag ?_|refine Yau ?_|refine Yan ?_|refine Ya8 ?_|refine X_yl (Zop rfl rfl) rfl rfl ?_|refine X_yl (Zgz rfl rfl rfl) rfl rfl ?_|refine Yb5 ?_)|refine Ye1 ?_|refine Yec ?_)
 exact ⟨rfl,rfl⟩
theorem Zno (p : Nat) (D : DiskM) (W : World) (hd : Rd W (disk p D)) :
  Calls Tryz.prog 77 #[.pointer (some ⟨p,0,none⟩)] W (Ret fun v w => v = .int .i64 (D.laid.length : Nat) ∧ W = w) := by
 obtain ⟨_,al,cl,ai,ci,_,_,hc,_,_⟩ := hd.disk
 have hS := St.start W
 refine Zab Tryz.func77 rfl Tryz.ntmps77 rfl ?_
 repeat (first|refine Yea ?_|(refine X_id ?_;first|refine Yaf ?_|refine Yag ?_|refine Yau ?_|refine Yan ?_|refine Yav ?_|refine Ybu ?_|refine Yb5 ?_)|refine Yfa ?_|refine Yec ?_)
 exact ⟨rfl,rfl⟩
def Zdm (D : DiskM) (no : Int) : Bool := decide (0 ≤ no ∧ no < D.laid.length)
theorem has_ (p : Nat) (D : DiskM) (no : Int) (W : World) (hd : Rd W (disk p D)) :
  Calls Tryz.prog 199 #[.pointer (some ⟨p,0,none⟩),.int .i64 no] W (Ret fun v w => v = .bool (Zdm D no) ∧ W = w) := by
 by_cases h : 0 ≤ no
 ·refine Zab Tryz.func199 rfl Tryz.ntmps199 rfl ?_
  repeat (first|refine Yer ?_|refine Yaf ?_|refine Yag ?_|refine Yb9 ?_|refine Yeb ?_|refine Yab ?_)
  refine Zaa _ rfl rfl rfl rfl rfl (Zno p D W hd) ?_
  rintro _ _ ⟨rfl,rfl⟩
  repeat (first|refine Yer ?_|(refine X_id ?_;first|refine Yag ?_|refine Ya8 ?_|refine X_yl (Zjj rfl rfl rfl) rfl rfl ?_)|refine Yah ?_|refine Yec ?_)
  exact ⟨by simp [Zdm,h],rfl⟩
 ·refine Zab Tryz.func199 rfl Tryz.ntmps199 rfl ?_
  repeat (first|refine Yep ?_|refine Yaf ?_|refine Yag ?_|refine Ya1 ?_|refine Yce ?_|refine Ye1 ?_|refine Yec ?_)
  exact ⟨by simp [Zdm,h],rfl⟩

/-! ### power -/
def useB (off armed : Bool) (left : Int) : Bool := !off && (!armed || decide (¬ left = 0))
def Zpd (off armed : Bool) (left : Int) : Bool := off || (armed && decide (left = 0))
def Zne (off armed : Bool) (left : Int) : Int := if off = false ∧ armed = true ∧ ¬ left = 0 then left - 1 else left
theorem use_ (p : Nat) (off armed : Bool) (left : Int) (r : List Value) (T : TypeId) (W : World) (F : Nat → Prop) (h0 : 0 ≤ left) (h1 : left ≤ 9223372036854775807)
  (hS : St W F [pts p (.cells (.bool off :: .bool armed :: .int .i64 left :: r).toArray T)] W) :
  Calls Tryz.prog 239 #[.pointer (some ⟨p,0,none⟩)] W (Ret fun v w => v = .bool (useB off armed left) ∧
   St W F [pts p (.cells (.bool (Zpd off armed left) :: .bool armed :: .int .i64 (Zne off armed left) :: r).toArray T)] w) := by
 cases off
 ·cases armed
  ·refine Zab Tryz.func239 rfl Tryz.ntmps239 rfl ?_
   repeat (first|refine Yea ?_|(refine X_id ?_;first|refine Yaf ?_|refine Yag ?_|refine Yau ?_|refine Yan ?_|refine Ybq ?_|refine Yap ?_)|refine Yfc ?_|refine Yey ?_)
   exact ⟨rfl,hS⟩
  ·by_cases h : left = 0
   ·subst h
    refine Zab Tryz.func239 rfl Tryz.ntmps239 rfl ?_
    repeat (first|refine Yea ?_|(refine X_id ?_;first|refine Yaf ?_|refine Yag ?_|refine Yau ?_|refine Yan ?_|refine Ybd ?_|refine Ybi ?_|refine Yap ?_|refine Yao (fun _ hS _ => ?_))|refine Yfc ?_|refine Yey ?_)
    exact ⟨rfl,hS⟩
   ·refine Zab Tryz.func239 rfl Tryz.ntmps239 rfl ?_
    repeat (first|refine Yea ?_|(refine X_id ?_;first|refine Yaf ?_|refine Yag ?_|refine Yau ?_|refine Yan ?_|refine Ybd ?_|refine Ybh ?_|refine Ybz ?_|refine Yap ?_|refine Yao (fun _ hS _ => ?_))|refine Yfd ?_|refine Yab ?_|refine Yaw ?_|refine Yam ?_)
    exact ⟨by simp [useB,h],by simpa [Zpd,Zne,h] using hS⟩
 ·refine Zab Tryz.func239 rfl Tryz.ntmps239 rfl ?_
  repeat (first|refine Yea ?_|(refine X_id ?_;first|refine Yaf ?_|refine Yag ?_|refine Yau ?_|refine Yan ?_|refine Yap ?_)|refine Yfb ?_|refine Yey ?_)
  exact ⟨rfl,hS⟩
/-! ### New -/
def zero64 : List UInt8 := List.replicate 64 0
def Zbf (n : Nat) : DiskM := { off := false,armed := false,left := 0,laid := List.replicate n zero64,line := [],writes := 0,flushes := 0 }
theorem Zu4 {n : Nat} (h : 1 ≤ n) (h' : n ≤ 4096) : (Zbf n).ok := by
 refine ⟨fun s hs => ?_,fun x hx => by simp [Zbf] at hx,by simpa [Zbf] using h,by simpa [Zbf] using h',by simp [Zbf],by simp [Zbf]⟩
 simp [Zbf] at hs; rw [hs.2]; simp [zero64]
theorem Zee (n : Nat) : Zbb (List.replicate n zero64) = List.replicate (n * 64) (.int .u8 0) := by
 induction n with
 | zero => rfl
 | succ n ih =>
  have e : bv zero64 = List.replicate 64 (.int .u8 0) := by simp [bv,zero64]
  have : Zbb (List.replicate (n + 1) zero64) = bv zero64 ++ Zbb (List.replicate n zero64) := by simp [Zbb,List.replicate_succ]
  rw [this,ih,e,List.replicate_append_replicate]
  congr 1; omega
theorem Zku (m n : Nat) : madeCells (List.replicate m (Value.int .u8 0)).toArray n = (List.replicate n (if m = 0 then default else Value.int .u8 0)).toArray := by
 apply Array.ext
 ·simp [madeCells]
 ·intro i h1 h2
  simp only [madeCells,Array.getElem_map,Array.getElem_range,List.size_toArray,List.length_replicate]
  by_cases hm : m = 0
  ·subst hm; simp
  ·have : i % m < m := Nat.mod_lt _ (by omega)
   simp [hm,this]
theorem new_ (n : Nat) (W : World) (h1 : 1 ≤ n) (h2 : n ≤ 4096) : Calls Tryz.prog 36 #[.int .i64 (n : Int)] W (Ret fun v w => ∃ p,v = .tuple #[.pointer (some ⟨p,0,none⟩),.int .i64 0] ∧ St W noF [disk p (Zbf n)] w) := by
 have hS := St.start W
 refine Zab Tryz.func36 rfl Tryz.ntmps36 rfl ?_
 repeat (first|refine Yer ?_|(refine X_id ?_;first|refine Yaf ?_|refine Yag ?_|refine Ya1 ?_|refine Ya6 ?_|refine Ybs ?_)|refine Yem ?_|refine Yab ?_)
 refine Z1w rfl rfl rfl (by omega) (by omega) (by omega) (by omega) rfl rfl hS (fun al w hS _ => ?_)
 repeat (first|refine Yea ?_|refine Yag ?_|refine Ybl ?_|refine Ya5 (fun _ _ hS _ => ?_)|refine Yah ?_|refine Yex ?_)
 refine ⟨_,rfl,?_⟩
 have e : madeCells (Value.agg (List.replicate 64 (Value.int .u8 0)).toArray).cells ((n : Int).toNat * 64) = (Zbb (Zbf n).laid).toArray := by
  show madeCells (List.replicate 64 (Value.int .u8 0)).toArray _ = _
  rw [Zku,Zbf,Zee]; simp
 rw [e] at hS;have hl : (Zbb (Zbf n).laid).length = n * 64 := by rw [Zbf,Zee]; simp
 have hS := ((hS.second (Za7 (c := n) (cs := Zbb (Zbf n).laid) hl (by simp only [maxLen]; omega) (by simp))).own_none 336 65 none).sel [false,true,true]
 refine St.shutR (rs' := [_,_,_]) (rs := []) hS fun h hh => ⟨Zu4 h1 h2,some ⟨al,0,none⟩,n,none,0,by simp [Zbf],by simp [Zbf],?_⟩
 have el : (Zbf n).laid.length = n := by simp [Zbf]
 rw [el];exact hh

/-! ### slices.Clone at bytes -/
theorem Z5u (a : Option Addr) (n c : Nat) (s : List UInt8) (W : World) (hs : Rd W (bytes a s)) (hn : s.length = n) (hlim : n ≤ 1073741824) :
  Calls Tryz.prog 201 #[.slice a n c] W (Ret fun v w => ∃ a' c',v = .slice a' n c' ∧ (a' = none ↔ a = none) ∧ n ≤ c' ∧ St W noF [own 5 1 a' c' (bv s)] w) := by
 have hS := St.start W
 cases a with
 | none =>
  have h0 : bv s = [] := hs.none_nil
  obtain rfl : n = 0 := by rw [← hn,← Zah s,h0]; rfl
  refine Zab Tryz.func201 rfl Tryz.ntmps201 rfl ?_
  repeat (first|refine Yea ?_|refine Yaf ?_|refine Yag ?_|refine Ycs ?_|refine Yek ?_|refine Yel ?_)
  refine ⟨none,0,rfl,by simp,by omega,?_⟩
  rw [h0];exact hS.own_none _ _ _
 | some ad =>
  refine Zab Tryz.func201 rfl Tryz.ntmps201 rfl ?_
  repeat (first|refine Yea ?_|refine Yaf ?_|refine Yag ?_|refine Ycs ?_|refine Ybn (fun _ _ hS _ => ?_)|refine Yem ?_|refine Yab ?_)
  rename_i b w hb;have hs := hs.below hb
  repeat (first|fail)
  refine Zar rfl rfl rfl rfl rfl hS rfl (by omega) hs (by simp [hn]) Zfd (by omega) (by simp only [maxLen]; omega) (fun a' c' w hS hc hnil => ?_)
  repeat (first|refine Yea ?_|refine Yag ?_|refine Yah ?_|refine Yec ?_)
  refine ⟨a',c',by rw [Nat.zero_add],by rw [hnil]; simp,by omega,hS⟩
end Cr
