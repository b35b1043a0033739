/-
  Layer 8 (tree): a tree is opened on a table that is new.
  The laws' helpers To of layers 6 and 7.
  The laws' helper known of layer 7: the chapter's examples.
  Layer 8 (tree): a change is begun; a fresh disk,log,table,tree.
  Layer 8 (tree): a fresh disk,log,table,tree; a change begun on it.
  Layer 11 (chain): a fresh table for a chain.
  Layer 9 (table): the keys of a table (only that they are told).
  Layer 9 (table): the first key that is none.
  Layer 9 (table): the keys of a table.
  Layer 9 (table): names,Keys.
  Layer 9 (table): Keys.
  Layer 11 (chain): what a chain tells: Len,Head.
  DERIVED: THE SHELF's CONTRACTS AT THIS DUMP,IN PLAIN WORDS (tools/lay-plain.mjs out of 'TryzShelf.lean',which tools/lay-shelf.mjs wrote): THE SAME DECLARATIONS UNDER THE SAME NAMES: 'import','namespace','open','def','theorem' AND NOTHING ELSE: no command of the shelf's: FOR A HAND-IN. Each laying: the table of numbers ('.._ren') and one theorem,a field a fact of the dump's own or the kernel's comparison; each contract: ONE APPLICATION.
  Layer 11 (chain): a record's key.
  Layer 11 (chain): what lies behind a chain's mark.
  Layer 11 (chain): Get.
  Layer 11 (chain) in plain words: the tree of a change whose one table holds so many records,one behind the other; one more record put,a record told.
  Layer 11 (chain) in plain words,0: a record's value.
  Layer 11 (chain) in plain words,2: one more record put into the table; a record's value told.
  Layer 9 (table) in plain words: one value put into a fresh tree.
  The laws of layer 9: a text cut; the known answers,off the contracts.
  The law TableLast: what it computes.
-/
import Derived.Test.YtpbgaojjlepkcaaGreatDoorTba14
import Derived.Test.YtpbgaojjlepkcaaGreatDoorTba9
import Derived.Test.YtpbgaojjlepkcaaGreatDoorTba12
import Derived.Shelf.Strings.Builder1
import Derived.Shelf.Strings.Builder2
import Derived.Shelf.Small.Strs
import Derived.Shelf.Strings.BuilderF
import Derived.Shelf.Strconv.Atoi
import Derived.Shelf.Strconv.Itoa0
import Derived.Shelf.Strconv.Itoa1
import Derived.Shelf.LaysM
import Derived.Shelf.Strconv.Itoa2
import Derived.Shelf.Strconv.Itoa3
import Derived.Shelf.Strconv.AtoiErrFast
import Derived.Shelf.Strconv.ParseIntEmpty
import Derived.Shelf.Strconv.AtoiFail
import Derived.Shelf.Strconv.Clone
import Derived.Shelf.Strconv.SyntaxError
import Derived.Shelf.LaysC
import Derived.Shelf.Strconv.ToError
import Derived.Shelf.Strconv.Lower
import Derived.Shelf.Strconv.ParseUint10
import Derived.Shelf.Strconv.ParseUint10Empty
import Derived.Shelf.Strconv.ParseUint10Any
import Derived.Shelf.Strconv.ParseInt10
import Derived.Shelf.Strconv.AtoiLong
import Derived.Shelf.Strconv.AtoiInnerAll
import Derived.Shelf.Strconv.RangeError
import Derived.Shelf.Strconv.ToErrorRange
import Derived.Shelf.Strconv.AtoiAll
import Derived.Shelf.Strconv.ErrVarAll
import Derived.Shelf.Sort.Plain
import Derived.Shelf.Strings.Prefix
import Derived.Shelf.Strings.Fields
import Derived.Shelf.Strings.SplitShaped
import Derived.Shelf.Unicode.Latin
import Derived.Shelf.Bits.Mul64
import Derived.Shelf.Strings.Repeat
import Derived.Shelf.Unicode.Is16White
import Derived.Shelf.Unicode.IsSpaceAny
import Derived.Shelf.Unicode.Is16Any
import Derived.Shelf.Unicode.Is32Any
import Derived.Shelf.Unicode.ExclAny
import Derived.Shelf.Slices.Turned
import Derived.Shelf.Slices.In.SortNone
import Derived.Test.YtpbgaojjlepkcaaGreatDoorProg
import Derived.Test.YtpbgaojjlepkcaaGreatDoorTba5
import Derived.Test.YtpbgaojjlepkcaaGreatDoorTba6
import Derived.Test.YtpbgaojjlepkcaaGreatDoorTba10
namespace Cr
open Go Go.Proofs
set_option maxRecDepth 100000
set_option maxHeartbeats 8000000
attribute [local irreducible] Calls

def Zmj : Chg := ⟨0,rootNd,false⟩
def Za1 (n : Nat) : Tb := some rootNd :: List.replicate (n - 1) none
theorem Zt7 : Zir (List.replicate 10 none) 40 30 [Zmj] = (0,Za1 10) := by kernel_rfl
theorem Zul {rd fs : List Int} {tp lp p m : Nat} (W : World) (F : Nat → Prop) (hG : Gl W F rd fs) (hL : Lg W F) (hm : (m : Int) < last) (hS : St W F [itab rd fs tp lp p 60 m 10 40 (List.replicate 10 none)] W) :
  Calls Tryz.prog 39 #[.pointer (some ⟨tp,0,none⟩)] W (Ret fun v w => ∃ f,v = .tuple #[.pointer (some ⟨f,0,none⟩),.int .i64 0] ∧ St W F [pts f (.cells (List.toArray [.pointer (some ⟨tp,0,none⟩),.int .i64 0]) 100 (0,0)),itab rd fs tp lp p 60 (m + 1) 10 40 (Za1 10)] w) := by
 have h0 : atT (List.replicate 10 none) 0 = none := by kernel_rfl
 refine Zab Tryz.func39 rfl Tryz.ntmps39 rfl ?_
 repeat (first|refine Yd0 ?_|refine Yee ?_|refine Yd1 ?_|refine Yab ?_)
 obtain ⟨F2,hS2,hro,hw,hbk⟩ := hS.call []
 have hIt := hro (itab rd fs tp lp p 60 m 10 40 (List.replicate 10 none)) (by simp)
 have htab := Zhv hIt
 refine Zaa _ rfl rfl rfl rfl rfl (htab.get _ 0 fun r h => h.rd hS2) ?_
 rintro v w hV
 rw [h0] at hV
 obtain ⟨rfl,hS'⟩ := hV
 replace hS := hS.plus hS'
 clear hS' hS2 hro hw hbk hIt htab
 repeat (first|refine Yd0 ?_|(refine X_id ?_;first|refine Yaf ?_|refine Yag ?_|refine Ya1 ?_|refine Ybi ?_|refine Ybk ?_|refine Yao (fun _ hS _ => ?_)|refine Yar (fun _ _ hS _ => ?_))|refine Yew ?_|refine Yab ?_)
 refine Zaa _ rfl rfl rfl rfl rfl (Zjh none [] 0 _ (Zge _ _ _) ⟨by decide,fun _ h => (by cases h)⟩ (hL.at_ hS)) ?_
 rintro _ w ⟨a,q,rfl,hq,hS'⟩
 replace hS := hS.plus hS'
 clear hS'
 repeat (first|refine Yaa ?_|refine Ybk ?_|refine Ybf (fun _ _ hS _ => ?_))
 rename_i b2 _ _
 obtain ⟨_,hc,hr,hw,hbk⟩ := hS.call [false,false,false,true]
 have hro := hr (own 5 1 a q (bv (wrD []))) (by simp)
 have hrw := hr (own 193 7 (some ⟨b2,0,none⟩) 1 [.int .i64 0,.int .i64 1,.int .i64 493,.int .i64 0,.int .i64 0,.slice a (wrD []).length q,.bool false]) (by simp)
 have hC : Chgs _ _ (some ⟨b2,0,none⟩) [⟨Zmj,a,q⟩] := ⟨hrw.own_row,fun x hx => by obtain rfl := List.mem_singleton.1 hx; exact hro.own_row⟩
 refine Zaa _ rfl rfl rfl rfl rfl (Z4j (some ⟨b2,0,none⟩) 1 [⟨Zmj,a,q⟩] _ _ (hG.mono hw) hC (by simp) (by simp) hm hc) ?_
 rintro _ w ⟨rfl,hS⟩
 replace hS := hbk hS
 clear hc hr hw hbk hC hro hrw
 have hap : Zir (List.replicate 10 none) 40 (60 / 2) (([⟨Zmj,a,q⟩] : List ChgA).map ChgA.c) = (0,Za1 10) := Zt7
 rw [hap] at hS ⊢
 simp only at hS ⊢
 repeat (first|refine Yeg ?_|refine Yaf ?_|refine Yag ?_|refine Ybi ?_|refine Yd1 ?_|refine Yd8 ?_)
 refine Zaa _ rfl rfl rfl rfl rfl (Zta _ (hS.rd (r := itab rd fs tp lp p 60 (m + 1) 10 40 (Za1 10)) (by simp)).ro (hL.at_ hS) rfl rfl) ?_
 rintro _ w ⟨rfl,hS'⟩
 replace hS := hS.plus hS'
 clear hS'
 repeat (first|refine Yeg ?_|(refine X_id ?_;first|refine Yaf ?_|refine Yag ?_|refine Ya5 ?_|refine Ybb ?_|refine Ybd ?_|refine Ybk ?_|refine Ya6 (fun _ _ hS _ => ?_))|refine Yep ?_|refine Yeo ?_)
 exact ⟨_,rfl,hS.took⟩
end Cr
namespace Cr
open Go Go.Proofs
set_option maxRecDepth 100000
set_option maxHeartbeats 16000000
attribute [local irreducible] Calls

end Cr
namespace Cr
open Go Go.Proofs
set_option maxRecDepth 100000
set_option maxHeartbeats 16000000
attribute [local irreducible] Calls

theorem St.newLog {W : World} {F : Nat → Prop} {rs : List Res} {w : World} {lp p j k : Nat} (hj : j ≤ 1024) (hS : St W F (Zb9 lp p 1 0 0 j 0 false :: disk p (Za6 (1 + j + k)) :: rs) w) : St W F (qlog lp p j 0 (List.replicate k zero64) :: rs) w :=
 hS.shutQlog ⟨⟨rfl,rfl,by simp [Za6]⟩,rfl,Int.le_refl _,Int.le_refl _,hj,fun i hi => by
  rw [List.length_replicate] at hi
  simp only [Za6,List.getD_eq_getElem?_getD,List.getElem?_replicate]
  rw [if_pos (by omega),if_pos hi]⟩
theorem Znp {k i : Nat} (h : i < k) : (List.replicate k zero64).getD i [] = zero64 := by
 rw [List.getD_eq_getElem?_getD,List.getElem?_replicate,if_pos h]; rfl
end Cr
namespace Cr
open Go Go.Proofs
set_option maxRecDepth 100000
set_option maxHeartbeats 8000000
attribute [local irreducible] Calls

theorem Zxn (b off : Nat) (x : Int) (l : List Value) (T : TypeId) (W : World) [hn : Nth l off (.int .i64 x)] (hc : W.heap[b]? = some (.cells l.toArray T)) :
  Calls Tryz.prog 41 #[.pointer (some ⟨b,off,none⟩)] W (Ret fun v w => v = .int .i64 x ∧ W = w) := by
 have hS := St.start W
 refine Zab Tryz.func41 rfl Tryz.ntmps41 rfl ?_
 repeat (first|refine Yd0 ?_|(refine X_id ?_;first|refine Yaf ?_|refine Yag ?_|refine Yau ?_|refine Ybz ?_|refine Zw6 rfl rfl rfl (Zb0 (by assumption)) rfl rfl ?_)|refine Yed ?_|refine Yd2 ?_)
 exact ⟨rfl,rfl⟩
def t0 : Tn := .mk [] 0 ⟨1,493,0,0⟩ [] []
theorem Z0p : TreeOk 10 t0 := by
 have hs : subT t0 = [t0] := by kernel_rfl
 refine ⟨fun u hu => ?_,?_,⟨rfl,rfl⟩,of_decide_eq_true (by kernel_rfl),of_decide_eq_true (by kernel_rfl)⟩
 case refine_2 =>
  rw [show (Zcf t0).map (·.1) = [0] by kernel_rfl]
  simp
 rw [hs] at hu
 obtain rfl := List.mem_singleton.1 hu
 exact ⟨by kernel_rfl,by decide,fun _ => ⟨rfl,of_decide_eq_true (by kernel_rfl)⟩,List.Pairwise.nil,fun k hk => (by cases hk),fun h => absurd rfl h⟩
theorem Z4v (no : Int) : Nt t0 no = atT (Za1 10) no := by
 have he : Zcf t0 = [(0,rootNd)] := by kernel_rfl
 unfold Nt
 rw [he]
 by_cases h0 : no = 0
 ·subst h0
  rfl
 ·unfold atT
  have h1 : getA no [((0 : Int),rootNd)] = none := by
   show (if _ then _ else _) = _
   rw [if_neg fun e => h0 e]
   rfl
  rw [h1]
  split
  ·next h =>
   obtain ⟨k,hk⟩ : ∃ k,no.toNat = k + 1 := ⟨no.toNat - 1,by omega⟩
   rw [hk,Za1,List.getD_cons_succ,List.getD_eq_getElem?_getD,List.getElem?_replicate]
   split <;> rfl
  ·rfl
theorem Zuo {f tp : Nat} {b : Int} {T : Int → Option Nd} (W : World) (hb : Rd W (pts f (.cells (List.toArray [.pointer (some ⟨tp,0,none⟩),.int .i64 b]) 100 (0,0)))) :
  Calls Tryz.prog 8 #[.pointer (some ⟨f,0,none⟩)] W (Ret fun v w => ∃ c,v = .pointer (some ⟨c,0,none⟩) ∧ St W noF [chR c f b T T []] w) := by
 have hS := St.start W
 have hc := hb.ro
 refine Zab Tryz.func8 rfl Tryz.ntmps8 rfl ?_
 repeat (first|refine Yd0 ?_|(refine X_id ?_;first|refine Yaf ?_|refine Yag ?_|refine Yau ?_|refine Yan ?_|refine Ybr ?_)|refine Yeb ?_|refine Yab ?_)
 refine Zaa _ rfl rfl rfl rfl rfl (Zxn f 1 b _ _ _ (Rd.pts hb)) ?_
 rintro _ _ ⟨rfl,rfl⟩
 repeat (first|refine Yaa ?_)
 refine Zeo (Value.int .i64) rfl rfl rfl hS (fun pm w hS => ?_)
 repeat (first|refine Yaa ?_)
 refine Zeo (Value.int .i64) rfl rfl rfl hS (fun dm w hS => ?_)
 repeat (first|refine Yd0 ?_|refine Yag ?_|refine Ybk ?_|refine Ya6 (fun _ _ hS _ => ?_)|refine Yah ?_|refine Yd2 ?_)
 rename_i c _ _
 have hS2 := hS.bagNil.pick [0,0,1,0]
 exact ⟨c,rfl,St.shutCh (P := []) (D := []) ⟨List.nodup_nil,List.nodup_nil,fun _ => rfl,fun x hx => (by cases hx)⟩ hS2⟩
end Cr
namespace Cr
open Go Go.Proofs
set_option maxRecDepth 100000
set_option maxHeartbeats 8000000
attribute [local irreducible] Calls

theorem Z49 (W : World) : Calls Tryz.prog 40 #[.int .i64 10] W (Ret fun v w => ∃ r,v = .pointer (some ⟨r,0,none⟩) ∧ St W noF [] w) := by
 have hS := St.start W
 refine Zab Tryz.func40 rfl Tryz.ntmps40 rfl ?_
 repeat (first|refine Yd0 ?_|refine Yaf ?_|refine Yag ?_|refine Ybk ?_|refine Ya6 (fun _ _ hS _ => ?_)|refine Yed ?_|refine Yd2 ?_)
 exact ⟨_,rfl,hS.drops⟩
theorem Z06 (rd fs : List Int) : Zth rd fs (Za6 112) 60 = ⟨0,Za6 112,0,false⟩ := by kernel_rfl
theorem Zvv (rd fs : List Int) (W : World) (hG : Gl W noF rd fs) (hL : Lg W noF) : Calls Tryz.prog 7 #[] W (Ret fun v w => ∃ (q lp tp f r : Nat),v = .tuple #[.pointer (some ⟨q,0,none⟩),.pointer (some ⟨f,0,none⟩),.pointer (some ⟨r,0,none⟩)] ∧ St W noF [pts f (.cells (List.toArray [.pointer (some ⟨tp,0,none⟩),.int .i64 0]) 100 (0,0)),itab rd fs tp lp q 60 2 10 40 (Za1 10)] w) := by
 have hS := St.start W
 refine Zab Tryz.func7 rfl Tryz.ntmps7 rfl ?_
 repeat (first|refine Yd0 ?_|refine Yag ?_|refine Yd1 ?_|refine Yab ?_)
 refine Zaa _ rfl rfl rfl rfl rfl (new_ 112 _ (by omega) (by omega)) ?_
 rintro _ w ⟨q,rfl,hS'⟩
 replace hS := hS.plus hS'
 clear hS'
 repeat (first|refine Yd0 ?_|refine Yes ?_|refine Yd1 ?_|refine Yab ?_)
 have hopen := Z5e q (Za6 112) 60 rd fs
 rw [Z06] at hopen
 obtain ⟨_,hc,hr,hw,hbk⟩ := hS.call [true]
 refine Zaa _ rfl rfl rfl rfl rfl (hopen _ _ (hG.mono hw) (by simp [Za6]) hc) ?_
 rintro _ w (⟨h,_⟩ | ⟨_,lp,rfl,hS⟩)
 ·exact absurd rfl h
 replace hS := hbk hS
 clear hc hr hw hbk hopen
 replace hS : St W noF [qlog lp q 60 0 (List.replicate 51 zero64)] w := St.newLog (k := 51) (by omega) hS
 repeat (first|refine Yd0 ?_|refine Yes ?_|refine Yd1 ?_|refine Yab ?_)
 obtain ⟨_,hc,hr,hw,hbk⟩ := hS.call [true]
 refine Zaa _ rfl rfl rfl rfl rfl (Z1s lp q 60 0 10 40 _ rd fs _ _ (hG.mono hw) (by simp) (by omega) (by omega) (by omega) (by omega) (by simp [last]) (Znp (by omega)) (fun i hi => Znp (by omega)) hc) ?_
 rintro _ w ⟨tp,rfl,hS⟩
 replace hS := hbk hS
 clear hc hr hw hbk
 repeat (first|refine Yd0 ?_|refine Yes ?_|refine Yd1 ?_|refine Yab ?_)
 obtain ⟨_,hc,hr,hw,hbk⟩ := hS.call [true]
 refine Zaa _ rfl rfl rfl rfl rfl (Zul _ _ (hG.mono hw) (hL.mono hw) (by simp [last]) hc) ?_
 rintro _ w ⟨f,rfl,hS⟩
 replace hS := hbk hS
 clear hc hr hw hbk
 repeat (first|refine Yeg ?_|(refine X_id ?_;first|refine Yaf ?_|refine Yag ?_|refine Ya1 ?_|refine Ya4 ?_|refine Ybd ?_)|refine Yeb ?_|refine Yab ?_)
 refine Zaa _ rfl rfl rfl rfl rfl (Z49 _) ?_
 rintro _ w ⟨r,rfl,hS'⟩
 replace hS := hS.plus hS'
 clear hS'
 repeat (first|refine Yd0 ?_|refine Yag ?_|refine Yah ?_|refine Yab ?_|refine Ydp ?_)
 exact ⟨q,lp,tp,f,r,rfl,hS.took⟩
end Cr
namespace Cr
open Go Go.Proofs
set_option maxRecDepth 100000
set_option maxHeartbeats 8000000
attribute [local irreducible] Calls

abbrev tbC (c : Nat) (name : List UInt8) : Obj := .cells (List.toArray [.pointer (some ⟨c,0,none⟩),.string (str name)]) 107 (0,0)
theorem tof_ (c : Nat) (name : List UInt8) (hn : nameOk name) (W : World) : Calls Tryz.prog 9 #[.pointer (some ⟨c,0,none⟩),.string (str name)] W (Ret fun v w => ∃ tb,v = .tuple #[.pointer (some ⟨tb,0,none⟩),.int .i64 0] ∧ St W noF [pts tb (tbC c name)] w) := by
 have hS := St.start W
 have hN := fun W => Zve name W
 simp only [decide_eq_true hn] at hN
 refine Zab Tryz.func9 rfl Tryz.ntmps9 rfl ?_
 repeat (first|refine Yd0 ?_|refine Yaf ?_|refine Yag ?_|refine Ybr ?_|refine Yem ?_|refine Yab ?_)
 refine Zaa _ rfl rfl rfl rfl rfl (hN _) ?_
 rintro _ w ⟨rfl,hS'⟩
 replace hS := hS.plus hS'
 clear hS'
 repeat (first|refine Yd0 ?_|(refine X_id ?_;first|refine Yaf ?_|refine Yag ?_|refine Ybb ?_|refine Ybk ?_|refine Ya6 (fun _ _ hS _ => ?_))|refine Yep ?_|refine Yab ?_|refine Yat ?_|refine Ybv ?_)
 exact ⟨_,rfl,hS⟩
theorem Zuk {rd fs : List Int} {tp lp p j m n nb f : Nat} {b : Int} {T : Tb} {W : World} {F : Nat → Prop} (h : Ro W F (pts f (.cells (List.toArray [.pointer (some ⟨tp,0,none⟩),.int .i64 b]) 100 (0,0)))) (hI : Ro W F (itab rd fs tp lp p j m n nb T)) : TreeRo W F f tp n b (atT T) := ⟨h,Zhv hI⟩
end Cr
namespace Cr
open Go Go.Proofs
set_option maxRecDepth 100000
set_option maxHeartbeats 8000000
attribute [local irreducible] Calls

section
variable {c f tp n : Nat} {b : Int} {T : Int → Option Nd} {t : Tn}
end
end Cr
namespace Cr
open Go Go.Proofs
set_option maxRecDepth 100000
set_option maxHeartbeats 8000000
attribute [local irreducible] Calls

section
variable {c f tp n : Nat} {b : Int} {T : Int → Option Nd} {t : Tn}
end
end Cr
namespace Cr
open Go Go.Proofs
set_option maxRecDepth 100000
set_option maxHeartbeats 8000000
attribute [local irreducible] Calls

section
variable {c f tp n : Nat} {b : Int} {T : Int → Option Nd} {t : Tn}
end
end Cr
namespace Cr
open Go Go.Proofs
set_option maxRecDepth 100000
set_option maxHeartbeats 8000000
attribute [local irreducible] Calls

section
variable {c f tp n : Nat} {b : Int} {T : Int → Option Nd} {t : Tn}
end
end Cr
namespace Cr
open Go Go.Proofs
set_option maxRecDepth 100000
set_option maxHeartbeats 8000000
attribute [local irreducible] Calls

section
variable {c f tp n : Nat} {b : Int} {T : Int → Option Nd} {t : Tn}
end
end Cr
namespace Cr
open Go Go.Proofs
set_option maxRecDepth 100000
set_option maxHeartbeats 8000000
attribute [local irreducible] Calls

end Cr
namespace Go.Proofs
open Go.Shelf
end Go.Proofs
namespace Cr
open Go Go.Proofs
set_option maxRecDepth 100000
set_option maxHeartbeats 8000000
attribute [local irreducible] Calls

end Cr
namespace Cr
open Go Go.Proofs
set_option maxRecDepth 100000
set_option maxHeartbeats 8000000
attribute [local irreducible] Calls

end Cr
namespace Cr
open Go Go.Proofs
set_option maxRecDepth 100000
set_option maxHeartbeats 8000000
attribute [local irreducible] Calls

end Cr
namespace Cr
open Go Go.Proofs
set_option maxRecDepth 100000
set_option maxHeartbeats 4000000
attribute [local irreducible] Calls

theorem Zka : ∀ {l : List Nm},(∀ x ∈ l,x.1.length ≤ 9 ∧ 0 ≤ x.2 ∧ x.2 ≤ 1000000) → (Zaw (l.map Zeh)).length ≤ 40 * l.length
 | [],_ => by simp [Zaw]
 | x :: l,h => by
  obtain ⟨h1,h2,h3⟩ := h x (List.mem_cons_self ..)
  have ih := Zka (l := l) fun y hy => h y (List.mem_cons_of_mem _ hy)
  have h4 := Zhh (n := (x.1.length : Nat)) (by omega) (by omega)
  have h5 := Zhh h2 h3
  have e : (encM (Zeh x)).length ≤ 40 := by
   rw [Zeh,Zbt,Zaw,Zaw,Zaw,Zfy,Zdz]
   simp only [List.length_cons,List.length_append,List.length_nil]
   omega
  rw [List.map_cons,Zaw,List.length_append,List.length_cons]; omega
theorem Zje {l : List Nm} (h : ∀ x ∈ l,x.1.length ≤ 9 ∧ 0 ≤ x.2 ∧ x.2 ≤ 1000000) (hl : l.length ≤ 12) : ¬ 512 < (wrD l).length := by
 have := Zka h
 rw [wrD,dirM,Zbt]
 simp only [List.length_cons,List.length_append,List.length_nil]
 omega
end Cr
namespace Cr
open Go Go.Proofs
set_option maxRecDepth 100000
set_option maxHeartbeats 4000000

end Cr
namespace Cr
open Go Go.Proofs
set_option maxRecDepth 100000
set_option maxHeartbeats 4000000
attribute [local irreducible] Calls

theorem Zgp {n : Nat} {t t' : Tn} {d : List (List (List UInt8))} {nd : Nd} {p : List (List UInt8)} {e : Int} (h : Zbs n t nd p = (e,t')) : Za8 n (0,t,d) nd p = if e = 0 then (0,t',d ++ [p]) else (e,t',d) := by
 unfold Za8
 show (if (0 : Int) = 0 then if (Zbs n t nd p).1 = 0 then (0,(Zbs n t nd p).2,d ++ [p]) else ((Zbs n t nd p).1,(Zbs n t nd p).2,d) else _) = _
 rw [if_pos rfl,h]
theorem Ztk {b : List UInt8} (h : b.length ≤ 512) : Zjv (Zch b) = 0 := by
 unfold Zjv
 rw [if_neg (by simp [Zch]),if_neg (by simp only [Zch]; decide),if_neg (by simp only [Zch]; omega)]
def t1 : Tn := .mk [] 0 ⟨1,493,0,0⟩ [] [.mk dbN 1 ⟨1,448,0,0⟩ [] []]
theorem Zof : Zjv Zkb = 0 := by decide
theorem Z1e : Zbs 10 t0 Zkb [dbN] = (0,t1) := by
 unfold Zbs
 rw [if_neg (by decide),if_neg (fun e => e Zof)]
 have h1 : Zc7 t0 [dbN] = .ok (t0,dbN) := by
  unfold Zc7
  rw [if_pos (by decide)]; rfl
 rw [h1]
 simp only
 have hn : kidT dbN t0.kids = none := rfl
 have hf : Zh6 10 (Nt t0) = some 1 := Zfx (by omega) rfl fun j hj e => by
  obtain rfl : j = 0 := by omega
  cases e
 rw [hn,if_neg (by simp),hf]
 simp only
 rw [if_neg (Zje (fun x hx => by
  rw [show t0.names = [] from rfl,insN,List.mem_singleton] at hx
  subst hx; decide) (by decide))]
 rfl
end Cr
namespace Cr
open Go Go.Proofs
set_option maxRecDepth 100000
set_option maxHeartbeats 4000000
attribute [local irreducible] Calls

def xN : List UInt8 := [120]
def aN : List UInt8 := [97]
theorem Zxh : nameOk xN := by decide
theorem Z5q : nameOk aN := by decide
theorem enc1 : encM (nuM 1) = [105,49,59] := by
 rw [Zdz,show (1 : Int) = ((1 : Nat) : Int) from rfl,Zfv,Lib.decDigits_one (by decide)]
 rfl
def t2x : Tn := .mk [] 0 ⟨1,493,0,0⟩ [] [.mk dbN 1 ⟨1,448,0,0⟩ [] [.mk xN 2 ⟨1,448,0,0⟩ [] []]]
def t3x : Tn := .mk [] 0 ⟨1,493,0,0⟩ [] [.mk dbN 1 ⟨1,448,0,0⟩ [] [.mk xN 2 ⟨1,448,0,0⟩ [] [.mk aN 3 ⟨0,384,0,0⟩ [105,49,59] []]]]
theorem Z3e : Zbs 10 t1 Zkb [dbN,xN] = (0,t2x) := by
 unfold Zbs
 rw [if_neg (by decide),if_neg (fun e => e Zof)]
 have h1 : Zc7 t1 [dbN,xN] = .ok (.mk dbN 1 ⟨1,448,0,0⟩ [] [],xN) := by
  unfold Zc7
  rw [if_pos (by decide)]; rfl
 rw [h1]
 simp only
 have hn : kidT xN (Tn.mk dbN 1 ⟨1,448,0,0⟩ [] []).kids = none := rfl
 have hf : Zh6 10 (Nt t1) = some 2 := Zfx (by omega) rfl fun j hj e => by
  rcases j with _ | _ | j
  ·cases e
  ·cases e
  ·omega
 rw [hn,if_neg (by simp),hf]
 simp only
 rw [if_neg (Zje (fun x hx => by
  rw [show (Tn.mk dbN 1 ⟨1,448,0,0⟩ [] []).names = [] from rfl,insN,List.mem_singleton] at hx
  subst hx; decide) (by decide))]
 rfl
theorem Z3f : Zbs 10 t2x (Zch [105,49,59]) [dbN,xN,aN] = (0,t3x) := by
 unfold Zbs
 rw [if_neg (by decide),if_neg (fun e => e (Ztk (by decide)))]
 have h1 : Zc7 t2x [dbN,xN,aN] = .ok (.mk xN 2 ⟨1,448,0,0⟩ [] [],aN) := by
  unfold Zc7
  rw [if_pos (by decide)]; rfl
 rw [h1]
 simp only
 have hn : kidT aN (Tn.mk xN 2 ⟨1,448,0,0⟩ [] []).kids = none := rfl
 have hf : Zh6 10 (Nt t2x) = some 3 := Zfx (by omega) rfl fun j hj e => by
  rcases j with _ | _ | _ | j
  ·cases e
  ·cases e
  ·cases e
  ·omega
 rw [hn,if_neg (by simp),hf]
 simp only
 rw [if_neg (Zje (fun x hx => by
  rw [show (Tn.mk xN 2 ⟨1,448,0,0⟩ [] []).names = [] from rfl,insN,List.mem_singleton] at hx
  subst hx; decide) (by decide))]
 rfl
theorem Zrc : Zhu 10 t0 xN aN (nuM 1) = (0,t3x) := by
 unfold Zhu
 have k1 : Zci t0 [dbN] = -1 := by
  unfold Zci getR goR
  rw [if_pos (by decide)]; rfl
 have k2 : Zci t0 [dbN,xN] = -1 := by
  unfold Zci getR goR
  rw [if_pos (by decide)]; rfl
 have k3 : Zci t0 [dbN,xN,aN] = -1 := by
  unfold Zci getR goR
  rw [if_pos (by decide)]; rfl
 have hw : Zdc t0 (wayL xN) = some [[dbN],[dbN,xN]] := by
  unfold wayL
  rw [Zdc,if_neg (by rw [k1]; decide),if_pos k1,Zdc,if_neg (by rw [k2]; decide),if_pos k2,Zdc]
  rfl
 have hb : Zb1 10 t0 [[dbN],[dbN,xN]] = (0,t2x,[[dbN],[dbN,xN]]) := by
  unfold Zb1
  simp only [List.foldl_cons,List.foldl_nil]
  rw [Zgp Z1e,if_pos rfl,Zgp Z3e,if_pos rfl]
  rfl
 rw [if_neg (fun e => e Z5q),if_neg (fun e => e (Zm4 8 1)),enc1,if_neg (by decide),k3,hw]
 simp only
 rw [if_neg (by decide),if_neg (by decide),hb,Zgp Z3f,if_pos rfl]
 rfl
theorem Z1q : getR t3x [dbN,xN,aN] = .ok ⟨⟨0,384,0,0⟩,[105,49,59]⟩ := by
 unfold getR goR
 rw [if_pos (by decide)]; rfl
end Cr
namespace Cr
open Go Go.Proofs
set_option maxRecDepth 100000
set_option maxHeartbeats 16000000
attribute [local irreducible] Calls

def Zwa (s : List UInt8) : List UInt8 := s.take (min s.length 40)
theorem Z36 (s : List UInt8) (W : World) : Calls Tryz.prog 10 #[.string (str s)] W (Ret fun v w => v = .string (str (Zwa s)) ∧ St W noF [] w) := by
 have hS := St.start W
 obtain ⟨hN,hhN⟩ : ∃ hN : Nat,hN = min s.length 40 := ⟨_,rfl⟩
 have hmin : min ((s.length : Nat) : Int) 40 = (hN : Nat) := by omega
 have hct : (s.drop 0).take (hN - 0) = Zwa s := by simp only [Zwa,List.drop_zero,Nat.sub_zero,hhN]
 refine Zab Tryz.func10 rfl Tryz.ntmps10 rfl ?_
 repeat (first|refine Yd0 ?_|refine Yaf ?_|refine Yag ?_|refine Ycp ?_|refine Yd1 ?_|refine Yab ?_)
 refine X_yl (Zqy rfl rfl rfl) rfl rfl ?_
 rw [Zcc,hmin]
 repeat (first|refine Yd0 ?_|refine Yag ?_|refine Ydn ?_|refine Yah ?_|refine Yd2 ?_)
 exact ⟨by rw [← hct]; rfl,hS⟩
theorem Zrx (rd fs : List Int) (W : World) (hG : Gl W noF rd fs) (hL : Lg W noF) : Calls Tryz.prog 15 #[] W (Ret fun v w => v = .bool true ∧ St W noF [] w) := by
 have hS := St.start W
 refine Zab Tryz.func15 rfl Tryz.ntmps15 rfl ?_
 repeat (first|refine Yd0 ?_|refine Yag ?_|refine Yd1 ?_|refine Yab ?_)
 refine Zaa _ rfl rfl rfl rfl rfl (Zvv rd fs _ (hG.mono fun _ hr => (hr.rd hS).ro) (hL.at_ hS)) ?_
 rintro _ w ⟨q,lp,tp,f,r,rfl,hS'⟩
 replace hS := hS.plus hS'
 clear hS'
 repeat (first|refine Yd0 ?_|refine Yes ?_|refine Yd1 ?_|refine Yab ?_)
 refine Zaa _ rfl rfl rfl rfl rfl (Zuo (T := atT (Za1 10)) _ (hS.rd (r := pts f (.cells (List.toArray [.pointer (some ⟨tp,0,none⟩),.int .i64 0]) 100 (0,0))) (by simp))) ?_
 rintro _ w ⟨c,rfl,hS'⟩
 replace hS := hS.plus hS'
 clear hS'
 repeat (first|refine Yd0 ?_|refine Yee ?_|refine Yd1 ?_|refine Yab ?_)
 refine Zaa _ rfl rfl rfl rfl rfl (tof_ c xN Zxh _) ?_
 rintro _ w ⟨tb,rfl,hS'⟩
 replace hS := hS.plus hS'
 clear hS'
 have hN : Nt t0 = atT (Za1 10) := funext Z4v
 rw [← hN] at hS
 have hS : St W noF [chR c f 0 (atT (Za1 10)) (Nt t0) [],pts tb (tbC c xN),pts f (.cells (List.toArray [.pointer (some ⟨tp,0,none⟩),.int .i64 0]) 100 (0,0)),itab rd fs tp lp q 60 2 10 40 (Za1 10)] w := by
  have := hS.took (out := [chR c f 0 (Nt t0) (Nt t0) [],pts tb (tbC c xN),pts f (.cells (List.toArray [.pointer (some ⟨tp,0,none⟩),.int .i64 0]) 100 (0,0)),itab rd fs tp lp q 60 2 10 40 (Za1 10)])
  rwa [hN] at this ⊢
 obtain ⟨F1,hS1,hro,hw1,hbk1⟩ := hS.call [true]
 have hT := Zuk (hro (pts f (.cells (List.toArray [.pointer (some ⟨tp,0,none⟩),.int .i64 0]) 100 (0,0))) (by simp)) (hro (itab rd fs tp lp q 60 2 10 40 (Za1 10)) (by simp))
 have htb := hro (pts tb (tbC c xN)) (by simp)
 have hL1 := hL.mono fun r hr => hw1 r hr
 clear hS hro
 have hS : St w F1 [chR c f 0 (atT (Za1 10)) (Nt t0) []] w := hS1
 clear hS1
 repeat (first|refine Yeg ?_|(refine X_id ?_;first|refine Yaf ?_|refine Yag ?_|refine Ya1 ?_|refine Ya4 ?_|refine Ybd ?_|refine Ybr ?_)|refine Yeb ?_|refine Yab ?_)
 refine Zaa _ rfl rfl rfl rfl rfl (Z1l 1 _) ?_
 rintro _ w ⟨rfl,hS'⟩
 replace hS := hS.plus hS'
 clear hS'
 repeat (first|refine Yaa ?_)
 have hS : St _ F1 [chR c f 0 (atT (Za1 10)) (Nt t0) []] _ := hS.took
 obtain ⟨_,hcc,_,hw,hbk⟩ := hS.call [true]
 refine Zaa _ rfl rfl rfl rfl rfl (Z2n Z0p tb xN aN (nuM 1) _ _ _ (hT.mono hw) (hL1.mono hw) (hw _ htb) (Zoc (fun _ => Zge _ _ _) 1) (by rw [Zht,wMs]; decide) (by rw [fitM,Zcj]; exact ⟨by omega,by simp,trivial⟩) (by rw [enc1]; decide) hcc) ?_
 rintro _ w ⟨rfl,X1,hX1,hS⟩
 replace hS := hbk hS
 clear hbk hw hcc
 rw [Zrc] at hS ⊢
 have ht3 : TreeOk 10 t3x := by
  have := Zrd Z0p xN aN (nuM 1)
  rwa [Zrc] at this
 repeat (first|refine Yd0 ?_|refine Yee ?_|refine Ybf (fun _ _ hS _ => ?_)|refine Yd1 ?_|refine Yab ?_)
 obtain ⟨_,hcc,hr1,hw,hbk⟩ := hS.call [false,true]
 refine Zaa _ rfl rfl rfl rfl rfl (get_ ht3 _ [dbN,xN,aN] _ _ _ (hT.mono hw) (hL1.mono hw) (hr1 _ (List.mem_cons_self ..)).own_row (by simp) hcc) ?_
 rintro v w ⟨X',hX',hS,hv⟩
 replace hS := hbk hS
 clear hbk hw hcc hr1
 rw [Z1q] at hv
 obtain ⟨a',q',rfl,hq',hrow⟩ := hv
 repeat (first|refine Yeg ?_|(refine X_id ?_;first|refine Yaf ?_|refine Yag ?_|refine Yan ?_|refine Ya1 ?_|refine Ya5 ?_|refine Ybi ?_|refine Yap ?_|refine Yao (fun _ hS _ => ?_)|refine Yar (fun _ _ hS _ => ?_))|refine Yd1 ?_|refine Yab ?_)
 refine X_yl (Zb2 rfl rfl (hrow.rd (hS.rd (r := chR c f 0 (atT (Za1 10)) (Nt t3x) X') (by simp)).ch) rfl) rfl rfl ?_
 repeat (first|refine Yeg ?_|(refine X_id ?_;first|refine Yag ?_|refine Ya5 ?_|refine X_yl (Zen rfl rfl rfl) rfl rfl ?_)|refine Yah ?_|refine Yd2 ?_)
 exact ⟨rfl,(hbk1 hS).drops⟩
end Cr
namespace Cr
open Go Go.Proofs
set_option maxRecDepth 100000
set_option maxHeartbeats 16000000
attribute [local irreducible] Calls

structure TlZ where
 t : Tn
 has : Bool
 last : Mv
 cs : List Value
 X : List RowD
 Z : List RowD
structure TlZ.Ok (z : TlZ) (key : List UInt8) : Prop where
 ok : TreeOk 10 z.t
 rd : Mrd (RX z.Z) z.last z.cs
 wt : wM z.last ≤ 10000
 yes : z.has = true → Zbu z.t xN key = .ok z.last
 no : z.has = false → ∃ e,Zbu z.t xN key = .error e
theorem Zey {P : Program} {o : Oper} {σ : Env} {w : World} {t ty : TypeId} {x y : Operand} {a b : Bool} (c : Bool) (ho : o.op = .binOp .eql t x y ty) (hx : ev σ x = some (.bool a)) (hy : ev σ y = some (.bool b)) [h : Und P t .bool] (hc : (a == b) = c) : Yl P o σ w (.bool c) := ⟨fun N ds f ha => by
 subst hc
 have h2 := run_eql_bool (P := P) w t a b h.und
 simp [execOp,ho,ha.eval hx,ha.eval hy,eqGuard,h2]⟩
theorem Z0l (key : List UInt8) : ∃ e,Zbu t0 xN key = .error e := by
 by_cases hk : nameOk key
 ·obtain ⟨_,h⟩ := Zvt (t := t0) (name := xN) (p := [dbN]) (r := [xN]) (e := 7) (fun _ => rfl) rfl key
  exact ⟨_,Zi0 hk h⟩
 ·unfold Zbu
  rw [if_neg hk]
  exact ⟨_,rfl⟩
theorem TlZ.Ok.keep {z : TlZ} {key : List UInt8} (h : z.Ok key) {t' : Tn} (ht : TreeOk 10 t') (hk : Zbu t' xN key = Zbu z.t xN key) (X' Y : List RowD) : TlZ.Ok ⟨t',z.has,z.last,z.cs,X',Y ++ z.Z⟩ key :=
 ⟨ht,h.rd.mono fun _ _ h => h.right,h.wt,fun e => by rw [hk]; exact h.yes e,fun e => by rw [hk]; exact h.no e⟩
theorem TlZ.Ok.new {key : List UInt8} {t' : Tn} (ht : TreeOk 10 t') {x : Mv} {cs : List Value} {Y : List RowD} (hM : Mrd (RX Y) x cs) (hw : wM x ≤ 10000) (hk : Zbu t' xN key = .ok x) (X' Z : List RowD) : TlZ.Ok ⟨t',true,x,cs,X',Y ++ Z⟩ key :=
 ⟨ht,hM.mono fun _ _ h => h.left,hw,fun _ => hk,fun e => (by cases e)⟩
theorem TlZ.Ok.gone {z : TlZ} {key : List UInt8} (h : z.Ok key) {t' : Tn} (ht : TreeOk 10 t') (hk : ∃ e,Zbu t' xN key = .error e) (X' Y : List RowD) : TlZ.Ok ⟨t',false,z.last,z.cs,X',Y ++ z.Z⟩ key :=
 ⟨ht,h.rd.mono fun _ _ h => h.right,h.wt,fun e => (by cases e),fun _ => hk⟩
abbrev TlZ.res (z : TlZ) (c f b11 : Nat) : List Res := [chR c f 0 (atT (Za1 10)) (Nt z.t) z.X,pts b11 (.cells z.cs.toArray 38 (0,0)),bag z.Z]
theorem tableLast_ (a : Option Addr) (ca : Nat) (l : List ActA) (key0 : List UInt8) (rd fs : List Int) (W : World) (hG : Gl W noF rd fs) (hL : Lg W noF) (hA : Acts W noF a l) :
  Calls Tryz.prog 3 #[.slice a l.length ca,.string (str key0)] W (Ret fun v w => v = .bool true ∧ St W noF [] w) := by
 have hS := St.start W
 refine Zab Tryz.func3 rfl Tryz.ntmps3 rfl ?_
 repeat (first|refine Yd0 ?_|refine Yag ?_|refine Yd1 ?_|refine Yab ?_)
 refine Zaa _ rfl rfl rfl rfl rfl (Zvv rd fs _ (hG.mono fun _ hr => (hr.rd hS).ro) (hL.at_ hS)) ?_
 rintro _ w ⟨q,lp,tp,f,m,rfl,hS'⟩
 replace hS := hS.plus hS'
 clear hS'
 repeat (first|refine Yd0 ?_|refine Yes ?_|refine Yd1 ?_|refine Yab ?_)
 refine Zaa _ rfl rfl rfl rfl rfl (Zuo (T := atT (Za1 10)) _ (hS.rd (r := pts f (.cells (List.toArray [.pointer (some ⟨tp,0,none⟩),.int .i64 0]) 100 (0,0))) (by simp))) ?_
 rintro _ w ⟨c,rfl,hS'⟩
 replace hS := hS.plus hS'
 clear hS'
 repeat (first|refine Yeg ?_|refine Yaf ?_|refine Yag ?_|refine Ya4 ?_|refine Ybr ?_|refine Yeb ?_|refine Yab ?_)
 refine Zaa _ rfl rfl rfl rfl rfl (tof_ c xN Zxh _) ?_
 rintro _ wb ⟨tb,rfl,hS'⟩
 replace hS := hS.plus hS'
 clear hS'
 have hN : Nt t0 = atT (Za1 10) := funext Z4v
 rw [← hN] at hS
 have hS : St W noF [chR c f 0 (atT (Za1 10)) (Nt t0) [],pts tb (tbC c xN),pts f (.cells (List.toArray [.pointer (some ⟨tp,0,none⟩),.int .i64 0]) 100 (0,0)),itab rd fs tp lp q 60 2 10 40 (Za1 10)] wb := by
  have := hS.took (out := [chR c f 0 (Nt t0) (Nt t0) [],pts tb (tbC c xN),pts f (.cells (List.toArray [.pointer (some ⟨tp,0,none⟩),.int .i64 0]) 100 (0,0)),itab rd fs tp lp q 60 2 10 40 (Za1 10)])
  rwa [hN] at this ⊢
 obtain ⟨F1,hS1,hro,hw1,hbk1⟩ := hS.call [true]
 have hT := Zuk (hro (pts f (.cells (List.toArray [.pointer (some ⟨tp,0,none⟩),.int .i64 0]) 100 (0,0))) (by simp)) (hro (itab rd fs tp lp q 60 2 10 40 (Za1 10)) (by simp))
 have htb := hro (pts tb (tbC c xN)) (by simp)
 have hL1 := hL.mono fun r hr => hw1 r hr
 have hG1 := hG.mono fun r hr => hw1 r hr
 have hA1 : Acts wb F1 a l := ⟨hw1 _ hA.1,fun x hx => (hA.2 x hx).mono hw1⟩
 clear hS hro hA hN
 have hS : St wb F1 [chR c f 0 (atT (Za1 10)) (Nt t0) []] wb := hS1
 clear hS1
 repeat (first|refine Yeg ?_|(refine X_id ?_;first|refine Yaf ?_|refine Yag ?_|refine Ya1 ?_|refine Ya4 ?_|refine Ybd ?_|refine Ybr ?_)|refine Yeb ?_|refine Yab ?_)
 refine Zaa _ rfl rfl rfl rfl rfl (Z36 key0 _) ?_
 rintro _ w ⟨rfl,hS'⟩
 replace hS := hS.plus hS'
 clear hS'
 generalize Zwa key0 = key
 repeat (first|refine Yd0 ?_|refine Yag ?_|refine Ybk ?_|refine Yao (fun _ hS _ => ?_)|refine Yar (fun _ _ hS _ => ?_)|refine Yd3 ?_|refine Yab ?_)
 rename_i b11 _ _ _ _ _
 have hS := hS.bagNil
 refine Zcp (α := TlZ) (fun z => [(1,.string (str key)),(7,.pointer (some ⟨m,0,none⟩)),(9,.pointer (some ⟨tb,0,none⟩)),(11,.pointer (some ⟨b11,0,none⟩)),(12,.bool z.has)]) (fun z w' => z.Ok key ∧ St wb F1 (z.res c f b11) w') ?_ ?_
 ·refine Zak (α := Nat × TlZ) (fun y => [(0,.slice a l.length ca),(1,.string (str key)),(7,.pointer (some ⟨m,0,none⟩)),(9,.pointer (some ⟨tb,0,none⟩)),(11,.pointer (some ⟨b11,0,none⟩)),(12,.bool y.2.has),(13,.int .i64 (y.1 : Nat))])
   (fun y w' => y.1 ≤ l.length ∧ y.1 ≤ 20 ∧ y.2.Ok key ∧ St wb F1 (y.2.res c f b11) w') (fun y => 20 - y.1) (0,⟨t0,false,nuM 0,zMv,[],[]⟩) ⟨rfl,rfl,rfl,rfl,rfl,rfl,rfl,trivial⟩ ⟨Nat.zero_le _,Nat.zero_le _,⟨Z0p,Zoc (fun _ => .nil) 0,by rw [Zht,wMs]; decide,fun e => (by cases e),fun _ => Z0l key⟩,hS.took⟩ ?_
  clear hS
  rintro ⟨i,t,has,last,lcs,X,Z⟩ w ⟨hi,hi20,hok,hS⟩
  simp only at hi hi20 hok hS ⊢
  by_cases h1 : i < l.length
  case neg =>
   repeat (first|refine Yej ?_|refine Yaf ?_|refine Ya4 ?_|refine Yav ?_|refine Ya3 ?_|refine Yec ?_|refine Yd6 ?_)
   exact Zbi ⟨t,has,last,lcs,X,Z⟩ ⟨rfl,rfl,rfl,rfl,rfl,trivial⟩ ⟨hok,hS⟩
  by_cases h2 : i < 20
  case neg =>
   repeat (first|refine Yeg ?_|(refine X_id ?_;first|refine Yaf ?_|refine Ya5 ?_|refine Yav ?_|refine Ya2 ?_|refine Ya3 ?_)|refine Yec ?_|refine Yd6 ?_)
   exact Zbi ⟨t,has,last,lcs,X,Z⟩ ⟨rfl,rfl,rfl,rfl,rfl,trivial⟩ ⟨hok,hS⟩
  have hrd : Mrd (RX Z) last lcs := hok.rd
  obtain ⟨la,lc,lb,ld,lrows,rfl,_⟩ := hrd.lit
  clear hrd
  have hS : St wb F1 [chR c f 0 (atT (Za1 10)) (Nt t) X,pts b11 (.cells (List.toArray [.int .i64 last.kind,.int .i64 last.num,.slice la last.txt.length lc,.slice lb last.lst.length ld]) 38 (0,0)),bag Z] w := hS
  have hx0 : l[i]? = some l[i] := List.getElem?_eq_getElem h1
  generalize l[i] = ac at hx0
  have hxm := List.mem_of_getElem? hx0
  have htk := hA1.2 ac hxm
  have hxs := Zy9 hx0
  obtain ⟨k,n,nm,ky,ot,va,v,vc,pa,pn,pc⟩ := ac
  simp only [ActA.cells] at htk hxs
  have hr := hA1.1
  obtain ⟨ab,ao,rfl⟩ := (hr.rd hS).base (by intro e; rw [e] at hxs; simp at hxs)
  repeat (first|refine Yeg ?_|(refine X_id ?_;first|refine Yaf ?_|refine Yan ?_|refine Ya5 ?_|refine Yav ?_|refine Ya2 ?_|refine Ybc ?_|refine Yap ?_|refine Ybp ?_|refine Yao (fun _ hS _ => ?_)|refine Yar (fun _ _ hS _ => ?_))|refine Yd4 ?_|refine Yab ?_)
  refine Zaa _ rfl rfl rfl rfl rfl (Z4f va v vc _ (htk.mono fun r hr => (hr.rd hS).ro)) ?_
  rintro _ w ⟨cs,Y,x,r,d,rfl,hM,hex,hfx,hS'⟩
  replace hS := hS.plus hS'
  clear hS'
  have hwx : wM x ≤ 10000 := Nat.le_trans (Z2m x) hex
  have hlx : (encM x).length ≤ 10000 := Nat.le_trans (Zv6 x hfx) hex
  obtain ⟨a1,c1,a2,c2,rows,rfl,_⟩ := hM.lit
  repeat (first|refine Yd0 ?_|(refine X_id ?_;first|refine Yaf ?_|refine Yag ?_|refine Yan ?_|refine Ya1 ?_|refine Yap ?_|refine Yao (fun _ hS _ => ?_)|refine Yar (fun _ _ hS _ => ?_))|refine Yd1 ?_|refine Yab ?_)
  refine Zaa _ rfl rfl rfl rfl rfl (Z36 ky _) ?_
  rintro _ w ⟨rfl,hS'⟩
  replace hS := hS.plus hS'
  clear hS'
  generalize Zwa ky = kk
  repeat (first|refine Yd0 ?_|(refine X_id ?_;first|refine Yaf ?_|refine Yag ?_|refine Yan ?_|refine Yb8 ?_|refine Ycn ?_|refine Yc0 ?_|refine Yap ?_)|refine Yd1 ?_|refine Yab ?_)
  obtain ⟨K,hK⟩ : ∃ K,K = (IntKind.u64.wrap k).tmod 3 := ⟨_,rfl⟩
  rw [← hK]
  by_cases hk0 : K = 0
  ·subst hk0
   repeat (first|refine Yaw ?_|refine Yaf ?_|refine Ybe ?_)
   obtain ⟨_,hcc,hr1,hw,hbk⟩ := hS.call [false,false,false,true]
   refine Zaa _ rfl rfl rfl rfl rfl (Z2n hok.ok tb xN kk x _ _ _ (hT.mono hw) (hL1.mono hw) (hw _ htb) (hM.ro (hr1 (bag Y) (by simp))) (by omega) hfx (by omega) hcc) ?_
   rintro _ w ⟨rfl,X2,hX2,hS⟩
   replace hS := hbk hS
   clear hbk hw hcc hr1
   obtain ⟨hl1,hl2⟩ := Zxm hok.ok Zxh kk x hfx
   have hto := Zrd hok.ok xN kk x
   generalize Zhu 10 t xN kk x = res at hS hl1 hl2 hto
   obtain ⟨e,t'⟩ := res
   simp only at hS hl1 hl2 hto ⊢
   by_cases he : e = 0
   ·subst he
    repeat (first|refine Yeg ?_|(refine X_id ?_;first|refine Yaf ?_|refine Ya5 ?_|refine Ybi ?_|refine X_yl (Zen rfl rfl rfl) rfl rfl ?_)|refine Yab ?_)
    by_cases hkk : kk = key
    ·rw [decide_eq_true hkk]
     repeat (first|refine Yd0 ?_|(refine X_id ?_;first|refine Yaf ?_|refine Yag ?_|refine Yan ?_|refine Ybh ?_|refine Yax ?_|refine Ycn ?_|refine Yc0 ?_|refine Yap ?_|refine Ybe ?_|refine Yao (fun _ hS _ => ?_))|refine Yet ?_|refine Yd8 ?_)
     rw [← hK]
     repeat (first|fail)
     have hS : St wb F1 [bag Y,bag Z,chR c f 0 (atT (Za1 10)) (Nt t') X2,pts b11 (.cells (List.toArray [.int .i64 x.kind,.int .i64 x.num,.slice a1 x.txt.length c1,.slice a2 x.lst.length c2]) 38 (0,0))] _ := hS.took
     have hS := hS.bagJoin
     exact Zaf (z := (i,(⟨t,has,last,[.int .i64 last.kind,.int .i64 last.num,.slice la last.txt.length lc,.slice lb last.lst.length ld],X,Z⟩ : TlZ))) (i + 1,⟨t',true,x,[.int .i64 x.kind,.int .i64 x.num,.slice a1 x.txt.length c1,.slice a2 x.lst.length c2],X2,Y ++ Z⟩) ⟨rfl,rfl,rfl,rfl,rfl,rfl,rfl,trivial⟩ ⟨h1,by dsimp only; omega,TlZ.Ok.new hto hM hwx (by rw [← hkk]; exact hl1 rfl) X2 Z,hS.took⟩ (by dsimp only; omega)
    ·skip
     repeat (first|refine Yd0 ?_|(refine X_id ?_;first|refine Yaf ?_|refine Yag ?_|refine Yan ?_|refine Ybh ?_|refine Yax ?_|refine Ycn ?_|refine Yc0 ?_|refine Yap ?_)|refine Yae ?_|refine Yad ?_|refine Yak ?_|refine Yai ?_|refine Ydi ?_|refine Yd8 ?_)
     rw [← hK]
     repeat (first|fail)
     have hS : St wb F1 [bag Y,bag Z,chR c f 0 (atT (Za1 10)) (Nt t') X2,pts b11 (.cells (List.toArray [.int .i64 last.kind,.int .i64 last.num,.slice la last.txt.length lc,.slice lb last.lst.length ld]) 38 (0,0))] _ := hS.took
     have hS := hS.bagJoin
     exact Zaf (z := (i,(⟨t,has,last,[.int .i64 last.kind,.int .i64 last.num,.slice la last.txt.length lc,.slice lb last.lst.length ld],X,Z⟩ : TlZ))) (i + 1,⟨t',has,last,[.int .i64 last.kind,.int .i64 last.num,.slice la last.txt.length lc,.slice lb last.lst.length ld],X2,Y ++ Z⟩) ⟨rfl,rfl,rfl,rfl,rfl,rfl,rfl,trivial⟩ ⟨h1,by dsimp only; omega,hok.keep hto (hl2 key (.inr fun e => hkk e.symm)) X2 Y,hS.took⟩ (by dsimp only; omega)
   ·skip
    repeat (first|refine Yeu ?_|(refine X_id ?_;first|refine Yaf ?_|refine Yag ?_|refine Yan ?_|refine Ya5 ?_|refine Ya4 ?_|refine Ybh ?_|refine Yax ?_|refine Ycn ?_|refine Yc0 ?_|refine Yap ?_)|refine Yeb ?_|refine Yd8 ?_)
    rw [← hK]
    repeat (first|fail)
    have hS : St wb F1 [bag Y,bag Z,chR c f 0 (atT (Za1 10)) (Nt t') X2,pts b11 (.cells (List.toArray [.int .i64 last.kind,.int .i64 last.num,.slice la last.txt.length lc,.slice lb last.lst.length ld]) 38 (0,0))] _ := hS.took
    have hS := hS.bagJoin
    exact Zaf (z := (i,(⟨t,has,last,[.int .i64 last.kind,.int .i64 last.num,.slice la last.txt.length lc,.slice lb last.lst.length ld],X,Z⟩ : TlZ))) (i + 1,⟨t',has,last,[.int .i64 last.kind,.int .i64 last.num,.slice la last.txt.length lc,.slice lb last.lst.length ld],X2,Y ++ Z⟩) ⟨rfl,rfl,rfl,rfl,rfl,rfl,rfl,trivial⟩ ⟨h1,by dsimp only; omega,hok.keep hto (hl2 key (.inl he)) X2 Y,hS.took⟩ (by dsimp only; omega)
  rw [decide_eq_false hk0]
  repeat (first|refine Yej ?_|(refine X_id ?_;first|refine Yaf ?_|refine Yan ?_|refine Ya4 ?_|refine Yb8 ?_|refine Ycn ?_|refine Yc0 ?_|refine Yap ?_)|refine Yeb ?_|refine Yab ?_)
  rw [← hK]
  by_cases hk1 : K = 1
  ·subst hk1
   repeat (first|refine Yaa ?_|refine Yaf ?_|refine Ybf (fun _ _ hS _ => ?_)|refine Yea ?_)
   obtain ⟨_,hcc,hr1,hw,hbk⟩ := hS.call [false,false,false,false,true]
   refine Zaa _ rfl rfl rfl rfl rfl (Z2q hok.ok tb xN _ [kk] 1 _ _ (hT.mono hw) (hL1.mono hw) (hw _ htb) (hr1 _ (List.mem_cons_self ..)).own_row (by simp) hcc) ?_
   rintro _ w ⟨X2,hX2,hD⟩
   refine hD.elim (fun hD => ?ra) (fun hD => ?rb)
   case' ra =>
    obtain ⟨hkn,rfl,hS⟩ := hD
    obtain ⟨hd1,hd2⟩ := Zun hok.ok Zxh kk (hkn kk (by simp))
    have hdo := Zy0 hok.ok xN [kk]
    generalize Zeg t xN [kk] = res at hS hd1 hd2 hdo
    obtain ⟨nn,t'⟩ := res
    have hk2 : (kk = key → ∃ e,Zbu t' xN key = .error e) ∧ (kk ≠ key → Zbu t' xN key = Zbu t xN key) := ⟨fun e => by rw [← e]; exact hd1,fun e => hd2 key fun h => e h.symm⟩
    simp only at hS hdo ⊢
    clear hd1 hd2
   case' rb =>
    obtain ⟨hkn,rfl,hS⟩ := hD
    obtain ⟨t',ht'⟩ : ∃ t',t' = t := ⟨_,rfl⟩
    have hdo : TreeOk 10 t' := by rw [ht']; exact hok.ok
    have hk2 : (kk = key → ∃ e,Zbu t' xN key = .error e) ∧ (kk ≠ key → Zbu t' xN key = Zbu t xN key) := ⟨fun e => by
     have : ¬ nameOk key := fun h => hkn fun y hy => by
      rw [List.mem_singleton] at hy
      rw [hy,e]; exact h
     unfold Zbu
     rw [if_neg this]
     exact ⟨_,rfl⟩,fun _ => by rw [ht']⟩
    rw [← ht'] at hS
    simp only
   all_goals
    replace hS := hbk hS
    clear hbk hw hcc hr1
    repeat (first|refine Yd0 ?_|refine Yaf ?_|refine Yad ?_|refine Yab ?_)
    rcases Bool.eq_false_or_eq_true has with hh | hh
    ·rw [hh]
     repeat (first|refine Yeg ?_|(refine X_id ?_;first|refine Yaf ?_|refine Yag ?_|refine Ya5 ?_|refine Yax ?_|refine X_yl (Zws rfl rfl rfl) rfl rfl ?_)|refine Yad ?_|refine Yd8 ?_)
     by_cases hq : kk = key
     ·rw [decide_eq_false (fun e => e hq)]
      have hS : St wb F1 [bag Y,bag Z,chR c f 0 (atT (Za1 10)) (Nt t') X2,pts b11 (.cells (List.toArray [.int .i64 last.kind,.int .i64 last.num,.slice la last.txt.length lc,.slice lb last.lst.length ld]) 38 (0,0))] _ := hS.took
      have hS := hS.bagJoin
      exact Zaf (z := (i,(⟨t,has,last,[.int .i64 last.kind,.int .i64 last.num,.slice la last.txt.length lc,.slice lb last.lst.length ld],X,Z⟩ : TlZ))) (i + 1,⟨t',false,last,[.int .i64 last.kind,.int .i64 last.num,.slice la last.txt.length lc,.slice lb last.lst.length ld],X2,Y ++ Z⟩) ⟨rfl,rfl,rfl,rfl,rfl,rfl,rfl,trivial⟩ ⟨h1,by dsimp only; omega,hok.gone hdo (hk2.1 hq) X2 Y,hS.took⟩ (by dsimp only; omega)
     ·rw [decide_eq_true hq]
      have hS : St wb F1 [bag Y,bag Z,chR c f 0 (atT (Za1 10)) (Nt t') X2,pts b11 (.cells (List.toArray [.int .i64 last.kind,.int .i64 last.num,.slice la last.txt.length lc,.slice lb last.lst.length ld]) 38 (0,0))] _ := hS.took
      have hS := hS.bagJoin
      exact Zaf (z := (i,(⟨t,has,last,[.int .i64 last.kind,.int .i64 last.num,.slice la last.txt.length lc,.slice lb last.lst.length ld],X,Z⟩ : TlZ))) (i + 1,⟨t',true,last,[.int .i64 last.kind,.int .i64 last.num,.slice la last.txt.length lc,.slice lb last.lst.length ld],X2,Y ++ Z⟩) ⟨rfl,rfl,rfl,rfl,rfl,rfl,rfl,trivial⟩ ⟨h1,by dsimp only; omega,(by have := hok.keep hdo (hk2.2 hq) X2 Y; rwa [hh] at this),hS.took⟩ (by dsimp only; omega)
    ·rw [hh]
     repeat (first|refine Yej ?_|refine Yaf ?_|refine Yag ?_|refine Ya4 ?_|refine Yax ?_|refine Yad ?_|refine Yd8 ?_)
     have hS : St wb F1 [bag Y,bag Z,chR c f 0 (atT (Za1 10)) (Nt t') X2,pts b11 (.cells (List.toArray [.int .i64 last.kind,.int .i64 last.num,.slice la last.txt.length lc,.slice lb last.lst.length ld]) 38 (0,0))] _ := hS.took
     have hS := hS.bagJoin
     exact Zaf (z := (i,(⟨t,has,last,[.int .i64 last.kind,.int .i64 last.num,.slice la last.txt.length lc,.slice lb last.lst.length ld],X,Z⟩ : TlZ))) (i + 1,⟨t',false,last,[.int .i64 last.kind,.int .i64 last.num,.slice la last.txt.length lc,.slice lb last.lst.length ld],X2,Y ++ Z⟩) ⟨rfl,rfl,rfl,rfl,rfl,rfl,rfl,trivial⟩ ⟨h1,by dsimp only; omega,hok.gone hdo (by by_cases hq : kk = key; exact hk2.1 hq; exact by rw [hk2.2 hq]; exact hok.no hh) X2 Y,hS.took⟩ (by dsimp only; omega)
  ·rw [decide_eq_false hk1]
   repeat (first|refine Yd0 ?_|refine Yef ?_|refine Yer ?_|refine Yd8 ?_)
   have hS : St wb F1 [bag Y,bag Z,chR c f 0 (atT (Za1 10)) (Nt t) X,pts b11 (.cells (List.toArray [.int .i64 last.kind,.int .i64 last.num,.slice la last.txt.length lc,.slice lb last.lst.length ld]) 38 (0,0))] _ := hS.took
   have hS := hS.bagJoin
   exact Zaf (z := (i,(⟨t,has,last,[.int .i64 last.kind,.int .i64 last.num,.slice la last.txt.length lc,.slice lb last.lst.length ld],X,Z⟩ : TlZ))) (i + 1,⟨t,has,last,[.int .i64 last.kind,.int .i64 last.num,.slice la last.txt.length lc,.slice lb last.lst.length ld],X,Y ++ Z⟩) ⟨rfl,rfl,rfl,rfl,rfl,rfl,rfl,trivial⟩ ⟨h1,by dsimp only; omega,hok.keep hok.ok rfl X Y,hS.took⟩ (by dsimp only; omega)
 ·rintro ⟨t,has,last,lcs,X,Z⟩ w ⟨hok,hS⟩
  simp only at hok hS ⊢
  have hrd : Mrd (RX Z) last lcs := hok.rd
  have hwl : wM last ≤ 10000 := hok.wt
  have hyes := hok.yes
  have hno := hok.no
  have hto : TreeOk 10 t := hok.ok
  clear hok
  obtain ⟨la,lc,lb,ld,lrows,rfl,_⟩ := hrd.lit
  have hS : St wb F1 [chR c f 0 (atT (Za1 10)) (Nt t) X,pts b11 (.cells (List.toArray [.int .i64 last.kind,.int .i64 last.num,.slice la last.txt.length lc,.slice lb last.lst.length ld]) 38 (0,0)),bag Z] w := hS
  repeat (first|refine Yaa ?_|refine Yaf ?_|refine Yd1 ?_)
  obtain ⟨_,hcc,_,hw,hbk⟩ := hS.call [true]
  refine Zaa _ rfl rfl rfl rfl rfl (Z2p hto tb xN key _ _ (hT.mono hw) (hL1.mono hw) (hw _ htb) hcc) ?_
  rintro v w ⟨X2,hX2,hS,hR⟩
  replace hS := hbk hS
  clear hbk hw hcc
  rcases Bool.eq_false_or_eq_true has with hh | hh
  ·rw [hh]
   have hg := hyes hh
   rw [hg] at hR
   obtain ⟨cs2,rfl,hM2⟩ := hR
   obtain ⟨ma,mc,mb,md,mrows,rfl,_⟩ := hM2.lit
   repeat (first|refine Yd0 ?_|refine Yes ?_|refine Yao (fun _ hS _ => ?_)|refine Yar (fun _ _ hS _ => ?_)|refine Yd1 ?_|refine Yab ?_)
   refine Zaa _ rfl rfl rfl rfl rfl (Zrx rd fs _ (hG1.mono fun r hr => (hr.rd hS).ro) (hL1.at_ hS)) ?_
   rintro _ w ⟨rfl,hS'⟩
   replace hS := hS.plus hS'
   clear hS'
   repeat (first|refine Yaa ?_|refine Yaw ?_|refine Yaf ?_|refine Ya5 ?_|refine Ybi ?_|refine Ydh ?_)
   refine X_yl (Zey true rfl rfl rfl rfl) rfl rfl ?_
   repeat (first|refine Yaa ?_|refine Yaw ?_|refine Yaf ?_|refine Ya5 ?_|refine Ybb ?_|refine Ybe ?_)
   refine Zaa _ rfl rfl rfl rfl rfl (Z2x last last _ _ _ noF (by omega) (hM2.mono fun _ _ h => (h.rd (hS.rd (r := chR c f 0 (atT (Za1 10)) (Nt t) X2) (by simp)).ch).ro) (hrd.mono fun _ _ h => (h.rd (hS.rd (r := bag Z) (by simp))).ro)) ?_
   rintro _ w ⟨rfl,hS'⟩
   replace hS := hS.plus hS'
   clear hS'
   rw [Zsi]
   repeat (first|refine Yaa ?_|refine Yaw ?_|refine Yaf ?_|refine Ya5 ?_|refine Ya4 ?_)
   obtain ⟨_,hcc,_,hw,hbk⟩ := hS.call [false,true]
   refine Zaa _ rfl rfl rfl rfl rfl (Z2o hto tb xN key _ _ (hT.mono hw) (hL1.mono hw) (hw _ htb) hcc) ?_
   rintro _ w ⟨rfl,X3,hX3,hS⟩
   replace hS := hbk hS
   clear hbk hw hcc
   rw [hg]
   simp only [okE]
   repeat (first|refine Yaw ?_|refine Yaf ?_)
   refine X_yl (Zey true rfl rfl rfl rfl) rfl rfl ?_
   repeat (first|refine Yd0 ?_|refine Yag ?_|refine Ya5 ?_|refine Yah ?_|refine Yd2 ?_)
   exact ⟨rfl,(hbk1 hS.drops).drops⟩
  ·rw [hh]
   obtain ⟨e,hg⟩ := hno hh
   rw [hg] at hR
   obtain ⟨he,rfl⟩ := hR
   repeat (first|refine Yd0 ?_|refine Yes ?_|refine Yao (fun _ hS _ => ?_)|refine Yar (fun _ _ hS _ => ?_)|refine Yd1 ?_|refine Yab ?_)
   refine Zaa _ rfl rfl rfl rfl rfl (Zrx rd fs _ (hG1.mono fun r hr => (hr.rd hS).ro) (hL1.at_ hS)) ?_
   rintro _ w ⟨rfl,hS'⟩
   replace hS := hS.plus hS'
   clear hS'
   repeat (first|refine Yaa ?_|refine Yaw ?_|refine Yaf ?_|refine Ya5 ?_|refine Ybh ?_|refine Ydh ?_)
   refine X_yl (Zey true rfl rfl rfl rfl) rfl rfl ?_
   repeat (first|refine Yaa ?_|refine Yaw ?_|refine Ybg ?_|refine Yaf ?_|refine Ya5 ?_|refine Ybo ?_)
   obtain ⟨_,hcc,_,hw,hbk⟩ := hS.call [false,true]
   refine Zaa _ rfl rfl rfl rfl rfl (Z2o hto tb xN key _ _ (hT.mono hw) (hL1.mono hw) (hw _ htb) hcc) ?_
   rintro _ w ⟨rfl,X3,hX3,hS⟩
   replace hS := hbk hS
   clear hbk hw hcc
   rw [hg]
   simp only [okE]
   repeat (first|refine Yaw ?_|refine Yaf ?_)
   refine X_yl (Zey true rfl rfl rfl rfl) rfl rfl ?_
   repeat (first|refine Yd0 ?_|refine Yag ?_|refine Ya5 ?_|refine Yah ?_|refine Yd2 ?_)
   exact ⟨rfl,(hbk1 hS.drops).drops⟩
end Cr
