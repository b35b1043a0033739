/-
  Layer 8 (tree): a path gone.
  Layer 8 (tree): slices copied; paths split; Get,List; what is ahead of a path's last name.
  Rows of the run's own whose elements have several cells: copied into,grown by zeros,asked whether they overlap.
  DERIVED: THE SHELF's CONTRACTS AT THIS DUMP,IN PLAIN WORDS (tools/lay-plain.mjs out of 'TryzShelf.lean',which tools/lay-shelf.mjs wrote): THE SAME DECLARATIONS UNDER THE SAME NAMES: 'import','namespace','open','def','theorem' AND NOTHING ELSE: no command of the shelf's: FOR A HAND-IN. Each laying: the table of numbers ('.._ren') and one theorem,a field a fact of the dump's own or the kernel's comparison; each contract: ONE APPLICATION.
  Layer 8 (tree): List; what is ahead of a path's last name.
  Layer 8 (tree): a name's place found in a list that rises.
  Layer 8 (tree): a name laid into a list.
  Layer 8 (tree) in plain words,3: names laid into a list that rises,and taken out of it. No program is in sight.
  Layer 8 (tree): a name enters a directory.
  Layer 8 (tree): a name taken out of a directory.
  Layer 8 (tree) in plain words,4: a tree with another one at a path; which nodes it has. No program is in sight.
  Layer 8 (tree) in plain words,5: a node made,turned,taken out. No program is in sight.
-/
import Derived.Test.YtpbgaojjlepkcaaGreatDoorAbn10
import Derived.Test.YtpbgaojjlepkcaaGreatDoorAbn3
import Derived.Test.YtpbgaojjlepkcaaGreatDoorAbn7
import Derived.Lib.Overlaps
import Derived.KernelRfl
import Derived.Test.YtpbgaojjlepkcaaGreatDoorAbn4
import Derived.Shelf.Strings.Builder1
import Derived.Shelf.Strings.Builder2
import Derived.Shelf.Small.Strs
import Derived.Shelf.Strings.BuilderF
import Derived.Shelf.Strconv.Atoi
import Derived.Shelf.Strconv.Itoa0
import Derived.Shelf.Strconv.Itoa1
import Derived.Shelf.LaysM
import Derived.Shelf.Strconv.Itoa2
import Derived.Shelf.Strconv.Itoa3
import Derived.Shelf.Strconv.AtoiErrFast
import Derived.Shelf.Strconv.ParseIntEmpty
import Derived.Shelf.Strconv.AtoiFail
import Derived.Shelf.Strconv.Clone
import Derived.Shelf.Strconv.SyntaxError
import Derived.Shelf.LaysC
import Derived.Shelf.Strconv.ToError
import Derived.Shelf.Strconv.Lower
import Derived.Shelf.Strconv.ParseUint10
import Derived.Shelf.Strconv.ParseUint10Empty
import Derived.Shelf.Strconv.ParseUint10Any
import Derived.Shelf.Strconv.ParseInt10
import Derived.Shelf.Strconv.AtoiLong
import Derived.Shelf.Strconv.AtoiInnerAll
import Derived.Shelf.Strconv.RangeError
import Derived.Shelf.Strconv.ToErrorRange
import Derived.Shelf.Strconv.AtoiAll
import Derived.Shelf.Strconv.ErrVarAll
import Derived.Shelf.Sort.Plain
import Derived.Shelf.Strings.Prefix
import Derived.Shelf.Strings.Fields
import Derived.Shelf.Strings.SplitShaped
import Derived.Shelf.Unicode.Latin
import Derived.Shelf.Bits.Mul64
import Derived.Shelf.Strings.Repeat
import Derived.Shelf.Unicode.Is16White
import Derived.Shelf.Unicode.IsSpaceAny
import Derived.Shelf.Unicode.Is16Any
import Derived.Shelf.Unicode.Is32Any
import Derived.Shelf.Unicode.ExclAny
import Derived.Shelf.Slices.Turned
import Derived.Shelf.Slices.In.SortNone
import Derived.Test.YtpbgaojjlepkcaaGreatDoorProg
namespace Cr
open Go Go.Proofs
set_option maxRecDepth 100000
set_option maxHeartbeats 64000000
attribute [local irreducible] Calls

def goR (t : Tn) (p : List (List UInt8)) : Except Int (Int × Nd) :=
 if Zcd p then match goT t p with
  | .ok u => .ok (u.no,u.nd)
  | .error e => .error e
 else .error 10
section
variable {c f tp n : Nat} {b : Int} {T : Int → Option Nd} {t : Tn} {X : List RowD}
theorem top_ (ht : TreeOk n t) (W : World) (F : Nat → Prop) (hT : TreeRo W F f tp n b T) (hS : St W F [chR c f b T (Nt t) X] W) :
  Calls Tryz.prog 159 #[.pointer (some ⟨c,0,none⟩)] W (Ret fun v w => ∃ X',(∀ x ∈ X,x ∈ X') ∧ St W F [chR c f b T (Nt t) X'] w ∧ ∃ a q,v = .agg (List.toArray (plV 0 t.nd a q)) ∧ t.nd.data.length ≤ q ∧ RX X' a (bv t.nd.data)) := by
 have h0 : Nt t 0 = some t.nd := by have := ht.at_ (Zev t); rwa [ht.root.1] at this
 refine Zab Tryz.func159 rfl Tryz.ntmps159 rfl ?_
 repeat (first|refine Yea ?_|refine Yaf ?_|refine Yar (fun _ _ hS _ => ?_)|refine Yeb ?_|refine Yab ?_)
 obtain ⟨_,hc,_,hw,hbk⟩ := hS.call [false,true]
 refine Zaa _ rfl rfl rfl rfl rfl (Z2y 0 _ _ (hT.mono hw) hc) ?_
 rintro v w ⟨X',hX',hS,y',a',q',rfl,hy⟩
 replace hS := hbk hS
 clear hbk hw hc;obtain ⟨rfl,hq',hrow⟩ := hy _ h0
 rw [h0];simp only [Option.isSome_some]
 repeat (first|refine Yea ?_|(refine X_id ?_;first|refine Yaf ?_|refine Yag ?_|refine Yat ?_|refine Ybl ?_|refine Ybg ?_|refine Yao (fun _ hS _ => ?_)|refine Yar (fun _ _ hS _ => ?_))|refine Ye1 ?_|refine Yab ?_|refine Ybw ?_)
 exact ⟨X',hX',hS.took,a',q',rfl,hq',hrow⟩
theorem Z0e (ht : TreeOk n t) (pa : Option Addr) (p : List (List UInt8)) (pc : Nat) (W : World) (F : Nat → Prop) (hT : TreeRo W F f tp n b T) (hG : Lg W F) (hp : Ro W F (row pa (strV p))) (hpl : p.length ≤ 1048576) (hS : St W F [chR c f b T (Nt t) X] W) :
  Calls Tryz.prog 95 #[.pointer (some ⟨c,0,none⟩),.slice pa p.length pc] W (Ret fun v w => ∃ X',(∀ x ∈ X,x ∈ X') ∧ St W F [chR c f b T (Nt t) X'] w ∧ Z6g X' (goR t p) v) := by
 unfold goR
 have hR := fun W h => Zwr pa p pc W h hpl
 by_cases hr : Zcd p
 case neg =>
  rw [if_neg hr];simp only [decide_eq_false hr] at hR
  refine Zab Tryz.func95 rfl Tryz.ntmps95 rfl ?_
  repeat (first|refine Yea ?_|(refine X_id ?_;first|(refine Zad 158 rfl rfl rfl rfl rfl hS (hR _ (hp.rd hS)) ?_;rintro _ _ rfl hS)|refine Yaf ?_|refine Yag ?_|refine Ybq ?_|refine Ybl ?_|refine Ybu ?_|refine Yao (fun _ hS _ => ?_)|refine Yar (fun _ _ hS _ => ?_))|refine Yez ?_|refine Yab ?_|refine Yaq ?_|refine Ybv ?_)
  exact ⟨X,fun _ h => h,hS.took,rfl,by decide⟩
 rw [if_pos hr];simp only [decide_eq_true hr] at hR
 clear hr;refine Zab Tryz.func95 rfl Tryz.ntmps95 rfl ?_
 repeat (first|refine Yea ?_|(refine X_id ?_;first|(refine Zad 158 rfl rfl rfl rfl rfl hS (hR _ (hp.rd hS)) ?_;rintro _ _ rfl hS)|refine Yaf ?_|refine Yag ?_|refine Ybd ?_|refine Ybu ?_|refine Yar (fun _ _ hS _ => ?_))|refine Yem ?_|refine Yab ?_)
 rename_i b4 _ _ _ _;obtain ⟨_,hc,_,hw,hbk⟩ := hS.call [false,true]
 refine Zaa _ rfl rfl rfl rfl rfl (top_ ht _ _ (hT.mono hw) hc) ?_
 rintro v w ⟨X',hX',hS,a,q,rfl,hq,hrow⟩
 replace hS := hbk hS
 clear hbk hw hc;repeat (first|refine Yea ?_|refine Yaf ?_|refine Yav ?_|refine Yao (fun _ hS _ => ?_)|refine Yar (fun _ _ hS _ => ?_)|refine Yed ?_|refine Yab ?_)
 rename_i b6 _ _ _ _ _;have hS : St W F [chR c f b T (Nt t) X',pts b6 (.cells (List.toArray (plV 0 t.nd a q)) 210 (0,0)),pts b4 (.cells (List.toArray pl0) 210 (0,0))] _ := hS.took
 refine Zal (α := Nat) (fun i => [(0,.pointer (some ⟨c,0,none⟩)),(4,.pointer (some ⟨b4,0,none⟩)),(6,.pointer (some ⟨b6,0,none⟩)),(20,.slice pa p.length pc),(21,.int .i64 (p.length : Nat)),(22,.int .i64 (i : Nat))])
  (fun i w => i ≤ p.length ∧ ∃ u a q X',goT t (p.take i) = .ok u ∧ (∀ x ∈ X,x ∈ X') ∧ u.nd.data.length ≤ q ∧ RX X' a (bv u.nd.data) ∧ St W F [chR c f b T (Nt t) X',pts b6 (.cells (List.toArray (plV u.no u.nd a q)) 210 (0,0)),pts b4 (.cells (List.toArray pl0) 210 (0,0))] w)
  (fun i => p.length - i) 0 ⟨rfl,rfl,rfl,rfl,rfl,rfl,trivial⟩ ⟨Nat.zero_le _,t,a,q,X',by rw [List.take_zero,goT],hX',hq,hrow,by rw [ht.root.1]; exact hS⟩ ?_
 clear hS hrow hq hX';rintro i w ⟨hi,u,a,q,X',hgo,hX',hq,hrow,hS2⟩
 have hu := Zc4 hgo
 by_cases hlt : i < p.length
 ·have hx0 : p[i]? = some p[i] := List.getElem?_eq_getElem (by omega)
  have htk : p.take (i + 1) = p.take i ++ [p[i]] := List.take_succ_eq_append_getElem hlt
  generalize p[i] = s at hx0 htk;have hr := hp
  have hx := Znk hx0
  obtain ⟨xb,xo,rfl⟩ := (hr.rd hS2).base (by intro e; rw [e] at hx; simp at hx)
  have hS := hS2
  repeat (first|refine Yea ?_|(refine X_id ?_;first|refine Yaf ?_|refine Yag ?_|refine Ya2 ?_|refine Ybc ?_|refine Ybg ?_|refine Yb2 ?_)|refine Yee ?_|refine Yab ?_)
  obtain ⟨_,hc,_,hw,hbk⟩ := hS.call [true,false,false]
  have hin := ht.into hu s
  refine Zaa _ rfl rfl rfl rfl rfl (Z49 u.no u.nd a q s _ _ (hT.mono hw) (hG.mono hw) hrow hq (ht.len hu) (by rw [hin]; cases hg : Zcz u s with | ok k => simp | error e => rcases Zqc hg with rfl | rfl <;> simp) hc) ?_
  rintro v w ⟨X2,hX2,hS,hv⟩
  replace hS := hbk hS
  clear hbk hw hc;rw [hin] at hv;cases hg : Zcz u s with
  | error e =>
   rw [hg] at hv;obtain ⟨rfl,he⟩ := hv
   have hres : goT t p = .error e := by
    rw [← List.take_append_drop (i + 1) p,htk,Zw6,Zjx,hgo]; simp only [hg]
   rw [hres];repeat (first|refine Yea ?_|refine Yfo ?_|refine Yao (fun _ hS _ => ?_)|refine Yar (fun _ _ hS _ => ?_)|refine Yek ?_|refine Yfn ?_)
   exact ⟨X2,fun x hx => hX2 x (hX' x hx),hS.took,rfl,he⟩
  | ok k =>
   rw [hg] at hv;obtain ⟨a',q',rfl,hq',hrow'⟩ := hv
   repeat (first|refine Yea ?_|(refine X_id ?_;first|refine Yaf ?_|refine Yag ?_|refine Yat ?_|refine Ya4 ?_|refine Ya0 ?_|refine Ybg ?_|refine Yao (fun _ hS _ => ?_)|refine Yar (fun _ _ hS _ => ?_))|refine Yem ?_|refine Yei ?_)
   refine Zaf (i + 1) ⟨rfl,rfl,rfl,rfl,rfl,rfl,trivial⟩ ⟨hlt,k,a',q',X2,by rw [htk,Zjx,hgo]; exact hg,fun x hx => hX2 x (hX' x hx),hq',hrow',?_⟩ (by omega)
   exact hS.took
 ·obtain rfl : i = p.length := by omega
  have hS := hS2
  rw [List.take_length] at hgo;rw [hgo];repeat (first|refine Yea ?_|refine Yag ?_|refine Ya6 ?_|refine Ybg ?_|refine Yao (fun _ hS _ => ?_)|refine Yej ?_|refine Yab ?_|refine Yba ?_|refine Ybb ?_|refine Ybv ?_)
  exact ⟨X',hX',hS.took,a,q,rfl,hq,hrow⟩
def shN (nd : Nd) : Nd := ⟨nd.st,if nd.st.kind = 1 then [] else nd.data⟩
theorem Z4i (nd : Nd) (a : Option Addr) (q : Nat) (W : World) (hb : Rd W (bytes a nd.data)) (hl : nd.data.length ≤ 512) :
  Calls Tryz.prog 109 #[.agg (List.toArray [.int .i64 nd.st.kind,.int .i64 nd.st.mode,.int .i64 nd.st.owner,.int .i64 nd.st.group,.slice a nd.data.length q])] W (Ret fun v w => ∃ a' q',v = .agg (ndV (shN nd) a' q').toArray ∧ (shN nd).data.length ≤ q' ∧ St W noF [own 5 1 a' q' (bv (shN nd).data)] w) := by
 have hbo := hb.ro
 have hS := St.start W
 unfold shN
 by_cases hk : nd.st.kind = 1
 ·rw [if_pos hk]
  refine Zab Tryz.func109 rfl Tryz.ntmps109 rfl ?_
  repeat (first|refine Yea ?_|(refine X_id ?_;first|refine Yan ?_|refine Ybi ?_|refine Ybl ?_|refine Yap ?_|refine Ybg ?_|refine Yao (fun _ hS _ => ?_)|refine Ya5 (fun _ _ hS _ => ?_)|refine Yar (fun _ _ hS _ => ?_))|refine Yek ?_|refine Yab ?_|refine Yaq ?_|refine Ybw ?_)
  exact ⟨none,0,rfl,Nat.le_refl _,(hS.took (out := [])).own_none _ _ _⟩
 ·rw [if_neg hk]
  refine Zab Tryz.func109 rfl Tryz.ntmps109 rfl ?_
  repeat (first|refine Yea ?_|(refine X_id ?_;first|refine Yan ?_|refine Ybh ?_|refine Yap ?_|refine Ya5 (fun _ _ hS _ => ?_)|refine Yar (fun _ _ hS _ => ?_))|refine Yem ?_|refine Yab ?_)
  refine Zam (.s 0 (.s 1 (.s 2 (.s 3 (.h 4 (.s 5 (.h 6 .nil .no)) .no))))) mixed (by kernel_rfl) rfl ?_
  have hS := hS.drew
  repeat (first|(refine Zae ?_;first|refine Ybe ?_|refine Ybk ?_|refine Yb1 ?_|refine Yas ?_))
  refine Zaa _ rfl rfl rfl rfl rfl (Zeo a nd.data.length q nd.data _ (hbo.rd hS) rfl (by omega)) ?_
  rintro _ w ⟨a',q',rfl,_,hqq,hS'⟩
  replace hS := hS.plus hS';clear hS';repeat (first|refine Yao (fun _ hS _ => ?_)|refine Yah ?_|refine Yab ?_|refine Ybw ?_|(refine Zae ?_;first|refine Yay ?_|refine Yb8 ?_|refine Yas ?_)|(refine Zac ?_;first|refine Yaz ?_))
  exact ⟨a',q',rfl,hqq,hS.took⟩
end
theorem Zr0 (l : List Nm) : ∀ u ∈ nmV l,u.oneCell' = true := fun u hu => by
 obtain ⟨x,_,hx⟩ := List.mem_flatMap.1 hu
 simp only [nmC,List.mem_cons,List.not_mem_nil,or_false] at hx
 rcases hx with rfl | rfl <;> rfl
theorem Zzb (l : List (List UInt8)) : ∀ u ∈ strV l,u.oneCell' = true := fun u hu => by
 obtain ⟨x,_,rfl⟩ := List.mem_map.1 hu; rfl
theorem Zww (a : Option Addr) (l : List Nm) (c : Nat) (W : World) (hs : Rd W (row a (nmV l))) (hlim : l.length ≤ 1048576) :
  Calls Tryz.prog 170 #[.slice a l.length c] W (Ret fun v w => ∃ a' c',v = .slice a' l.length c' ∧ l.length ≤ c' ∧ St W noF [own 290 2 a' c' (nmV l)] w) := by
 have hS := St.start W
 cases a with
 | none =>
  have h0 : nmV l = [] := hs.none_nil
  obtain rfl : l = [] := by
   have := Zg6 l
   rw [h0] at this;exact List.eq_nil_of_length_eq_zero (by simp at this; omega)
  refine Zab Tryz.func170 rfl Tryz.ntmps170 rfl ?_
  repeat (first|refine Yea ?_|refine Yaf ?_|refine Yag ?_|refine Ycs ?_|refine Yek ?_|refine Yel ?_)
  exact ⟨none,0,rfl,Nat.le_refl _,hS.own_none _ _ _⟩
 | some ad =>
  refine Zab Tryz.func170 rfl Tryz.ntmps170 rfl ?_
  repeat (first|refine Yea ?_|refine Yaf ?_|refine Yag ?_|refine Ycs ?_|refine Ybn (fun _ _ hS _ => ?_)|refine Yem ?_|refine Yab ?_)
  rename_i b w hb;have hs := hs.below hb
  refine Zar rfl rfl rfl rfl rfl hS rfl (by omega) hs (Zg6 l) (Zr0 l) (by omega) (by simp only [maxLen]; omega) (fun a' c' w hS hc hnil => ?_)
  repeat (first|refine Yea ?_|refine Yag ?_|refine Yah ?_|refine Yec ?_)
  exact ⟨a',c',by rw [Nat.zero_add],by omega,hS⟩
theorem Zrn (a : Option Addr) (l : List (List UInt8)) (c : Nat) (W : World) (hs : Rd W (row a (strV l))) (hlim : l.length ≤ 1048576) :
  Calls Tryz.prog 160 #[.slice a l.length c] W (Ret fun v w => ∃ a' c',v = .slice a' l.length c' ∧ l.length ≤ c' ∧ St W noF [own 9 1 a' c' (strV l)] w) := by
 have hS := St.start W
 cases a with
 | none =>
  have h0 : strV l = [] := hs.none_nil
  obtain rfl : l = [] := List.map_eq_nil_iff.1 h0
  refine Zab Tryz.func160 rfl Tryz.ntmps160 rfl ?_
  repeat (first|refine Yea ?_|refine Yaf ?_|refine Yag ?_|refine Ycs ?_|refine Yek ?_|refine Yel ?_)
  exact ⟨none,0,rfl,Nat.le_refl _,hS.own_none _ _ _⟩
 | some ad =>
  refine Zab Tryz.func160 rfl Tryz.ntmps160 rfl ?_
  repeat (first|refine Yea ?_|refine Yaf ?_|refine Yag ?_|refine Ycs ?_|refine Ybn (fun _ _ hS _ => ?_)|refine Yem ?_|refine Yab ?_)
  rename_i b w hb;have hs := hs.below hb
  refine Zar rfl rfl rfl rfl rfl hS rfl (by omega) hs (by rw [Zeu,Nat.mul_one]) (Zzb l) (by omega) (by simp only [maxLen]; omega) (fun a' c' w hS hc hnil => ?_)
  repeat (first|refine Yea ?_|refine Yag ?_|refine Yah ?_|refine Yec ?_)
  exact ⟨a',c',by rw [Nat.zero_add],by omega,hS⟩
theorem Z07 (pa : Option Addr) (p : List (List UInt8)) (pc : Nat) (W : World) (hp : Rd W (row pa (strV p))) (hpc : p.length ≤ pc) (hpl : p.length ≤ 1048576) :
  Calls Tryz.prog 97 #[.slice pa p.length pc] W (Ret fun v w => (Zcd p ∧ ∃ q s a' c',p = q ++ [s] ∧ v = .tuple #[.slice a' q.length c',.string (str s),.int .i64 0] ∧ q.length ≤ c' ∧ St W noF [own 9 1 a' c' (strV q)] w) ∨
   ((¬ Zcd p ∨ p = []) ∧ v = .tuple #[.slice none 0 0,.string (str []),.int .i64 10] ∧ St W noF [] w)) := by
 have hS := St.start W
 have hR := fun W h => Zwr pa p pc W h hpl
 have hp' := hp.ro
 by_cases hr : Zcd p
 case neg =>
  simp only [decide_eq_false hr] at hR
  refine Zab Tryz.func97 rfl Tryz.ntmps97 rfl ?_
  repeat (first|refine Yep ?_|(refine X_id ?_;first|(refine Zad 158 rfl rfl rfl rfl rfl hS (hR _ (hp'.rd hS)) ?_;rintro _ _ rfl hS)|refine Yaf ?_|refine Yag ?_|refine Ya8 ?_|refine Ybq ?_)|refine Yek ?_|refine Yab ?_|refine Yaq ?_|refine Ydo ?_)
  exact .inr ⟨.inl hr,rfl,hS⟩
 simp only [decide_eq_true hr] at hR
 rcases List.eq_nil_or_concat p with rfl | ⟨q,s,rfl⟩
 ·refine Zab Tryz.func97 rfl Tryz.ntmps97 rfl ?_
  repeat (first|refine Yer ?_|(refine X_id ?_;first|(refine Zad 158 rfl rfl rfl rfl rfl hS (hR _ (hp'.rd hS)) ?_;rintro _ _ rfl hS)|refine Yaf ?_|refine Yag ?_|refine Ya1 ?_|refine Ybd ?_|refine Yav ?_|refine Ycz ?_)|refine Yek ?_|refine Yab ?_|refine Yaq ?_|refine Ydo ?_)
  exact .inr ⟨.inr rfl,rfl,hS⟩
 ·have hlen : (q ++ [s]).length = q.length + 1 := by simp
  have hx : (strV (q ++ [s]))[q.length]? = some (.string (str s)) := Znk (by simp)
  obtain ⟨xb,xo,rfl⟩ := hp.base (by simp [strV])
  have hr := hp'
  simp only [List.concat_eq_append,hlen] at *
  refine Zab Tryz.func97 rfl Tryz.ntmps97 rfl ?_
  repeat (first|refine Yer ?_|(refine X_id ?_;first|(refine Zad 158 rfl rfl rfl rfl rfl hS (hR _ (hp'.rd hS)) ?_;rintro _ _ rfl hS)|refine Yaf ?_|refine Yag ?_|refine Ya1 ?_|refine Ybd ?_|refine Yav ?_|refine Ybh ?_|refine Ybz ?_)|refine Yem ?_|refine Yab ?_)
  refine Zam (.s 0 (.s 1 (.s 2 (.s 3 (.s 5 (.s 6 (.s 7 (.s 8 (.h 4 (.s 9 (.s 10 (.s 11 .nil))) .no))))))))) mixed (by kernel_rfl) rfl ?_
  have hS := hS.drew
  repeat (first|(refine Zae ?_;first|refine Ya3 ?_))
  refine Zak rfl rfl (fun _ => Zli (l := 0) (h := q.length) (k := q.length) rfl rfl rfl rfl rfl ⟨_,_,rfl,by omega,by omega,by omega⟩ ⟨_,_,rfl,by omega,by omega,by omega⟩ (.inl ⟨rfl,rfl⟩)) rfl rfl ?_
  simp only [Nat.sub_zero]
  repeat (first|(refine Zae ?_;first|refine Ya3 ?_|refine Yb3 ?_|refine Yd3 ?_|refine Yas ?_))
  have hsub : Ro W noF (row (Cr.sub (some ⟨xb,xo,none⟩) 0 1 q.length) (strV q)) := by
   have := hp'.sub (l := 0) (h := q.length) (e := 1) (c := q.length) (Nat.le_refl _) (Nat.zero_le _)
   rwa [Nat.zero_mul,List.drop_zero,Nat.sub_zero,Nat.mul_one,show (strV (q ++ [s])).take q.length = strV q by
    rw [show strV (q ++ [s]) = strV q ++ [.string (str s)] by simp [strV],List.take_append_of_le_length (Nat.le_of_eq (Zeu q).symm),List.take_of_length_le (Nat.le_of_eq (Zeu q))]] at this
  refine Zaa _ rfl rfl rfl rfl rfl (Zrn _ q _ _ (hsub.rd hS) (by omega)) ?_
  rintro _ w ⟨a',c',rfl,hc',hS'⟩
  replace hS := hS.plus hS';clear hS';repeat (first|refine Yah ?_|refine Yab ?_|refine Ydo ?_|(refine Zae ?_;first|refine Ye6 ?_)|(refine Zac ?_;first|refine Yaz ?_))
  exact .inl ⟨by assumption,q,s,a',c',rfl,rfl,hc',hS.took⟩
section
variable {c f tp n : Nat} {b : Int} {T : Int → Option Nd} {t : Tn} {X : List RowD}
def getR (t : Tn) (p : List (List UInt8)) : Except Int Nd := match goR t p with
 | .ok x => .ok (shN x.2)
 | .error e => .error e
def Z6j (X : List RowD) (r : Except Int Nd) (v : Value) : Prop := match r with
 | .error e => v = .tuple #[nd0,.int .i64 e] ∧ e ≠ 0
 | .ok x => ∃ a q,v = .tuple #[.agg (ndV x a q).toArray,.int .i64 0] ∧ x.data.length ≤ q ∧ RX X a (bv x.data)
theorem get_ (ht : TreeOk n t) (pa : Option Addr) (p : List (List UInt8)) (pc : Nat) (W : World) (F : Nat → Prop) (hT : TreeRo W F f tp n b T) (hG : Lg W F) (hp : Ro W F (row pa (strV p))) (hpl : p.length ≤ 1048576) (hS : St W F [chR c f b T (Nt t) X] W) :
  Calls Tryz.prog 56 #[.pointer (some ⟨c,0,none⟩),.slice pa p.length pc] W (Ret fun v w => ∃ X',(∀ x ∈ X,x ∈ X') ∧ St W F [chR c f b T (Nt t) X'] w ∧ Z6j X' (getR t p) v) := by
 unfold getR
 refine Zab Tryz.func56 rfl Tryz.ntmps56 rfl ?_
 repeat (first|refine Yea ?_|refine Yen ?_|refine Yar (fun _ _ hS _ => ?_)|refine Yeb ?_|refine Yab ?_)
 obtain ⟨_,hc,_,hw,hbk⟩ := hS.call [false,true]
 refine Zaa _ rfl rfl rfl rfl rfl (Z0e ht pa p pc _ _ (hT.mono hw) (hG.mono hw) (hw _ hp) hpl hc) ?_
 rintro v w ⟨X',hX',hS,hv⟩
 replace hS := hbk hS
 clear hbk hw hc;cases hg : goR t p with
 | error e =>
  rw [hg] at hv;obtain ⟨rfl,he⟩ := hv
  repeat (first|refine Yea ?_|refine Yfo ?_|refine Yao (fun _ hS _ => ?_)|refine Yar (fun _ _ hS _ => ?_)|refine Yek ?_|refine Yab ?_|refine Yaq ?_|refine Ybv ?_)
  exact ⟨X',hX',hS.took,rfl,he⟩
 | ok x =>
  rw [hg] at hv;obtain ⟨a',q',rfl,hq',hrow⟩ := hv
  have hlen : x.2.data.length ≤ 512 := by
   unfold goR at hg
   split at hg
   ·split at hg
    ·rename_i u hu
     injection hg with hg
     rw [← hg]; exact ht.len (Zc4 hu)
    ·cases hg
   ·cases hg
  repeat (first|refine Yea ?_|(refine X_id ?_;first|refine Yaf ?_|refine Yag ?_|refine Yan ?_|refine Yat ?_|refine Ya4 ?_|refine Ybg ?_|refine Yao (fun _ hS _ => ?_)|refine Yar (fun _ _ hS _ => ?_))|refine Yem ?_|refine Yab ?_)
  refine Zaa _ rfl rfl rfl rfl rfl (Z4i x.2 a' q' _ (hrow.rd (hS.rd (r := chR c f b T (Nt t) X') (by simp)).ch) hlen) ?_
  rintro _ w ⟨a2,q2,rfl,hq2,hS'⟩
  replace hS := hS.plus hS';clear hS';repeat (first|refine Yea ?_|refine Yag ?_|refine Yao (fun _ hS _ => ?_)|refine Yah ?_|refine Yab ?_|refine Ybv ?_)
  have hS : St W F [own 5 1 a2 q2 (bv (shN x.2).data),chR c f b T (Nt t) X'] _ := hS.took
  have hS := (hS.toBag (a := a2) (cs := bv (shN x.2).data) fun _ h => h.row).chAdd
  exact ⟨_,fun y hy => List.mem_append_right _ (hX' y hy),hS,a2,q2,rfl,hq2,.mem (List.mem_append_left _ (List.mem_cons_self ..))⟩
end
section
variable {W : World} {F : Nat → Prop} {rs : List Res} {w : World}
theorem St.openOwn {T e : Nat} {a : Option Addr} {c : Nat} {cs : List Value} (hS : St W F (own T e a c cs :: rs) w) (hne : cs ≠ []) : ∃ (b : Nat) (l : List Value),a = some ⟨b,0,none⟩ ∧ l.length = c * e ∧ l.take cs.length = cs ∧ c ≤ maxLen ∧ St W F (pts b (.cells l.toArray T (0,0)) :: rs) w := by
 obtain ⟨h,⟨h1,h2,⟨hl,hc,hh⟩,hr,hd,hu⟩,s⟩ := hS
 rcases hh with ⟨rfl,_⟩ | ⟨b,cells,rfl,rfl,hs,ht⟩
 ·exact absurd (List.eq_nil_of_length_eq_zero (by simpa using hl)) hne
 ·exact ⟨b,cells.toList,rfl,by simpa using hs,ht,hc,h,⟨_,h2,rfl,hr,hd,hu⟩,s⟩
theorem St.ptsNe {b b' : Nat} {o o' : Obj} (hS : St W F (pts b o :: pts b' o' :: rs) w) : b ≠ b' := by
 obtain ⟨h,⟨h1,h2,rfl,⟨h3,h4,rfl,_,_,hu'⟩,hd,_⟩,_⟩ := hS
 intro e
 subst e
 rcases hd b with h' | h'
 ·rw [Zao] at h'; cases h'
 ·rw [hu',Zao] at h'; cases h'
end
section
variable {P : Program} {o : Oper} {σ : Env} {w : World} {N : Nat} {ds : Md} {K : Env → World → Prop} {x y : Operand} {t : TypeId}
theorem Zoy {sT T e : TypeId} {g off n c m c2 d : Nat} {a : Option Addr} {l news : List Value} {W : World} {F : Nat → Prop} {rs rs' : List Res} {z : Value} {bytes : Nat} {TT : TypeId} (ho : o.op = .call { callee := .builtin .copy,args := #[x,y],argTypes := #[t,sT] }) (hx : ev σ x = some (.slice (some ⟨g,off,none⟩) n c)) (hy : ev σ y = some (.slice a m c2))
  [h : Und P t (.slice T)] [hi : Inf P T z e bytes] (hd : o.dst = some d) (hN : Nat.blt d N = true) (hS : St W F rs w) [hh : Has rs g (.cells l.toArray TT (0,0))] (hnews : Rd w (row a news)) (hl : news.length = min m n * e) (h1 : ∀ u ∈ news,u.oneCell' = true) (hfit : off + news.length ≤ l.length)
  [hu : Upd rs g (.cells (Zai l off news).toArray TT (0,0)) rs'] (hk : ∀ w',St W F rs' w' → K ((d,.int .i64 ((min m n : Nat) : Int)) :: σ) w') : X P o N ds σ w K := ⟨fun f ha K' Q' hK => by
 have hb := hS.has (b := g) (o := .cells l.toArray TT (0,0))
 obtain ⟨i,hi',hz',hsz,hby⟩ := info_parts hi.inf
 subst hsz
 have hmn : Nat.min m n = min m n := rfl
 have hfc : (Builtin.firstCells i.size (Nat.min m n) (.slice a m c2)).run P w = .ok news.toArray w := by
  have := Za2 (P := P) (size := i.size) (m := Nat.min m n) (c := c2) hnews (by rw [hmn]; exact hl)
  cases a <;> exact this
 have hst := run_storeCells_at P g off TT news 0 l.toArray w hb (by simpa using hfit) h1
 simp only [Nat.add_zero] at hst
 have hexec : (execOp f.eval o).run P w = .ok (.value (.int .i64 ((Nat.min m n : Nat) : Int))) (w.setRow g (Zai l off news).toArray) := by
  simp only [execOp,ho,resolve,invoke,builtin,ha.eval hx,ha.eval hy,Builtin.copy_,Sem.run_bind,Sem.run_pure,Result.andThen_ok,List.map_toArray,List.map_cons,List.map_nil]
  simp [run_underlying h.und,Builtin.lenOf,Go.sizeOf,typeInfo,hi',hfc,hst,goInt,Zai]
 unfold Oper.wp
 rw [hexec];have u := Zbn hb (Zai l off news).toArray
 have := hK _ _ _ (ha.put (Zan hN) (.int .i64 ((Nat.min m n : Nat) : Int))) (hk _ (hS.upd u))
 rw [← hd] at this;exact this⟩
theorem Zlm {T bytes c n m e : Nat} {k k' : IntKind} {a : Option Addr} {cs : List Value} {z : Value} {W : World} {F : Nat → Prop} {rs : List Res} {d : Nat} {tx : TypeId} (ho : o.op = .call { callee := .builtin .append,args := #[x,y],argTypes := #[t,tx] }) (hx : ev σ x = some (.slice a n c)) (hy : ev σ y = some (.int k (m : Nat)))
  [h : Und P t (.slice T)] [hx' : Und P tx (.int k')] [hi : Inf P T z e bytes] (hd : o.dst = some d) (hN : Nat.blt d N = true) (hS : St W F rs w) (hr : Rd w (row a cs)) (hcs : cs.length = n * e) (hg : c < n + m) (hm : 0 < m) (he : 0 < e)
  (hfit : (n + m) * bytes ≤ 140737488355328) (hmax : n + m ≤ maxLen)
  (hk : ∀ b c' zs w',zs.length = m * e → St W F (own T e (some ⟨b,0,none⟩) c' (cs ++ zs) :: rs) w' → n + m ≤ c' → K ((d,.slice (some ⟨b,0,none⟩) (n + m) c') :: σ) w') : X P o N ds σ w K := ⟨fun f ha K' Q' hK => by
 obtain ⟨i,hi',hz',hsz,hby⟩ := info_parts hi.inf
 subst hby
 subst hsz
 have hzs : z.cells.size = i.size := hi.zs
 have hlt : ((n + m : Nat) : Int) ≤ 9223372036854775807 := by simp only [maxLen] at hmax; omega
 have hw64 : IntKind.i64.wrap (m : Int) = m := w64 (by omega) (by omega)
 have hm0 : ¬ ((m : Int) < 0) := by omega
 have hmb : ¬ (281474976710656 < (m : Int) * i.bytes) := by
  have h1 : (n + m) * i.bytes = n * i.bytes + m * i.bytes := Nat.add_mul ..
  rw [← Int.natCast_mul];generalize m * i.bytes = q at h1 ⊢;omega
 have hge : n + m ≤ grownCap w (n + m) c T := grownCap_ge w (n + m) c T
 have hcm : grownCap w (n + m) c T ≤ maxLen := grownCap_le_maxLen w (n + m) c T hmax
 have hn' : ¬ (n + m ≤ c) := by omega
 have hmin : ¬ (9223372036854775807 < ((n : Int) + (m : Int))) := by omega
 have h48 : ¬ (281474976710656 < Builtin.nextslicecap (n + m) c * i.bytes) := by have := growslice_fits (show c < n + m by omega) hfit; omega
 have hod : (Builtin.firstCells i.size n (.slice a n c)).run P w.drew = .ok cs.toArray w.drew := Za2 (P := P) (size := i.size) (by obtain ⟨g,hg,ha⟩ := hr; exact ⟨g,hg,ha⟩) hcs
 let blk := cs.toArray ++ Builtin.zeroCells z.cells m ++ Builtin.zeroCells z.cells (grownCap w (n + m) c T - (n + m))
 have hlen : blk.toList.length = grownCap w (n + m) c T * i.size := by
  simp only [blk,Array.length_toList,Array.size_append,List.size_toArray,size_zeroCells,hzs,hcs,← Nat.add_mul]
  congr 1; omega
 have hexec : (execOp f.eval o).run P w = .ok (.value (.slice (some ⟨w.heap.size,0,none⟩) (n + m) (grownCap w (n + m) c T))) (w.drew.alloc (.cells blk T)) := by
  have hmm : m ≠ 0 := by omega
  have hmz : ¬ (m * i.size = 0) := Nat.ne_of_gt (Nat.mul_pos hm he)
  simp [execOp,ho,resolve,invoke,builtin,ha.eval hx,ha.eval hy,Builtin.append_,run_underlying h.und,run_underlying hx'.und,Go.sizeOf,typeInfo,zeroValue,hi',hz',hw64,hm0,hmb,hmz,Nat.ne_of_gt he,hn',hmin,h48,asInt,asIntOf,Question.forced,hod,hmm,newRow,grownCap,blk]
 unfold Oper.wp
 rw [hexec];have := hK _ _ _ (ha.put (Zan hN) (.slice (some ⟨w.heap.size,0,none⟩) (n + m) (grownCap w (n + m) c T))) (hk w.heap.size _ (Builtin.zeroCells z.cells m).toList (w.drew.alloc (.cells blk T)) (by simp [size_zeroCells,hzs]) (St.imp (hS.drew.alloc (.cells blk T)) fun g hg => hg.mono_head (by
  have key := Za7 (T := T) (e := i.size) (c := grownCap w (n + m) c T) (b := w.heap.size) (l := blk.toList) (cs := cs ++ (Builtin.zeroCells z.cells m).toList) hlen hcm (by
   simp only [blk,Array.toList_append]; exact List.take_left)
  simpa using key)) hge)
 rw [← hd] at this;exact this⟩
end
class EOver (P : Program) (g : FuncId) (T : TypeId) : Prop where
 run : ∀ {b b' : Nat} {l l' : List Value} {n c i n' c' : Nat} {w : World},b ≠ b' → w.heap[b]? = some (.cells l.toArray T (0,0)) → w.heap[b']? = some (.cells l'.toArray T (0,0)) → l' ≠ [] → (callFunc g #[.slice (some ⟨b,0,none⟩) n c,.slice (some ⟨b',i,none⟩) n' c']).run P w = .ok (.value (.bool false)) w
instance : EOver Tryz.prog 220 290 := ⟨fun {b b' l l' n c i n' c' w} hne hb hb' hl => by
 rw [run_callFunc_extern Tryz.func220 (by kernel_rfl) (by kernel_rfl) (by kernel_rfl) (e := Extern.SlicesOverlaps.overlaps #[217,217] #[4]) (by kernel_rfl)]
 rw [Lib.run_overlaps_apart w 217 4 290 (by kernel_rfl) 2 (fun w => Zbj w) ⟨b,0,none⟩ ⟨b',i,none⟩ n c n' c' hne 290 290 l.length l'.length (by simp [World.shape?,hb]) (by simp [World.shape?,hb']) (by simpa using hl) (Zej hb) (Zej hb)]
 rfl⟩
end Cr
namespace Go.Proofs
open Go.Shelf
def Tryz.lays106_ren : Go.Shelf.Ren := ⟨fun | 106 => 168 | 213 => 219 | 265 => 248 | n => n,fun | 9 => 9 | 3 => 3 | n => n,fun | n => n⟩
theorem Tryz.lays106 : Go.Proofs.Lays.n106 Tryz.prog Tryz.lays106_ren := {
 mixed := by kernel_rfl
 f106 := Tryz.func168.trans (congrArg some (by kernel_rfl))
 f213 := Tryz.func219.trans (congrArg some (by kernel_rfl))
 f265 := Tryz.func248.trans (congrArg some (by kernel_rfl))
 t3 := Tryz.underlying3
 a3 := Tryz.isAgg3
 z3 := Tryz.sizeOf3
 v3 := Tryz.zeroValue3
 t9 := Tryz.underlying9
 a9 := Tryz.isAgg9
 z9 := Tryz.sizeOf9
 v9 := Tryz.zeroValue9 }
open Go.RowKit in
theorem Tryz.strings_Compare (a b : ByteArray) (w : World) :
  Calls Tryz.prog 168 #[.string a,.string b] w fun e w' => e = .returned (.int .i64 (Lib.compareBytes a.data.toList b.data.toList)) ∧ w' = w := Any.strings_Compare Tryz.lays106 a b w
end Go.Proofs
namespace Cr
open Go Go.Proofs
set_option maxRecDepth 100000
set_option maxHeartbeats 64000000
attribute [local irreducible] Calls

theorem Zqd {n : Nat} {t : Tn} (ht : TreeOk n t) {p : List (List UInt8)} {x : Int × Nd} (h : goR t p = .ok x) : Zcd p ∧ ∃ u,goT t p = .ok u ∧ u ∈ subT t ∧ x = (u.no,u.nd) := by
 unfold goR at h
 split at h
 ·rename_i hr
  split at h
  ·rename_i u hu
   injection h with h
   exact ⟨hr,u,hu,Zc4 hu,h.symm⟩
  ·cases h
 ·cases h
def lstR (t : Tn) (p : List (List UInt8)) : List (List UInt8) × Int := match goR t p with
 | .error e => ([],e)
 | .ok x => if x.2.st.kind = 1 then ((rdD x.2.data).map (·.1),0) else ([],17)
section
variable {c f tp n : Nat} {b : Int} {T : Int → Option Nd} {t : Tn} {X : List RowD}
theorem Z63 (ht : TreeOk n t) (pa : Option Addr) (p : List (List UInt8)) (pc : Nat) (W : World) (F : Nat → Prop) (hT : TreeRo W F f tp n b T) (hG : Lg W F) (hp : Ro W F (row pa (strV p))) (hpl : p.length ≤ 1048576) (hS : St W F [chR c f b T (Nt t) X] W) :
  Calls Tryz.prog 189 #[.pointer (some ⟨c,0,none⟩),.slice pa p.length pc] W (Ret fun v w => ∃ X' a q,(∀ x ∈ X,x ∈ X') ∧ v = .tuple #[.slice a (lstR t p).1.length q,.int .i64 (lstR t p).2] ∧ (lstR t p).1.length ≤ q ∧ St W F [own 9 1 a q (strV (lstR t p).1),chR c f b T (Nt t) X'] w) := by
 unfold lstR
 refine Zab Tryz.func189 rfl Tryz.ntmps189 rfl ?_
 repeat (first|refine Yea ?_|refine Yen ?_|refine Yeb ?_|refine Yab ?_)
 obtain ⟨_,hc,_,hw,hbk⟩ := hS.call [true]
 refine Zaa _ rfl rfl rfl rfl rfl (Z0e ht pa p pc _ _ (hT.mono hw) (hG.mono hw) (hw _ hp) hpl hc) ?_
 rintro v w ⟨X',hX',hS,hv⟩
 replace hS := hbk hS
 clear hbk hw hc;cases hg : goR t p with
 | error e =>
  rw [hg] at hv;obtain ⟨rfl,he⟩ := hv
  repeat (first|refine Yea ?_|refine Yfg ?_|refine Yao (fun _ hS _ => ?_)|refine Yar (fun _ _ hS _ => ?_)|refine Yek ?_|refine Yew ?_)
  exact ⟨X',none,0,hX',rfl,Nat.le_refl _,(hS.took (out := [chR c f b T (Nt t) X'])).own_none _ _ _⟩
 | ok x =>
  rw [hg] at hv;obtain ⟨a',q',rfl,hq',hrow⟩ := hv
  obtain ⟨_,u,_,hu,hxu⟩ := Zqd ht hg
  have hlen : x.2.data.length ≤ 512 := by rw [hxu]; exact ht.len hu
  have hrl := Zru x.2.data
  simp only
  repeat (first|refine Yea ?_|refine Yfp ?_|refine Yao (fun _ hS _ => ?_)|refine Yar (fun _ _ hS _ => ?_)|refine Yem ?_|refine Yab ?_)
  refine Zaa _ rfl rfl rfl rfl rfl (Ztl x.1 x.2 a' q' _ (hrow.rd (hS.rd (r := chR c f b T (Nt t) X') (by simp)).ch) hq' hlen (hG.at_ hS)) ?_
  rintro _ w (⟨hk,nb,nc,rfl,hS'⟩ | ⟨hk,rfl,hS'⟩)
  ·replace hS := hS.plus hS'
   clear hS';rw [if_pos hk];generalize hl : rdD x.2.data = l at hS hrl ⊢;simp only
   repeat (first|refine Yea ?_|refine Yaf ?_|refine Yag ?_|refine Yat ?_|refine Yav ?_|refine Yed ?_|refine Yab ?_)
   have hS : St W F [own 290 2 nb nc (nmV l),chR c f b T (Nt t) X'] _ := hS.took
   refine Zal (α := Nat × Option Addr × Nat) (fun z => [(7,.int .i64 0),(9,.slice z.2.1 z.1 z.2.2),(26,.slice nb l.length nc),(27,.int .i64 (l.length : Nat)),(28,.int .i64 (z.1 : Nat))])
    (fun z w => z.1 ≤ l.length ∧ z.1 ≤ z.2.2 ∧ St W F [own 9 1 z.2.1 z.2.2 (strV ((l.take z.1).map (·.1))),own 290 2 nb nc (nmV l),chR c f b T (Nt t) X'] w) (fun z => l.length - z.1) (0,none,0) ⟨rfl,rfl,rfl,rfl,rfl,trivial⟩ ⟨Nat.zero_le _,Nat.le_refl _,hS.own_none _ _ _⟩ ?_
   clear hS;rintro ⟨i,oa,oc⟩ w ⟨hi,hio,hS2⟩
   simp only at hi hio hS2
   by_cases hlt : i < l.length
   ·have hx0 : l[i]? = some l[i] := List.getElem?_eq_getElem (by omega)
    have htk : l.take (i + 1) = l.take i ++ [l[i]] := List.take_succ_eq_append_getElem hlt
    generalize l[i] = y at hx0 htk;have hxs : ((nmV l).drop (i * 2)).take 2 = [.string (str y.1),.int .i64 y.2] := Zhy hx0
    have hr := (hS2.rd (r := own 290 2 nb nc (nmV l)) (by simp)).own_row
    obtain ⟨xb,xo,rfl⟩ := hr.base (by intro e; rw [e] at hxs; simp at hxs)
    have hS := hS2
    repeat (first|refine Yea ?_|(refine X_id ?_;first|refine Yaf ?_|refine Yan ?_|refine Ya2 ?_|refine Ybc ?_|refine Yap ?_|refine Ybp ?_|refine Yao (fun _ hS _ => ?_)|refine Yar (fun _ _ hS _ => ?_)|refine Ybn (fun _ _ hS _ => ?_))|refine Yee ?_|refine Yab ?_)
    have hnw := (hS.rd (List.mem_cons_self ..)).own_row
    refine Zar rfl rfl rfl rfl rfl hS (by rw [Zeu,List.length_map,List.length_take]; omega) hio hnw rfl (by simp [Value.oneCell']) (by dsimp only; omega) (by simp only [maxLen]; omega) (fun b' q' w hS hq' _ => ?_)
    repeat (first|refine Yea ?_|refine Yes ?_|refine Yad ?_|refine Yei ?_)
    refine Zaf (z := (i,oa,oc)) (i + 1,b',q') ⟨rfl,rfl,rfl,rfl,rfl,trivial⟩ ⟨hlt,hq',?_⟩ (by dsimp only; omega)
    rw [htk,List.map_append,show strV ((l.take i).map (·.1) ++ [y].map (·.1)) = strV ((l.take i).map (·.1)) ++ [.string (str y.1)] by simp [strV]]
    exact hS.took
   ·obtain rfl : i = l.length := by omega
    have hS := hS2
    rw [List.take_length] at hS;repeat (first|refine Yea ?_|refine Yfi ?_|refine Yej ?_|refine Yfm ?_)
    exact ⟨X',oa,oc,hX',by rw [List.length_map],by rw [List.length_map]; exact hio,hS.took⟩
  ·replace hS := hS.plus hS'
   clear hS';rw [if_neg hk];repeat (first|refine Yea ?_|refine Yaf ?_|refine Yag ?_|refine Yat ?_|refine Yav ?_|refine Yed ?_|refine Yab ?_)
   refine Zal (α := Unit) (fun _ => [(7,.int .i64 17),(9,.slice none 0 0),(27,.int .i64 0),(28,.int .i64 0)]) (fun _ w => St W F [chR c f b T (Nt t) X'] w) (fun _ => 0) () ⟨rfl,rfl,rfl,rfl,trivial⟩ hS.took ?_
   clear hS;rintro _ w hS
   repeat (first|refine Yea ?_|refine Yfi ?_|refine Yej ?_|refine Yfm ?_)
   exact ⟨X',none,0,hX',rfl,Nat.le_refl _,hS.own_none _ _ _⟩
def Zfl (t : Tn) (p : List (List UInt8)) : Except Int (Tn × List UInt8) :=
 if Zcd p then match p.getLast? with
  | none => .error 10
  | some s => match goT t p.dropLast with
   | .error e => .error e
   | .ok u => if u.st.kind = 1 then .ok (u,s) else .error 17
 else .error 10
def Z30 (X : List RowD) (r : Except Int (Tn × List UInt8)) (v : Value) : Prop := match r with
 | .error e => e ≠ 0 ∧ ∃ no nd a q b m k s,v = .tuple #[.agg (List.toArray (plV no nd a q)),.slice b m k,.string s,.int .i64 e]
 | .ok x => ∃ a q nb nc,v = .tuple #[.agg (List.toArray (plV x.1.no x.1.nd a q)),.slice nb x.1.names.length nc,.string (str x.2),.int .i64 0] ∧ x.1.nd.data.length ≤ q ∧ RX X a (bv x.1.nd.data) ∧ RX X nb (nmV x.1.names)
theorem Zrt {p q : List (List UInt8)} (h : Zcd (p ++ q)) : Zcd p := ⟨by have := h.1; rw [List.length_append] at this; omega,fun s hs => h.2 s (List.mem_append_left _ hs)⟩
theorem Zu7 {t : Tn} {q : List (List UInt8)} {s : List UInt8} (h : Zcd (q ++ [s])) : Zfl t (q ++ [s]) = match goT t q with
  | .error e => .error e
  | .ok u => if u.st.kind = 1 then .ok (u,s) else .error 17 := by
 unfold Zfl
 rw [if_pos h,List.getLast?_append,List.dropLast_concat];simp only [List.getLast?_singleton,Option.some_or]
theorem Zw1 {t : Tn} {p : List (List UInt8)} (h : ¬ Zcd p ∨ p = []) : Zfl t p = .error 10 := by
 unfold Zfl
 rcases h with h | h
 ·rw [if_neg h]
 ·subst h; simp
theorem Zw7 {t : Tn} {q : List (List UInt8)} (h : Zcd q) : goR t q = match goT t q with
  | .ok u => .ok (u.no,u.nd)
  | .error e => .error e := by
 unfold goR; rw [if_pos h] <;> cases goT t q <;> rfl
theorem Z46 (ht : TreeOk n t) (pa : Option Addr) (p : List (List UInt8)) (pc : Nat) (W : World) (F : Nat → Prop) (hT : TreeRo W F f tp n b T) (hG : Lg W F) (hp : Ro W F (row pa (strV p))) (hpc : p.length ≤ pc) (hpl : p.length ≤ 1048576) (hS : St W F [chR c f b T (Nt t) X] W) :
  Calls Tryz.prog 99 #[.pointer (some ⟨c,0,none⟩),.slice pa p.length pc] W (Ret fun v w => ∃ X',(∀ x ∈ X,x ∈ X') ∧ St W F [chR c f b T (Nt t) X'] w ∧ Z30 X' (Zfl t p) v) := by
 refine Zab Tryz.func99 rfl Tryz.ntmps99 rfl ?_
 repeat (first|refine Yea ?_|refine Yaf ?_|refine Yag ?_|refine Ybu ?_|refine Yar (fun _ _ hS _ => ?_)|refine Yem ?_|refine Yab ?_)
 refine Zaa _ rfl rfl rfl rfl rfl (Z07 pa p pc _ (hp.rd hS) hpc hpl) ?_
 rintro _ w (⟨hr,q,s,a',c',rfl,rfl,hc',hS'⟩ | ⟨hbad,rfl,hS'⟩)
 ·replace hS := hS.plus hS'
  clear hS';have hl := Zu7 (t := t) hr
  rw [List.length_append] at hpl;repeat (first|refine Yea ?_|refine Yff ?_|refine Yem ?_|refine Yab ?_)
  obtain ⟨_,hc,hr1,hw,hbk⟩ := hS.call [false,false,true]
  refine Zaa _ rfl rfl rfl rfl rfl (Z0e ht a' q c' _ _ (hT.mono hw) (hG.mono hw) (hr1 _ (List.mem_cons_self ..)).own_row (by omega) hc) ?_
  rintro v w ⟨X',hX',hS,hv⟩
  replace hS := hbk hS
  clear hbk hw hc hr1;rw [Zw7 (Zrt hr)] at hv;cases hg : goT t q with
  | error e =>
   rw [hg] at hv hl;rw [hl];obtain ⟨rfl,he⟩ := hv
   repeat (first|refine Yea ?_|refine Yfo ?_|refine Yao (fun _ hS _ => ?_)|refine Yar (fun _ _ hS _ => ?_)|refine Yek ?_|refine Yab ?_|refine Yaq ?_|refine Ycn ?_)
   exact ⟨X',hX',hS.took,he,0,⟨⟨0,0,0,0⟩,[]⟩,none,0,none,0,0,_,rfl⟩
  | ok u =>
   rw [hg] at hv hl;obtain ⟨a2,q2,rfl,hq2,hrow⟩ := hv
   have hu := Zc4 hg
   simp only at hq2 hrow
   repeat (first|refine Yea ?_|refine Yfp ?_|refine Yao (fun _ hS _ => ?_)|refine Yar (fun _ _ hS _ => ?_)|refine Yem ?_|refine Yab ?_)
   refine Zaa _ rfl rfl rfl rfl rfl (Ztl u.no u.nd a2 q2 _ (hrow.rd (hS.rd (r := chR c f b T (Nt t) X') (by simp)).ch) hq2 (ht.len hu) (hG.at_ hS)) ?_
   rintro _ w (⟨hk,nb,nc,rfl,hS'⟩ | ⟨hk,rfl,hS'⟩)
   ·replace hS := hS.plus hS'
    clear hS';have hk' : u.st.kind = 1 := hk
    simp only [if_pos hk'] at hl
    rw [hl];rw [(ht.rd hu hk').2] at hS ⊢;repeat (first|refine Yea ?_|(refine X_id ?_;first|refine Yaf ?_|refine Yag ?_|refine Yat ?_|refine Ybg ?_|refine Yao (fun _ hS _ => ?_))|refine Ye1 ?_|refine Yab ?_|refine Ycn ?_)
    have hS : St W F [own 290 2 nb nc (nmV u.names),chR c f b T (Nt t) X'] _ := hS.took
    have hS := (hS.toBag (a := nb) (cs := nmV u.names) fun _ h => h.row).chAdd
    exact ⟨_,fun y hy => List.mem_append_right _ (hX' y hy),hS,a2,q2,nb,nc,rfl,hq2,hrow.right,.mem (List.mem_append_left _ (List.mem_cons_self ..))⟩
   ·replace hS := hS.plus hS'
    clear hS';have hk' : ¬ u.st.kind = 1 := hk
    simp only [if_neg hk'] at hl
    rw [hl];repeat (first|refine Yea ?_|(refine X_id ?_;first|refine Yaf ?_|refine Yag ?_|refine Yat ?_|refine Ybg ?_|refine Yao (fun _ hS _ => ?_))|refine Ye1 ?_|refine Yab ?_|refine Ycn ?_)
    exact ⟨X',hX',hS.took,by decide,u.no,u.nd,a2,q2,none,0,0,_,rfl⟩
 ·replace hS := hS.plus hS'
  clear hS';rw [Zw1 hbad];repeat (first|refine Yea ?_|refine Yfo ?_|refine Yao (fun _ hS _ => ?_)|refine Yek ?_|refine Yab ?_|refine Yaq ?_|refine Ycn ?_)
  exact ⟨X,fun _ h => h,hS.took,by decide,0,⟨⟨0,0,0,0⟩,[]⟩,none,0,none,0,0,_,rfl⟩
end
theorem Z4l (a b : List UInt8) (W : World) : Calls Tryz.prog 168 #[.string (str a),.string (str b)] W (Ret fun v w => v = .int .i64 (Lib.compareBytes a b) ∧ St W noF [] w) := by
 refine (Tryz.strings_Compare (str a) (str b) W).mono ?_
 rintro e w ⟨rfl,rfl⟩
 exact ⟨_,rfl,rfl,St.start _⟩
theorem Z5s (x : Nm) (s : List UInt8) (W : World) : Calls Tryz.prog 167 #[.agg (List.toArray [.string (str x.1),.int .i64 x.2]),.string (str s)] W (Ret fun v w => v = .int .i64 (Lib.compareBytes x.1 s) ∧ St W noF [] w) := by
 have hS := St.start W
 have hc := fun W => Z4l x.1 s W
 refine Zab Tryz.func167 rfl Tryz.ntmps167 rfl ?_
 repeat (first|refine Yea ?_|(refine X_id ?_;first|(refine Zad 168 rfl rfl rfl rfl rfl hS (hc _) ?_;rintro _ _ rfl hS)|refine Yaf ?_|refine Yag ?_|refine Yan ?_|refine Yap ?_|refine Ya5 (fun _ _ hS _ => ?_))|refine Ye1 ?_|refine Yec ?_)
 exact ⟨rfl,hS.drops⟩
theorem Zy0 {i k m : Nat} (h : i + k ≤ 9223372036854775807) (hm : m = (i + k) / 2) : IntKind.i64.wrap (ishr IntKind.u64 (IntKind.u64.wrap ((i : Int) + (k : Int))) (Int.toNat 1)) = (m : Int) := by
 have h1 : IntKind.u64.wrap ((i : Int) + (k : Int)) = ((i + k : Nat) : Int) := by
  unfold IntKind.wrap
  simp only [IntKind.bits,IntKind.signed]
  simp
  omega
 rw [h1,show Int.toNat 1 = 1 from rfl,Zz8 1 (by decide),hm];exact w64 (by omega) (by omega)
def PosN (s : List UInt8) (l : List Nm) (i : Nat) : Prop := i ≤ l.length ∧ (∀ j,j < i → ∀ y,l[j]? = some y → ltS y.1 s) ∧ ∀ j,i ≤ j → ∀ y,l[j]? = some y → ¬ ltS y.1 s
theorem Z0t (a : Option Addr) (l : List Nm) (c : Nat) (s : List UInt8) (W : World) (hr0 : Rd W (row a (nmV l))) (hl : l.length ≤ 1048576) (hm : l.Pairwise fun x y => ltS x.1 y.1) :
  Calls Tryz.prog 166 #[.slice a l.length c,.string (str s),.func (.func 167) #[] #[]] W (Ret fun v w => (∃ (i : Nat) (b : Bool),v = .tuple #[.int .i64 (i : Nat),.bool b] ∧ PosN s l i) ∧ St W noF [] w) := by
 have hr1 := hr0.ro
 have hmono : ∀ (i j : Nat) (x y : Nm),i < j → l[i]? = some x → l[j]? = some y → ltS y.1 s → ltS x.1 s := fun i j x y hij hx hy h => by
  obtain ⟨hi,hxe⟩ := List.getElem?_eq_some_iff.1 hx
  obtain ⟨hj,hye⟩ := List.getElem?_eq_some_iff.1 hy
  have := List.pairwise_iff_getElem.1 hm i j hi hj hij
  rw [hxe,hye] at this;exact Zp1 this h
 have hS := St.start W
 refine Zab Tryz.func166 rfl Tryz.ntmps166 rfl ?_
 repeat (first|refine Yea ?_|refine Yfj ?_|refine Yed ?_|refine Yab ?_)
 refine Zbz (α := Nat) (fun i => [(0,.slice a l.length c),(1,.string (str s)),(2,.func (.func 167) #[] #[]),(8,.int .i64 (l.length : Nat)),(9,.int .i64 (i : Nat))]) (fun i w => PosN s l i ∧ St W noF [] w) ?_ ?_
 ·refine Zal (α := Nat × Nat) (fun z => [(0,.slice a l.length c),(1,.string (str s)),(2,.func (.func 167) #[] #[]),(8,.int .i64 (l.length : Nat)),(9,.int .i64 (z.1 : Nat)),(10,.int .i64 (z.2 : Nat))])
   (fun z w => z.1 ≤ z.2 ∧ z.2 ≤ l.length ∧ (∀ j,j < z.1 → ∀ y,l[j]? = some y → ltS y.1 s) ∧ (∀ j,z.2 ≤ j → ∀ y,l[j]? = some y → ¬ ltS y.1 s) ∧ St W noF [] w) (fun z => z.2 - z.1) (0,l.length) ⟨rfl,rfl,rfl,rfl,rfl,rfl,trivial⟩ ⟨Nat.zero_le _,Nat.le_refl _,fun j hj => absurd hj (by simp),fun j hj y hy => (by have := (List.getElem?_eq_some_iff.1 hy).1; simp only at hj; omega),hS⟩ ?_
  clear hS;rintro ⟨i,k⟩ w ⟨hik,hkl,h1,h2,hS2⟩
  simp only at hik hkl h1 h2 hS2
  by_cases hlt : i < k
  ·obtain ⟨m,hm2⟩ : ∃ m,m = (i + k) / 2 := ⟨_,rfl⟩
   have hx0 : l[m]? = some l[m] := List.getElem?_eq_getElem (by omega)
   generalize l[m] = x at hx0;have hr := hr1
   have hxs : ((nmV l).drop (m * 2)).take 2 = [.string (str x.1),.int .i64 x.2] := Zhy hx0
   obtain ⟨xb,xo,rfl⟩ := (hr.rd hS2).base (by intro e; rw [e] at hxs; simp at hxs)
   have hS := hS2
   have hcm := fun W => Z5s x s W
   repeat (first|refine Yea ?_|(refine X_id ?_;first|refine Yaf ?_|refine Yag ?_|refine Ya2 ?_|refine Ya0 ?_|refine Yc4 ?_|refine Yc0 ?_)|refine Yee ?_|refine Yab ?_)
   rw [Zy0 (by omega) hm2];by_cases hq : ltS x.1 s
   ·have hq' : Lib.compareBytes x.1 s < 0 := hq
    repeat (first|refine Yaa ?_|refine Yaf ?_|refine Ybc ?_|refine Ybp ?_)
    refine Zb4 (first := []) (captured := []) rfl rfl rfl rfl rfl (hcm _) ?_
    rintro _ w' ⟨rfl,hS'⟩
    replace hS := hS.plus hS';clear hS';repeat (first|refine Yea ?_|refine Yaf ?_|refine Yag ?_|refine Ya2 ?_|refine Ya0 ?_|refine Yad ?_|refine Yaj ?_|refine Yei ?_)
    refine Zaf (z := (i,k)) (m + 1,k) ⟨rfl,rfl,rfl,rfl,rfl,rfl,trivial⟩ ⟨by dsimp only; omega,hkl,fun j hj y hy => ?_,h2,hS⟩ (by dsimp only; omega)
    by_cases hjm : j = m
    ·subst hjm; rw [hx0] at hy; cases hy; exact hq
    ·exact hmono j m y x (by simp only at hj; omega) hy hx0 hq
   ·have hq' : ¬ Lib.compareBytes x.1 s < 0 := hq
    repeat (first|refine Yaa ?_|refine Yaf ?_|refine Ybc ?_|refine Ybp ?_)
    refine Zb4 (first := []) (captured := []) rfl rfl rfl rfl rfl (hcm _) ?_
    rintro _ w' ⟨rfl,hS'⟩
    replace hS := hS.plus hS';clear hS';repeat (first|refine Yea ?_|refine Yfi ?_|refine Yad ?_|refine Yai ?_|refine Yei ?_)
    refine Zaf (z := (i,k)) (i,m) ⟨rfl,rfl,rfl,rfl,rfl,rfl,trivial⟩ ⟨by dsimp only; omega,by dsimp only; omega,h1,fun j hj y hy hjs => ?_,hS⟩ (by dsimp only; omega)
    by_cases hjm : j = m
    ·subst hjm; rw [hx0] at hy; cases hy; exact hq hjs
    ·exact hq (hmono m j x y (by simp only at hj; omega) hx0 hy hjs)
  ·obtain rfl : i = k := by omega
   have hS := hS2
   repeat (first|refine Yea ?_|refine Yaf ?_|refine Ya6 ?_|refine Yeq ?_|refine Yeg ?_)
   exact Zbp i ⟨rfl,rfl,rfl,rfl,rfl,trivial⟩ ⟨⟨hkl,h1,h2⟩,hS⟩
 ·rintro i w ⟨hp,hS2⟩
  have hil := hp.1
  by_cases hlt : i < l.length
  ·have hx0 : l[i]? = some l[i] := List.getElem?_eq_getElem hlt
   generalize l[i] = x at hx0;have hr := hr1
   have hxs : ((nmV l).drop (i * 2)).take 2 = [.string (str x.1),.int .i64 x.2] := Zhy hx0
   obtain ⟨xb,xo,rfl⟩ := (hr.rd hS2).base (by intro e; rw [e] at hxs; simp at hxs)
   have hcm := fun W => Z5s x s W
   have hS := hS2
   by_cases hq : Lib.compareBytes x.1 s = 0
   ·repeat (first|refine Yaa ?_|refine Yax ?_|refine Yaf ?_|refine Ya2 ?_|refine Ybc ?_|refine Ybp ?_|refine Yeb ?_)
    refine Zb4 (first := []) (captured := []) rfl rfl rfl rfl rfl (hcm _) ?_
    rintro _ w' ⟨rfl,hS'⟩
    replace hS := hS.plus hS';clear hS';repeat (first|refine Yer ?_|refine Yag ?_|refine Ya8 ?_|refine Ybi ?_|refine Yah ?_|refine Yex ?_)
    exact ⟨⟨i,_,rfl,hp⟩,hS⟩
   ·repeat (first|refine Yaa ?_|refine Yax ?_|refine Yaf ?_|refine Ya2 ?_|refine Ybc ?_|refine Ybp ?_|refine Yeb ?_)
    refine Zb4 (first := []) (captured := []) rfl rfl rfl rfl rfl (hcm _) ?_
    rintro _ w' ⟨rfl,hS'⟩
    replace hS := hS.plus hS';clear hS';repeat (first|refine Yer ?_|refine Yag ?_|refine Ya8 ?_|refine Ybh ?_|refine Yah ?_|refine Yex ?_)
    exact ⟨⟨i,_,rfl,hp⟩,hS⟩
  ·have hS := hS2
   repeat (first|refine Yep ?_|refine Yaf ?_|refine Yag ?_|refine Ya1 ?_|refine Ya6 ?_|refine Ye1 ?_|refine Yex ?_)
   exact ⟨⟨i,_,rfl,hp⟩,hS⟩
theorem Ztj (l : List Nm) (i : Nat) : nmV (l.take i) = (nmV l).take (i * 2) := by
 induction l generalizing i with
 | nil => simp [nmV]
 | cons x l ih =>
  cases i with
  | zero => simp [nmV]
  | succ i =>
   rw [List.take_succ_cons];have := ih i
   simp only [nmV,List.flatMap_cons,nmC] at this ⊢
   rw [this,show (i + 1) * 2 = i * 2 + 1 + 1 by omega]
   simp
theorem Ztk (l : List Nm) (i : Nat) : nmV (l.drop i) = (nmV l).drop (i * 2) := by
 induction l generalizing i with
 | nil => simp [nmV]
 | cons x l ih =>
  cases i with
  | zero => simp [nmV]
  | succ i =>
   rw [List.drop_succ_cons];have := ih i
   simp only [nmV,List.flatMap_cons,nmC] at this ⊢
   rw [this,show (i + 1) * 2 = i * 2 + 1 + 1 by omega]
   simp
theorem St.swap1 {W : World} {F : Nat → Prop} {r s : Res} {rs : List Res} {w : World} (hS : St W F (r :: s :: rs) w) : St W F (s :: r :: rs) w := hS.imp fun _ h => h.swap
theorem Zd7 {b j e c : Nat} (h : j < c) : Cr.sub (some ⟨b,0,none⟩) j e c = some ⟨b,j * e,none⟩ := by
 unfold Cr.sub
 rw [if_neg (by omega)];simp [Zbs]
theorem Zuu {cs r : List Value} {k : Nat} {u v p q : Value} (hk : k ≤ cs.length) : Zai (Zai (cs ++ u :: v :: r) (k + 2) (cs.drop k)) k [p,q] = cs.take k ++ [p,q] ++ cs.drop k ++ r := by
 have h1 : ((cs ++ u :: v :: r).take (k + 2)).length = k + 2 := by simp; omega
 have h2 : (cs ++ u :: v :: r).drop (k + 2 + (cs.drop k).length) = r := by
  rw [List.length_drop,show k + 2 + (cs.length - k) = cs.length + 2 by omega,List.drop_append,List.drop_of_length_le (by omega)]
  simp
 unfold Zai
 rw [h2];have h3 : (((cs ++ u :: v :: r).take (k + 2) ++ cs.drop k) ++ r).take k = cs.take k := by
  rw [List.append_assoc,List.take_append_of_le_length (by omega),List.take_take,Nat.min_eq_left (by omega),List.take_append_of_le_length hk]
 have h4 : (((cs ++ u :: v :: r).take (k + 2) ++ cs.drop k) ++ r).drop (k + [p,q].length) = cs.drop k ++ r := by
  rw [List.append_assoc,show k + [p,q].length = ((cs ++ u :: v :: r).take (k + 2)).length by rw [h1]; rfl,List.drop_left]
 rw [h3,h4]; simp
theorem Zus {A Z R D : List Value} {p q : Value} (hz : Z.length = D.length + 2) : Zai (Zai (A ++ Z ++ R) A.length [p,q]) (A.length + 2) D = A ++ [p,q] ++ D ++ R := by
 match Z,hz with
 | u :: v :: Z',hz =>
  have hz' : Z'.length = D.length := by simpa using hz
  have e1 : Zai (A ++ (u :: v :: Z') ++ R) A.length [p,q] = A ++ [p,q] ++ (Z' ++ R) := by
   rw [show A ++ (u :: v :: Z') ++ R = A ++ (u :: v :: (Z' ++ R)) by simp]
   unfold Zai
   rw [List.take_left,show A.length + [p,q].length = A.length + 2 from rfl,List.drop_append,List.drop_of_length_le (by omega)]
   simp
  rw [e1];have hl : A.length + 2 = (A ++ [p,q]).length := by simp
  unfold Zai
  rw [hl,List.take_left,List.drop_append,List.drop_of_length_le (by omega),← hz'];simp
theorem Z28 (a : Option Addr) (c : Nat) (l : List Nm) (i : Nat) (y : Nm) (vb : Nat) (W : World) (F : Nat → Prop) (hi : i ≤ l.length) (hlc : l.length ≤ c) (hl : l.length ≤ 1048576) (hS : St W F [own 290 2 a c (nmV l),own 290 2 (some ⟨vb,0,none⟩) 1 (nmC y)] W) :
  Calls Tryz.prog 169 #[.slice a l.length c,.int .i64 (i : Nat),.slice (some ⟨vb,0,none⟩) 1 1] W (Ret fun v w => ∃ a' c',v = .slice a' (l.length + 1) c' ∧ l.length + 1 ≤ c' ∧ St W F [own 290 2 a' c' (nmV (l.take i ++ [y] ++ l.drop i))] w) := by
 have hnl := Zg6 l
 refine Zab Tryz.func169 rfl Tryz.ntmps169 rfl ?_
 repeat (first|refine Yea ?_|refine Yen ?_|refine Yeb ?_|refine Yab ?_)
 refine X_yl (Zap (l := i) (h := l.length) rfl rfl rfl rfl (.inl ⟨rfl,rfl⟩) (.inr ⟨_,_,rfl,by omega,by omega,by omega⟩)) rfl rfl ?_
 by_cases hil : i = l.length
 ·subst hil
  repeat (first|refine Yea ?_|(refine X_id ?_;first|refine Yaf ?_|refine Yag ?_|refine Yav ?_|refine Ybi ?_|refine Ybh ?_)|refine Yfq ?_|refine Yab ?_)
  have hnw := (hS.rd (r := own 290 2 (some ⟨vb,0,none⟩) 1 (nmC y)) (by simp)).own_row
  refine Zar rfl rfl rfl rfl rfl hS hnl hlc hnw rfl (by simp [Value.oneCell',nmC]) (by omega) (by simp only [maxLen]; omega) (fun b' q' w hS hq' _ => ?_)
  repeat (first|refine Yea ?_|refine Yag ?_|refine Yah ?_|refine Yel ?_)
  refine ⟨b',q',rfl,hq',?_⟩
  rw [List.take_length,List.drop_length,List.append_nil,Zkr,show nmV [y] = nmC y by simp [nmV]]
  exact hS.took
 ·have hlt : i < l.length := by omega
  have hne : nmV l ≠ [] := fun e => by rw [e] at hnl; simp at hnl; omega
  have hdl : (nmV l).drop (i * 2) = nmV (l.drop i) := (Ztk l i).symm
  have h1d : ∀ u ∈ (nmV l).drop (i * 2),u.oneCell' = true := fun u hu => Zr0 l u (List.mem_of_mem_drop hu)
  have h1y : ∀ u ∈ nmC y,u.oneCell' = true := fun u hu => Zr0 [y] u (by simpa [nmV] using hu)
  have hfin : nmV (l.take i ++ [y] ++ l.drop i) = (nmV l).take (i * 2) ++ [.string (str y.1),.int .i64 y.2] ++ (nmV l).drop (i * 2) := by
   rw [Zkr,Zkr,Ztj,Ztk]; simp [nmV,nmC]
  by_cases hroom : l.length + 1 ≤ c
  ·obtain ⟨b,cells,rfl,hcl,hct,hcm,hS⟩ := hS.openOwn hne
   have hS := hS.sel [false,true]
   obtain ⟨vb',vl,hvb,hvl,hvt,_,hS⟩ := hS.openOwn (by simp [nmC])
   obtain rfl : vb = vb' := by injection hvb with hvb; injection hvb
   obtain rfl : vl = nmC y := by rw [← hvt,List.take_of_length_le (by rw [hvl]; simp [nmC])]
   have hnev := hS.ptsNe
   repeat (first|refine Yea ?_|(refine X_id ?_;first|refine Yaf ?_|refine Yag ?_|refine Yav ?_|refine Ydp ?_|refine Ybh ?_|refine Ybs ?_|refine Ya0 ?_)|refine Yem ?_|refine Yab ?_)
   refine X_yl (Zap (l := 0) (h := l.length + 1) rfl rfl rfl rfl (.inr ⟨_,_,rfl,by omega,by omega,by omega⟩) (.inl ⟨rfl,rfl⟩)) rfl rfl ?_
   rw [Zd7 (show 0 < c by omega)]
   simp only [Nat.zero_mul,Nat.sub_zero]
   repeat (first|refine Yea ?_|refine Yes ?_|refine Yeb ?_|refine Yab ?_)
   refine X_yl (Zap (l := i + 1) (h := l.length + 1) rfl rfl rfl rfl (.inl ⟨rfl,rfl⟩) (.inr ⟨_,_,rfl,by omega,by omega,by omega⟩)) rfl rfl ?_
   rw [Zd7 (show i + 1 < c by omega)]
   repeat (first|refine Yaa ?_)
   refine Zow rfl rfl rfl (EOver.run (T := 290) hnev hS.get (hS.swap1.get) (by intro e; rw [e] at hcl; simp at hcl; omega)) rfl rfl ?_
   obtain ⟨u,v,r,hcr⟩ : ∃ u v r,cells = nmV l ++ u :: v :: r := by
    have h1 := List.take_append_drop (nmV l).length cells
    rw [hct] at h1;have h2 : (cells.drop (nmV l).length).length = (c - l.length) * 2 := by rw [List.length_drop,hcl,hnl]; omega
    match hh : cells.drop (nmV l).length with
    | [] => rw [hh] at h2; simp at h2; omega
    | [_] => rw [hh] at h2; simp at h2; omega
    | u :: v :: r => exact ⟨u,v,r,by rw [← hh,h1]⟩
   have hS : St W F [pts b (.cells cells.toArray 290 (0,0)),pts vb (.cells (nmC y).toArray 290 (0,0))] _ := hS.swap1
   repeat (first|refine Yea ?_|refine Ybq ?_|refine Yae ?_|refine Yaj ?_|refine Yab ?_)
   refine Zam (.s 0 (.s 1 (.s 2 (.s 3 (.s 4 (.s 5 (.s 6 (.s 7 (.h 8 .nil .no))))))))) mixed (by kernel_rfl) rfl ?_
   have hS := hS.drew
   repeat (first|(refine Zae ?_;first|refine Ya3 ?_|refine Yda ?_))
   refine Zak rfl rfl (fun _ => Zap (l := i + 1) (h := l.length + 1) rfl rfl rfl rfl (.inl ⟨rfl,rfl⟩) (.inr ⟨_,_,rfl,by omega,by omega,by omega⟩)) rfl rfl ?_
   rw [Zd7 (show i + 1 < c by omega)]
   repeat (first|(refine Zae ?_;first|refine Ya3 ?_))
   refine Zak rfl rfl (fun _ => Zap (l := i) (h := l.length + 1) rfl rfl rfl rfl (.inl ⟨rfl,rfl⟩) (.inr ⟨_,_,rfl,by omega,by omega,by omega⟩)) rfl rfl ?_
   rw [Zd7 (show i < c by omega)]
   repeat (first|(refine Zae ?_;first|refine Yas ?_))
   have hrd := (hS.rd (List.mem_cons_self ..)).mono (r' := row (some ⟨b,i * 2,none⟩) ((nmV l).drop (i * 2))) (by
    refine fun g hg => ⟨g,.inr ⟨b,i * 2,cells.toArray,_,(0,0),rfl,hg,fun j v hv => ?_⟩,fun _ _ e => e⟩
    rw [List.getElem?_drop] at hv;rw [hcr];simp only [List.getElem?_toArray]
    rw [List.getElem?_append_left (List.getElem?_eq_some_iff.1 hv).1];exact hv)
   refine Zoy rfl rfl rfl rfl rfl hS hrd (by rw [List.length_drop,hnl]; omega) h1d (by rw [List.length_drop,hnl,hcl]; omega) (fun w hS => ?_)
   repeat (first|refine Yaa ?_|refine Yaf ?_|refine Yeb ?_|refine Yab ?_|(refine Zae ?_;first|refine Yay ?_)|(refine Zac ?_;first|refine Yaz ?_))
   refine X_yl (Zap (l := i) (h := l.length + 1) rfl rfl rfl rfl (.inl ⟨rfl,rfl⟩) (.inr ⟨_,_,rfl,by omega,by omega,by omega⟩)) rfl rfl ?_
   rw [Zd7 (show i < c by omega)]
   repeat (first|refine Yaa ?_|refine Yaf ?_)
   have hvd := (hS.rd (r := pts vb (.cells (nmC y).toArray 290 (0,0))) (by simp)).mono (r' := row (some ⟨vb,0,none⟩) (nmC y)) fun g hg => ⟨g,.inr ⟨vb,0,_,_,(0,0),rfl,hg,fun j v hv => by simpa using hv⟩,fun _ _ e => e⟩
   have hsl : (Zai cells ((i + 1) * 2) ((nmV l).drop (i * 2))).length = cells.length := Zbe (by rw [List.length_drop,hnl,hcl]; omega)
   refine Zoy rfl rfl rfl rfl rfl hS hvd (by simp [nmC]; omega) h1y (by rw [hsl,hcl]; simp [nmC]; omega) (fun w hS => ?_)
   repeat (first|refine Yea ?_|refine Yen ?_|refine Ye1 ?_|refine Yel ?_)
   refine ⟨_,_,rfl,by omega,?_⟩
   have hS : St W F [pts b (.cells (Zai (Zai cells ((i + 1) * 2) ((nmV l).drop (i * 2))) (i * 2) (nmC y)).toArray 290 (0,0))] _ := hS.took
   have hin : Zai (Zai cells ((i + 1) * 2) ((nmV l).drop (i * 2))) (i * 2) (nmC y) = nmV (l.take i ++ [y] ++ l.drop i) ++ r := by
    rw [hfin,hcr,show (i + 1) * 2 = i * 2 + 2 by omega]
    exact Zuu (by omega)
   rw [hin] at hS;refine hS.head fun g hg => Za7 (c := c) (l := nmV (l.take i ++ [y] ++ l.drop i) ++ r) ?_ hcm List.take_left g hg
   rw [← hin,Zbe (by rw [hsl,hcl]; simp [nmC]; omega),hsl,hcl]
  ·obtain ⟨b,hab⟩ := St.ownBase hS hne
   subst hab
   repeat (first|refine Yea ?_|(refine X_id ?_;first|refine Yaf ?_|refine Yag ?_|refine Yav ?_|refine Ydp ?_|refine Ybh ?_|refine Ybx ?_|refine Ya0 ?_)|refine Yfq ?_|refine Yab ?_)
   refine X_yl (Zap (l := 0) (h := i) rfl rfl rfl rfl (.inr ⟨_,_,rfl,by omega,by omega,by omega⟩) (.inl ⟨rfl,rfl⟩)) rfl rfl ?_
   rw [Zd7 (show 0 < c by omega)]
   simp only [Nat.zero_mul,Nat.sub_zero]
   repeat (first|refine Yaa ?_|refine Yaf ?_|refine Ya0 ?_|refine Ybz ?_)
   rw [show ((l.length : Int) + ((1 : Nat) : Int) - (i : Int)) = ((l.length + 1 - i : Nat) : Int) by omega]
   have hrd0 := ((hS.rd (List.mem_cons_self ..)).own_row.sub (l := 0) (h := i) (e := 2) (c := c) (by omega) (Nat.zero_le _))
   rw [Zd7 (show 0 < c by omega)] at hrd0
   simp only [Nat.zero_mul,Nat.sub_zero,List.drop_zero] at hrd0
   refine Zlm (n := i) (m := l.length + 1 - i) rfl rfl rfl rfl rfl hS hrd0 (by rw [List.length_take,hnl]; omega) (by omega) (by omega) (by decide) (by omega) (by simp only [maxLen]; omega) (fun g c' zs w hzs hS hc' => ?_)
   rw [show i + (l.length + 1 - i) = l.length + 1 by omega] at hc' ⊢
   have hAl : ((nmV l).take (i * 2)).length = i * 2 := by rw [List.length_take,hnl]; omega
   have hDl : ((nmV l).drop (i * 2)).length = (l.length - i) * 2 := by rw [List.length_drop,hnl]; omega
   obtain ⟨g',cells,hg',hcl,hct,hcm,hS⟩ := St.openOwn hS (by
    intro e
    have := congrArg List.length e
    rw [List.length_append,hAl,hzs] at this;simp only [List.length_nil] at this; omega)
   obtain rfl : g = g' := by injection hg' with h; injection h
   obtain ⟨R,hcr⟩ : ∃ R,cells = (nmV l).take (i * 2) ++ zs ++ R := ⟨_,by
    have h1 := List.take_append_drop ((nmV l).take (i * 2) ++ zs).length cells
    rw [hct] at h1; exact h1.symm⟩
   repeat (first|refine Yea ?_|refine Yen ?_|refine Yeb ?_|refine Yab ?_)
   refine X_yl (Zap (l := i) (h := l.length + 1) rfl rfl rfl rfl (.inl ⟨rfl,rfl⟩) (.inr ⟨_,_,rfl,by omega,by omega,by omega⟩)) rfl rfl ?_
   rw [Zd7 (show i < c' by omega)]
   repeat (first|refine Yaa ?_|refine Yaf ?_)
   have hvd := (hS.rd (r := own 290 2 (some ⟨vb,0,none⟩) 1 (nmC y)) (by simp)).own_row
   refine Zoy rfl rfl rfl rfl rfl hS hvd (by simp [nmC]; omega) h1y (by rw [hcl]; simp [nmC]; omega) (fun w hS => ?_)
   repeat (first|refine Yac ?_|refine Yae ?_|refine Yab ?_)
   refine Zam (.s 0 (.s 1 (.s 2 (.s 3 (.s 4 (.s 5 (.s 6 (.s 7 (.h 8 .nil .no))))))))) mixed (by kernel_rfl) rfl ?_
   have hS := hS.drew
   repeat (first|(refine Zae ?_;first|refine Ya3 ?_|refine Yda ?_))
   refine Zak rfl rfl (fun _ => Zap (l := i + 1) (h := l.length + 1) rfl rfl rfl rfl (.inl ⟨rfl,rfl⟩) (.inr ⟨_,_,rfl,by omega,by omega,by omega⟩)) rfl rfl ?_
   rw [Zd7 (show i + 1 < c' by omega)]
   repeat (first|(refine Zae ?_;first|refine Ya3 ?_))
   refine Zak rfl rfl (fun _ => Zap (l := i) (h := l.length) rfl rfl rfl rfl (.inl ⟨rfl,rfl⟩) (.inr ⟨_,_,rfl,by omega,by omega,by omega⟩)) rfl rfl ?_
   rw [Zd7 (show i < c by omega)]
   repeat (first|(refine Zae ?_;first|refine Yas ?_))
   have hrd := (hS.rd (r := own 290 2 (some ⟨b,0,none⟩) c (nmV l)) (by simp)).own_row.sub (l := i) (h := l.length) (e := 2) (c := c) hlc (by omega)
   rw [Zd7 (show i < c by omega),List.take_of_length_le (by rw [hDl]; exact Nat.le_refl _)] at hrd
   have hsl : (Zai cells (i * 2) (nmC y)).length = cells.length := Zbe (by rw [hcl]; simp [nmC]; omega)
   refine Zoy rfl rfl rfl rfl rfl hS hrd (by rw [hDl]; omega) h1d (by rw [hsl,hcl,hDl]; omega) (fun w hS => ?_)
   repeat (first|refine Yea ?_|refine Yen ?_|refine Ye1 ?_|refine Yel ?_|(refine Zae ?_;first|refine Yay ?_)|(refine Zac ?_;first|refine Yaz ?_))
   refine ⟨_,_,rfl,hc',?_⟩
   have hS : St W F [pts g (.cells (Zai (Zai cells (i * 2) (nmC y)) ((i + 1) * 2) ((nmV l).drop (i * 2))).toArray 290 (0,0))] _ := hS.took
   have hin : Zai (Zai cells (i * 2) (nmC y)) ((i + 1) * 2) ((nmV l).drop (i * 2)) = nmV (l.take i ++ [y] ++ l.drop i) ++ R := by
    have := Zus (A := (nmV l).take (i * 2)) (Z := zs) (R := R) (D := (nmV l).drop (i * 2)) (p := .string (str y.1)) (q := .int .i64 y.2) (by rw [hzs,hDl]; omega)
    rw [hAl] at this;rw [hfin,hcr,show (i + 1) * 2 = i * 2 + 2 by omega]
    exact this
   rw [hin] at hS;refine hS.head fun g hg => Za7 (c := c') (l := nmV (l.take i ++ [y] ++ l.drop i) ++ R) ?_ hcm List.take_left g hg
   rw [← hin,Zbe (by rw [hsl,hcl,hDl]; omega),hsl,hcl]
end Cr
namespace Cr
open Go
set_option maxHeartbeats 64000000

def insN (y : Nm) : List Nm → List Nm
 | [] => [y]
 | x :: l => if ltS x.1 y.1 then x :: insN y l else y :: x :: l
def rmN (s : List UInt8) (l : List Nm) : List Nm := l.filter fun x => decide (x.1 ≠ s)
def insT (k : Tn) : List Tn → List Tn
 | [] => [k]
 | x :: l => if ltS x.nm k.nm then x :: insT k l else k :: x :: l
def rmT (s : List UInt8) (l : List Tn) : List Tn := l.filter fun x => decide (x.nm ≠ s)
theorem Ziv (k : Tn) : ∀ l : List Tn,(insT k l).map (fun k => ((k.nm,k.no) : Nm)) = insN (k.nm,k.no) (l.map fun k => (k.nm,k.no))
 | [] => rfl
 | x :: l => by
  rw [insT,List.map_cons,insN];by_cases h : ltS x.nm k.nm
  ·rw [if_pos h,if_pos h,List.map_cons,Ziv k l]
  ·rw [if_neg h,if_neg h]; rfl
theorem Zpr (s : List UInt8) (l : List Tn) : (rmT s l).map (fun k => ((k.nm,k.no) : Nm)) = rmN s (l.map fun k => (k.nm,k.no)) := by
 unfold rmT rmN; rw [List.filter_map]; rfl
theorem Ztw {y : Nm} : ∀ {l : List Nm} {i : Nat},i ≤ l.length → (∀ j,j < i → ∀ x,l[j]? = some x → ltS x.1 y.1) → (∀ j,i ≤ j → ∀ x,l[j]? = some x → ¬ ltS x.1 y.1) → l.take i ++ [y] ++ l.drop i = insN y l
 | [],i,_,_,_ => by simp [insN]
 | x :: l,0,_,_,h2 => by
  rw [insN,if_neg (h2 0 (Nat.le_refl _) x rfl)]; rfl
 | x :: l,i + 1,hi,h1,h2 => by
  rw [insN,if_pos (h1 0 (by omega) x rfl)];have ih := Ztw (y := y) (l := l) (i := i) (by simpa using hi) (fun j hj z hz => h1 (j + 1) (by omega) z (by simpa using hz)) (fun j hj z hz => h2 (j + 1) (by omega) z (by simpa using hz))
  rw [← ih]; simp
theorem Zf4 (y : Nm) : ∀ l : List Nm,(insN y l).Perm (y :: l)
 | [] => .refl _
 | x :: l => by
  rw [insN]
  split
  ·exact ((Zf4 y l).cons x).trans (.swap _ _ _)
  ·exact .refl _
theorem Ze8 (y : Tn) : ∀ l : List Tn,(insT y l).Perm (y :: l)
 | [] => .refl _
 | x :: l => by
  rw [insT]
  split
  ·exact ((Ze8 y l).cons x).trans (.swap _ _ _)
  ·exact .refl _
theorem Z29 {y : Nm} {l : List Nm} (h : NmOk l) (hl : l.length + 1 ≤ 1024) (hy : y.1.length ≤ 64 ∧ 0 ≤ y.2 ∧ y.2 ≤ 1000000) : NmOk (insN y l) := by
 have hp := Zf4 y l
 refine ⟨by rw [hp.length_eq]; simpa using hl,fun x hx => ?_⟩
 rcases List.mem_cons.1 (hp.mem_iff.1 hx) with rfl | hx
 ·exact hy
 ·exact h.2 x hx
theorem Z4n {s : List UInt8} {l : List Nm} (h : NmOk l) : NmOk (rmN s l) :=
 ⟨Nat.le_trans (List.length_filter_le _ _) h.1,fun x hx => h.2 x (List.mem_filter.1 hx).1⟩
theorem Zqa {k : Tn} : ∀ {l : List Tn},(l.Pairwise fun a b => ltS a.nm b.nm) → (∀ x ∈ l,x.nm ≠ k.nm) → (insT k l).Pairwise fun a b => ltS a.nm b.nm
 | [],_,_ => by simp [insT]
 | x :: l,h,hk => by
  rw [List.pairwise_cons] at h;rw [insT]
  split
  ·rename_i hx
   rw [List.pairwise_cons];refine ⟨fun z hz => ?_,Zqa h.2 fun z hz => hk z (List.mem_cons_of_mem _ hz)⟩
   rcases List.mem_cons.1 ((Ze8 k l).mem_iff.1 hz) with rfl | hz
   ·exact hx
   ·exact h.1 z hz
  ·rename_i hx
   have hkx := Zz1 hx (hk x (List.mem_cons_self ..))
   rw [List.pairwise_cons];refine ⟨fun z hz => ?_,List.pairwise_cons.2 h⟩
   rcases List.mem_cons.1 hz with rfl | hz
   ·exact hkx
   ·exact Zp1 hkx (h.1 z hz)
theorem Zu5 {u : Tn} {n : Nat} (h : TnOk n u) : u.names.Pairwise fun x y => ltS x.1 y.1 := List.pairwise_map.2 h.rise
end Cr
namespace Cr
open Go Go.Proofs
set_option maxRecDepth 100000
set_option maxHeartbeats 64000000
attribute [local irreducible] Calls

section
variable {c f n : Nat} {b : Int} {T N : Int → Option Nd} {X : List RowD}
theorem Z5l (no : Int) (nd : Nd) (a : Option Addr) (q : Nat) (nb : Option Addr) (l : List Nm) (nc : Nat) (s : List UInt8) (m : Int) (W : World) (F : Nat → Prop) (hG : Lg W F) (hl : RX X nb (nmV l)) (hok : NmOk l) (hll : l.length + 1 ≤ 1024) (hy : s.length ≤ 64 ∧ 0 ≤ m ∧ m ≤ 1000000) (hm : l.Pairwise fun x y => ltS x.1 y.1) (hS : St W F [chR c f b T N X] W) :
  Calls Tryz.prog 102 #[.pointer (some ⟨c,0,none⟩),.agg (List.toArray [.int .i64 no,.int .i64 nd.st.kind,.int .i64 nd.st.mode,.int .i64 nd.st.owner,.int .i64 nd.st.group,.slice a nd.data.length q]),.slice nb l.length nc,.string (str s),.int .i64 m] W (Ret fun v w =>
   ∃ X',(∀ x ∈ X,x ∈ X') ∧ ((512 < (wrD (insN (s,m) l)).length ∧ v = .bool false ∧ St W F [chR c f b T N X'] w) ∨ ((wrD (insN (s,m) l)).length ≤ 512 ∧ v = .bool true ∧ St W F [chR c f b T (fun k => if k = no then some ⟨nd.st,wrD (insN (s,m) l)⟩ else N k) X'] w))) := by
 have hok2 : NmOk (insN (s,m) l) := Z29 hok hll hy
 refine Zab Tryz.func102 rfl Tryz.ntmps102 rfl ?_
 repeat (first|refine Yea ?_|refine Yen ?_|refine Ya5 (fun _ _ hS _ => ?_)|refine Yeb ?_|refine Yab ?_)
 refine Zaa _ rfl rfl rfl rfl rfl (Z0t nb l nc s _ (hl.rd (hS.rd (r := chR c f b T N X) (by simp)).ch) (by omega) hm) ?_
 rintro _ w ⟨⟨i,fb,rfl,hp⟩,hS'⟩
 replace hS := hS.plus hS';clear hS';have hil := hp.1
 have hins := Ztw (y := (s,m)) hp.1 hp.2.1 hp.2.2
 repeat (first|refine Yea ?_|refine Yeo ?_|refine Yeb ?_|refine Yab ?_)
 refine Zaa _ rfl rfl rfl rfl rfl (Zww nb l nc _ (hl.rd (hS.rd (r := chR c f b T N X) (by simp)).ch) (by omega)) ?_
 rintro _ w ⟨a',c',rfl,hc',hS'⟩
 replace hS := hS.plus hS';clear hS';repeat (first|refine Yaa ?_|refine Yaf ?_|refine Ybl ?_|refine Ybn (fun _ _ hS _ => ?_))
 have hS := hS.pick [1,0,0,0]
 obtain ⟨_,hc,_,hw,hbk⟩ := hS.call [true,true]
 refine Zaa _ rfl rfl rfl rfl rfl (Z28 a' c' l i (s,m) _ _ _ hil hc' (by omega) hc) ?_
 rintro _ w ⟨a2,c2,rfl,hc2,hS⟩
 replace hS := hbk hS
 clear hbk hw hc;rw [hins] at hS;have hlen : (insN (s,m) l).length = l.length + 1 := by rw [(Zf4 (s,m) l).length_eq]; rfl
 generalize insN (s,m) l = l2 at hS hlen hok2 ⊢;rw [← hlen];repeat (first|refine Yaa ?_)
 refine Zaa _ rfl rfl rfl rfl rfl (Zkd a2 l2 c2 _ (hS.rd (List.mem_cons_self ..)).own_row.ro hok2 (hG.at_ hS)) ?_
 rintro _ w ⟨b3,q3,rfl,hq3,hS'⟩
 replace hS := hS.plus hS';clear hS';have hwl := Zrg hok2
 by_cases h512 : 512 < (wrD l2).length
 ·repeat (first|refine Yea ?_|refine Yaf ?_|refine Yag ?_|refine Yav ?_|refine Ybx ?_|refine Yek ?_|refine Yel ?_)
  exact ⟨X,fun _ h => h,.inl ⟨h512,rfl,hS.took⟩⟩
 ·repeat (first|refine Yea ?_|(refine X_id ?_;first|refine Yaf ?_|refine Yag ?_|refine Yan ?_|refine Yby ?_|refine Yav ?_|refine Ybs ?_|refine Ybl ?_|refine Yap ?_|refine Ybg ?_)|refine Yem ?_|refine Yab ?_)
  obtain ⟨_,hc,hr,hw,hbk⟩ := hS.call [false,false,false,true]
  refine Zaa _ rfl rfl rfl rfl rfl (set_ no ⟨nd.st,wrD l2⟩ b3 q3 _ _ (.inl (hr _ (List.mem_cons_self ..)).own_row) (by simp only; omega) hc) ?_
  rintro _ w ⟨rfl,X',hX',hS⟩
  replace hS := hbk hS
  clear hbk hw hc hr;repeat (first|refine Yea ?_|refine Yag ?_|refine Ye1 ?_|refine Yec ?_)
  exact ⟨X',hX',.inr ⟨by omega,rfl,hS.took⟩⟩
end
section
variable {P : Program} {o : Oper} {σ : Env} {w : World} {N : Nat} {ds : Md} {K : Env → World → Prop} {x y : Operand} {t : TypeId}
theorem Zuk {T e : TypeId} {g off n c : Nat} {l : List Value} {W : World} {F : Nat → Prop} {rs : List Res} {z : Value} {bytes : Nat} {TT : TypeId} (ho : o.op = .call { callee := .builtin .clear,args := #[x],argTypes := #[t] }) (hx : ev σ x = some (.slice (some ⟨g,off,none⟩) n c))
  [h : Und P t (.slice T)] [hi : Inf P T z e bytes] (h1 : ∀ u ∈ z.cells.toList,u.oneCell' = true) (hd : o.dst = none) (hS : St W F (pts g (.cells l.toArray TT (0,0)) :: rs) w) (hfit : off + n * e ≤ l.length)
  (hk : ∀ w' zs,zs.length = n * e → St W F (pts g (.cells (Zai l off zs).toArray TT (0,0)) :: rs) w' → K σ w') : X P o N ds σ w K := ⟨fun f ha K' Q' hK => by
 have hb := hS.get
 obtain ⟨i,hi',hz',hsz,hby⟩ := info_parts hi.inf
 have hzs : z.cells.size = e := hi.zs
 have hlen : (Builtin.zeroCells z.cells n).toList.length = n * e := by simp [size_zeroCells,hzs]
 have h1' : ∀ u ∈ (Builtin.zeroCells z.cells n).toList,u.oneCell' = true := fun u hu => by
  unfold Builtin.zeroCells at hu
  simp only [Array.toList_map,List.mem_map] at hu
  obtain ⟨j,hj,rfl⟩ := hu
  have hj' : j < n * z.cells.size := by simpa using hj
  have hpos : 0 < z.cells.size := Nat.pos_of_ne_zero fun e => by rw [e] at hj'; omega
  have hm := Nat.mod_lt j hpos
  refine h1 _ ?_
  rw [getElem!_pos z.cells (j % z.cells.size) hm];exact Array.mem_toList_iff.2 (Array.getElem_mem hm)
 by_cases h0 : n = 0
 ·subst h0
  have hexec : (execOp f.eval o).run P w = .ok (.value (.tuple #[])) w := by
   simp [execOp,ho,resolve,invoke,builtin,ha.eval hx,Builtin.clear_,run_underlying h.und]
  unfold Oper.wp
  rw [hexec];refine hK _ _ _ (?_ : Fr σ N ds _) (hk w [] (by simp) (by
   have : Zai l off [] = l := by unfold Zai; simp
   rw [this]; exact hS))
  rw [hd]; exact ha
 ·have hst := run_storeCells_at P g off TT (Builtin.zeroCells z.cells n).toList 0 l.toArray w hb (by simpa [size_zeroCells,hzs] using hfit) h1'
  simp only [Nat.add_zero] at hst
  have hexec : (execOp f.eval o).run P w = .ok (.value (.tuple #[])) (w.setRow g (Zai l off (Builtin.zeroCells z.cells n).toList).toArray) := by
   obtain ⟨n,rfl⟩ : ∃ k,n = k + 1 := ⟨n - 1,by omega⟩
   simp only [execOp,ho,resolve,invoke,builtin,ha.eval hx,Builtin.clear_,Sem.run_bind,Sem.run_pure,Result.andThen_ok,List.map_toArray,List.map_cons,List.map_nil]
   simp [run_underlying h.und,zeroValue,typeInfo,hi',hz',hst,Zai]
  unfold Oper.wp
  rw [hexec];have u := Zbn hb (Zai l off (Builtin.zeroCells z.cells n).toList).toArray
  refine hK _ _ _ (?_ : Fr σ N ds _) (hk _ _ hlen (hS.set u))
  rw [hd]; exact ha⟩
end
theorem Z0p (x : Nm) (b : Nat) (s : List UInt8) (T : TypeId) (fz : Nat × Nat) (W : World) (hb : Rd W (pts b (.cells (List.toArray [.string (str s)]) T fz))) :
  Calls Tryz.prog 173 #[.agg (List.toArray [.string (str x.1),.int .i64 x.2]),.pointer (some ⟨b,0,none⟩)] W (Ret fun v w => v = .bool (decide (x.1 = s)) ∧ St W noF [] w) := by
 have hc := hb.ro
 have hS := St.start W
 by_cases h : x.1 = s
 ·refine Zab Tryz.func173 rfl Tryz.ntmps173 rfl ?_
  repeat (first|refine Yea ?_|(refine X_id ?_;first|refine Yag ?_|refine Yan ?_|refine Yap ?_|refine Ya5 (fun _ _ hS _ => ?_)|refine Yci ?_|refine Yca ?_)|refine Ye1 ?_|refine Yec ?_)
  refine ⟨?_,hS.drops⟩
  simp [h]
 ·have h' : str x.1 ≠ str s := fun e => h (Zwc e)
  refine Zab Tryz.func173 rfl Tryz.ntmps173 rfl ?_
  repeat (first|refine Yea ?_|(refine X_id ?_;first|refine Yag ?_|refine Yan ?_|refine Yap ?_|refine Ya5 (fun _ _ hS _ => ?_)|refine Ycd ?_|refine Yca ?_)|refine Ye1 ?_|refine Yec ?_)
  refine ⟨?_,hS.drops⟩
  simp [h,h']
theorem Z0c (a : Option Addr) (l : List Nm) (c b : Nat) (s : List UInt8) (T : TypeId) (fz : Nat × Nat) (W : World) (hr0 : Rd W (row a (nmV l))) (hb : Rd W (pts b (.cells (List.toArray [.string (str s)]) T fz))) (hl : l.length ≤ 1048576) :
  Calls Tryz.prog 162 #[.slice a l.length c,.func (.func 173) #[] #[.pointer (some ⟨b,0,none⟩)]] W (Ret fun v w => v = .int .i64 (ixN s l) ∧ St W noF [] w) := by
 have hbo := hb.ro
 have hr1 := hr0.ro
 have hS := St.start W
 refine Zab Tryz.func162 rfl Tryz.ntmps162 rfl ?_
 repeat (first|refine Yea ?_|refine Yfj ?_|refine Yed ?_|refine Yab ?_)
 refine Zal (α := Nat) (fun k => [(0,.slice a l.length c),(1,.func (.func 173) #[] #[.pointer (some ⟨b,0,none⟩)]),(7,.int .i64 (l.length : Nat)),(8,.int .i64 (k : Nat))])
  (fun k w => k ≤ l.length ∧ (∀ j,j < k → ∀ y,l[j]? = some y → y.1 ≠ s) ∧ St W noF [] w) (fun k => l.length - k) 0 ⟨rfl,rfl,rfl,rfl,trivial⟩ ⟨Nat.zero_le _,fun j hj => absurd hj (by omega),hS⟩ ?_
 clear hS;rintro k w ⟨hk,hne,hS2⟩
 by_cases hlt : k < l.length
 ·have hx0 : l[k]? = some l[k] := List.getElem?_eq_getElem (by omega)
  generalize l[k] = x at hx0;have hr := hr1
  have hxs : ((nmV l).drop (k * 2)).take 2 = [.string (str x.1),.int .i64 x.2] := Zhy hx0
  obtain ⟨xb,xo,rfl⟩ := (hr.rd hS2).base (by intro e; rw [e] at hxs; simp at hxs)
  have hS := hS2
  by_cases hq : x.1 = s
  ·have hc1 := fun w h => Z0p x b s T fz w h
   rw [decide_eq_true hq] at hc1;repeat (first|refine Yea ?_|refine Yfr ?_|refine Yee ?_|refine Yab ?_)
   refine Zb4 (first := []) (captured := [.pointer (some ⟨b,0,none⟩)]) rfl rfl rfl rfl rfl (hc1 _ (hbo.rd hS)) ?_
   rintro _ w' ⟨rfl,hS'⟩
   replace hS := hS.plus hS';clear hS';repeat (first|refine Yea ?_|refine Yen ?_|refine Yek ?_|refine Yey ?_)
   exact ⟨by rw [Zw4 hx0 hq hne],hS⟩
  ·have hc1 := fun w h => Z0p x b s T fz w h
   rw [decide_eq_false hq] at hc1;repeat (first|refine Yea ?_|refine Yfr ?_|refine Yee ?_|refine Yab ?_)
   refine Zb4 (first := []) (captured := [.pointer (some ⟨b,0,none⟩)]) rfl rfl rfl rfl rfl (hc1 _ (hbo.rd hS)) ?_
   rintro _ w' ⟨rfl,hS'⟩
   replace hS := hS.plus hS';clear hS';repeat (first|refine Yea ?_|refine Yef ?_|refine Yet ?_|refine Yei ?_)
   refine Zaf (k + 1) ⟨rfl,rfl,rfl,rfl,trivial⟩ ⟨by omega,fun j hj y hy => ?_,hS⟩ (by omega)
   by_cases hjk : j = k
   ·subst hjk; rw [hx0] at hy; cases hy; exact hq
   ·exact hne j (by omega) y hy
 ·obtain rfl : k = l.length := by omega
  have hS := hS2
  repeat (first|refine Yea ?_|refine Yag ?_|refine Ya6 ?_|refine Yej ?_|refine Yfe ?_)
  rw [Zn4 fun x hx => (by
   obtain ⟨j,hj,he⟩ := List.mem_iff_getElem.1 hx
   exact hne j hj x (by rw [List.getElem?_eq_getElem hj,he]))]
  exact ⟨rfl,hS⟩
theorem Zzk {s : List UInt8} {l : List Nm} (h : ixN s l < 0) : rmN s l = l := by
 unfold rmN
 refine List.filter_eq_self.2 fun x hx => ?_
 rcases Zh0 (s := s) (l := l) with ⟨_,h2⟩ | ⟨k,y,h1,_,_⟩
 ·have := List.find?_eq_none.1 h2 x hx
  simpa using this
 ·omega
theorem Ztd {s : List UInt8} : ∀ {l : List Nm} {k : Nat} {x : Nm},ixN s l = k → l[k]? = some x → rmN s (l.take (k + 1)) = l.take k
 | y :: l,k,x,h,hx => by
  unfold ixN at h
  by_cases hy : y.1 = s
  ·rw [if_pos hy] at h
   obtain rfl : k = 0 := by omega
   simp [rmN,hy]
  ·rw [if_neg hy] at h
   split at h
   ·omega
   ·obtain ⟨k,rfl⟩ : ∃ j,k = j + 1 := ⟨k - 1,by omega⟩
    have ih := Ztd (s := s) (l := l) (k := k) (x := x) (by omega) (by simpa using hx)
    rw [List.take_succ_cons,List.take_succ_cons];unfold rmN at ih ⊢
    rw [List.filter_cons_of_pos (by simpa using hy),ih]
theorem Zxp (a : Option Addr) (c : Nat) (l : List Nm) (sb : Nat) (s : List UInt8) (T : TypeId) (fz : Nat × Nat) (W : World) (F : Nat → Prop) (hlc : l.length ≤ c) (hl : l.length ≤ 1048576) (hsb : Ro W F (pts sb (.cells (List.toArray [.string (str s)]) T fz))) (hS : St W F [own 290 2 a c (nmV l)] W) :
  Calls Tryz.prog 172 #[.slice a l.length c,.func (.func 173) #[] #[.pointer (some ⟨sb,0,none⟩)]] W (Ret fun v w => ∃ a' c',v = .slice a' (rmN s l).length c' ∧ (rmN s l).length ≤ c' ∧ St W F [own 290 2 a' c' (nmV (rmN s l))] w) := by
 have hnl := Zg6 l
 refine Zab Tryz.func172 rfl Tryz.ntmps172 rfl ?_
 repeat (first|refine Yea ?_|refine Yen ?_|refine Yeb ?_|refine Yab ?_)
 refine Zaa _ rfl rfl rfl rfl rfl (Z0c a l c sb s T fz _ (hS.rd (List.mem_cons_self ..)).own_row (hsb.rd hS) hl) ?_
 rintro _ w ⟨rfl,hS'⟩
 replace hS := hS.plus hS';clear hS';rcases Zh0 (s := s) (l := l) with ⟨h1,_⟩ | ⟨k,x,h1,h2,_⟩
 ·have hm1 : ixN s l = -1 := by have := Z1j s l; omega
  have hrm := Zzk h1
  rw [hm1,hrm];repeat (first|refine Yea ?_|refine Yaf ?_|refine Yag ?_|refine Ybi ?_|refine Yek ?_|refine Yel ?_)
  exact ⟨a,c,rfl,hlc,hS.took⟩
 ·rw [h1]
  have hkl := (List.getElem?_eq_some_iff.1 h2).1
  have hrk := Ztd h1 h2
  obtain ⟨b,cells,rfl,hcl,hct,hcm,hS⟩ := St.openOwn hS (by intro e; rw [e] at hnl; simp at hnl; omega)
  repeat (first|refine Yea ?_|refine Yaf ?_|refine Yag ?_|refine Ybh ?_|refine Ya0 ?_|refine Ye4 ?_|refine Yab ?_)
  refine Zbz (α := Nat) (fun m => [(0,.slice (some ⟨b,0,none⟩) l.length c),(5,.int .i64 (m : Nat))]) (fun m w => m < l.length ∧ m = (rmN s l).length ∧ ∃ L : List Value,L.length = c * 2 ∧ L.take (m * 2) = nmV (rmN s l) ∧ St W F [pts b (.cells L.toArray 290 (0,0))] w) ?_ ?_
  ·refine Zal (α := Nat × Nat) (fun z => [(0,.slice (some ⟨b,0,none⟩) l.length c),(1,.func (.func 173) #[] #[.pointer (some ⟨sb,0,none⟩)]),(5,.int .i64 (z.1 : Nat)),(6,.int .i64 (z.2 : Nat))])
    (fun z w => z.2 ≤ l.length ∧ z.1 < z.2 ∧ z.1 = (rmN s (l.take z.2)).length ∧ ∃ L : List Value,L.length = c * 2 ∧ L.take (z.1 * 2) = nmV (rmN s (l.take z.2)) ∧ (L.drop (z.2 * 2)).take ((l.length - z.2) * 2) = (nmV l).drop (z.2 * 2) ∧ St W F [pts b (.cells L.toArray 290 (0,0))] w)
    (fun z => l.length - z.2) (k,k + 1) ⟨rfl,rfl,rfl,rfl,trivial⟩ ⟨by dsimp only; omega,by dsimp only; omega,by dsimp only; rw [hrk,List.length_take]; omega,cells,hcl,?_,?_,hS⟩ ?_
   ·dsimp only
    rw [hrk,Ztj,← hct,List.take_take,hnl,Nat.min_eq_left (by omega)]
   ·dsimp only
    have := congrArg (List.drop ((k + 1) * 2)) hct
    rw [List.drop_take,hnl] at this;rw [← this]; congr 1; omega
   clear hS;rintro ⟨m,j⟩ w ⟨hj,hmj,hm,L,hL,ht,hd,hS2⟩
   simp only at hj hmj hm ht hd hS2
   by_cases hlt : j < l.length
   ·have hx0 : l[j]? = some l[j] := List.getElem?_eq_getElem (by omega)
    have htk : l.take (j + 1) = l.take j ++ [l[j]] := List.take_succ_eq_append_getElem hlt
    generalize l[j] = y at hx0 htk;have hr := (hS2.rd (List.mem_cons_self ..)).mono (r' := row (some ⟨b,0,none⟩) L) (fun g hg => ⟨g,.inr ⟨b,0,L.toArray,_,(0,0),rfl,hg,fun j v hv => by simpa using hv⟩,fun _ _ e => e⟩)
    have hdn : ∀ q,(L.drop (j * 2)).take ((q + 1) * 2) = (L.drop (j * 2)).take 2 ++ ((L.drop ((j + 1) * 2)).take (q * 2)) := fun q => by
     rw [show (q + 1) * 2 = 2 + q * 2 by omega,List.take_add,List.drop_drop,show j * 2 + 2 = (j + 1) * 2 by omega]
    obtain ⟨q,hq⟩ : ∃ q,l.length - j = q + 1 := ⟨l.length - j - 1,by omega⟩
    have hnd : (nmV l).drop (j * 2) = nmC y ++ (nmV l).drop ((j + 1) * 2) := by
     have := Zhy hx0
     rw [← List.take_append_drop 2 ((nmV l).drop (j * 2)),this,List.drop_drop,show j * 2 + 2 = (j + 1) * 2 by omega]
    rw [hq,hdn q,hnd] at hd;have h2l : ((L.drop (j * 2)).take 2).length = 2 := by rw [List.length_take,List.length_drop,hL]; omega
    obtain ⟨hxs,hd2⟩ := List.append_inj hd (by rw [h2l]; rfl)
    have hxs : (L.drop (j * 2)).take 2 = [.string (str y.1),.int .i64 y.2] := hxs
    have hS := hS2
    by_cases hys : y.1 = s
    ·have hc1 := fun w h => Z0p y sb s T fz w h
     rw [decide_eq_true hys] at hc1;have hre : rmN s (l.take (j + 1)) = rmN s (l.take j) := by unfold rmN; rw [htk,List.filter_append]; simp [hys]
     repeat (first|refine Yea ?_|(refine X_id ?_;first|refine Yaf ?_|refine Yav ?_|refine Ya2 ?_|refine Ybc ?_|refine Ybg ?_|refine Ybp ?_|refine Yao (fun _ hS _ => ?_)|refine Yar (fun _ _ hS _ => ?_))|refine Yee ?_|refine Yab ?_)
     refine Zb4 (first := []) (captured := [.pointer (some ⟨sb,0,none⟩)]) rfl rfl rfl rfl rfl (hc1 _ (hsb.rd hS)) ?_
     rintro _ w' ⟨rfl,hS'⟩
     replace hS := hS.plus hS';clear hS';repeat (first|refine Yea ?_|refine Yaf ?_|refine Yag ?_|refine Ybd ?_|refine Ya0 ?_|refine Yet ?_|refine Yei ?_)
     exact Zaf (z := (m,j)) (m,j + 1) ⟨rfl,rfl,rfl,rfl,trivial⟩ ⟨hlt,by dsimp only; omega,by rw [hre]; exact hm,L,hL,by rw [hre]; exact ht,by rw [show l.length - (j + 1) = q by omega]; exact hd2,hS.took⟩ (by dsimp only; omega)
    ·have hc1 := fun w h => Z0p y sb s T fz w h
     rw [decide_eq_false hys] at hc1;have hre : rmN s (l.take (j + 1)) = rmN s (l.take j) ++ [y] := by unfold rmN; rw [htk,List.filter_append]; simp [hys]
     repeat (first|refine Yea ?_|(refine X_id ?_;first|refine Yaf ?_|refine Yav ?_|refine Ya2 ?_|refine Ybc ?_|refine Ybg ?_|refine Ybp ?_|refine Yao (fun _ hS _ => ?_)|refine Yar (fun _ _ hS _ => ?_))|refine Yee ?_|refine Yab ?_)
     refine Zb4 (first := []) (captured := [.pointer (some ⟨sb,0,none⟩)]) rfl rfl rfl rfl rfl (hc1 _ (hsb.rd hS)) ?_
     rintro _ w' ⟨rfl,hS'⟩
     replace hS := hS.plus hS';clear hS';repeat (first|refine Yea ?_|refine Yaf ?_|refine Ybq ?_|refine Ybc ?_|refine Ybg ?_|refine Yev ?_|refine Yab ?_)
     rw [show adr (some ⟨b,0,none⟩) ((((m,j).fst : Nat) : Int).toNat * 2) = ⟨b,m * 2,none⟩ by simp [adr]]
     refine Zfp rfl rfl rfl rfl (by simp [Value.oneCell']) rfl hS (by simp; omega) (fun w hS _ => ?_)
     repeat (first|refine Yea ?_|refine Yes ?_|refine Yad ?_|refine Yei ?_)
     have hs1 : (Zai L (m * 2) [.string (str y.1),.int .i64 y.2]).length = L.length := Zbe (by simp; omega)
     refine Zaf (z := (m,j)) (m + 1,j + 1) ⟨rfl,rfl,rfl,rfl,trivial⟩ ⟨hlt,by dsimp only; omega,by rw [hre,List.length_append,← hm]; rfl,Zai L (m * 2) [.string (str y.1),.int .i64 y.2],by rw [hs1,hL],?_,?_,hS.took⟩ (by dsimp only; omega)
     ·rw [hre,Zkr,← ht]
      unfold Zai
      rw [List.take_append_of_le_length (by simp; omega),List.take_of_length_le (by simp; omega)];simp [nmV,nmC]
     ·rw [← hd2]
      unfold Zai
      rw [show l.length - (j + 1,j + 1).2 = q by simp only; omega,List.append_assoc,List.drop_append,List.drop_of_length_le (by simp; omega),List.nil_append,List.drop_append,List.drop_of_length_le (by simp; omega),List.nil_append,List.drop_drop]
      congr 2
      simp; omega
   ·obtain rfl : j = l.length := by omega
    have hS := hS2
    rw [List.take_length] at hm ht;repeat (first|refine Yea ?_|refine Yaf ?_|refine Yav ?_|refine Ya6 ?_|refine Yeq ?_|refine Yeg ?_)
    exact Zbp m ⟨rfl,rfl,trivial⟩ ⟨hmj,hm,L,hL,ht,hS⟩
  ·rintro m w ⟨hml,hm,L,hL,ht,hS⟩
   repeat (first|refine Yaa ?_|refine Yaf ?_|refine Yeb ?_)
   refine X_yl (Zap (l := m) (h := l.length) rfl rfl rfl rfl (.inl ⟨rfl,rfl⟩) (.inr ⟨_,_,rfl,by omega,by omega,by omega⟩)) rfl rfl ?_
   rw [Zd7 (show m < c by omega)]
   repeat (first|refine Yaa ?_)
   refine Zuk rfl rfl (by simp [Value.cells,Value.oneCell']) rfl hS (by omega) (fun w zs hzs hS => ?_)
   have hsl : (Zai L (m * 2) zs).length = L.length := Zbe (by rw [hzs]; omega)
   repeat (first|refine Yea ?_|refine Yaf ?_|refine Yeb ?_|refine Yab ?_)
   refine X_yl (Zap (l := 0) (h := m) rfl rfl rfl rfl (.inr ⟨_,_,rfl,by omega,by omega,by omega⟩) (.inl ⟨rfl,rfl⟩)) rfl rfl ?_
   rw [Zd7 (show 0 < c by omega)]
   simp only [Nat.zero_mul,Nat.sub_zero]
   repeat (first|refine Yea ?_|refine Yag ?_|refine Yah ?_|refine Yec ?_)
   refine ⟨some ⟨b,0,none⟩,c,by rw [hm],by omega,?_⟩
   refine hS.head fun g hg => Za7 (c := c) (l := Zai L (m * 2) zs) (by rw [hsl,hL]) hcm ?_ g hg
   rw [Zg6,← hm,← ht];unfold Zai
   rw [List.append_assoc,List.take_append_of_le_length (by rw [List.length_take]; omega),List.take_take,Nat.min_self]
end Cr
namespace Cr
open Go
set_option maxHeartbeats 64000000

def updT : List (List UInt8) → (Tn → Tn) → Tn → Tn
 | [],f,t => f t
 | s :: p,f,.mk nm no st data kids => .mk nm no st data (kids.map fun k => if k.nm = s then updT p f k else k)
theorem Zg3 : ∀ l m : List Tn,subL (l ++ m) = subL l ++ subL m
 | [],m => rfl
 | x :: l,m => by rw [List.cons_append,subL,subL,Zg3 l m,List.append_assoc]
theorem Zpj {l m : List Tn} (h : l.Perm m) : (subL l).Perm (subL m) := by
 induction h with
 | nil => exact .refl _
 | cons x _ ih => rw [subL,subL]; exact ih.append_left _
 | swap x y l => rw [subL,subL,subL,subL,← List.append_assoc,← List.append_assoc]; exact List.perm_append_comm.append_right _
 | trans _ _ h1 h2 => exact h1.trans h2
theorem Zky : ∀ l m : List Tn,hgtL (l ++ m) = max (hgtL l) (hgtL m)
 | [],m => by rw [List.nil_append,hgtL]; omega
 | x :: l,m => by rw [List.cons_append,hgtL,hgtL,Zky l m]; omega
theorem hgtL_le {l : List Tn} {d : Nat} : hgtL l ≤ d ↔ ∀ x ∈ l,1 + hgtT x ≤ d := by
 induction l with
 | nil => simp [hgtL]
 | cons x l ih => rw [hgtL]; simp only [List.mem_cons,forall_eq_or_imp,← ih]; omega
theorem Zd1 {n : Nat} {t k : Tn} {s : List UInt8} (h : TnOk n t) (hs : Zcz t s = .ok k) : t.st.kind = 1 ∧ k.nm = s ∧ ∃ l1 l2,t.kids = l1 ++ k :: l2 ∧ (∀ x ∈ l1,x.nm ≠ s) ∧ ∀ x ∈ l2,x.nm ≠ s := by
 obtain ⟨hk,_,hn⟩ := Zjw hs
 refine ⟨hk,hn,?_⟩
 unfold Zcz at hs
 rw [if_pos hk] at hs;cases hq : kidT s t.kids with
 | none => rw [hq] at hs; cases hs
 | some x =>
  rw [hq] at hs;simp only [Except.ok.injEq] at hs
  subst hs
  obtain ⟨_,l1,l2,he,h1⟩ := List.find?_eq_some_iff_append.1 hq
  refine ⟨l1,l2,he,fun y hy => by simpa using h1 y hy,fun y hy => ?_⟩
  have hr := h.rise
  rw [he,List.pairwise_append,List.pairwise_cons] at hr;have := Z44 (hr.2.1.1 y hy)
  rw [hn] at this;exact fun e => this e.symm
theorem Zft {t k : Tn} {s : List UInt8} {p : List (List UInt8)} {f : Tn → Tn} {l1 l2 : List Tn} (he : t.kids = l1 ++ k :: l2) (hn : k.nm = s) (h1 : ∀ x ∈ l1,x.nm ≠ s) (h2 : ∀ x ∈ l2,x.nm ≠ s) : updT (s :: p) f t = .mk t.nm t.no t.st t.data (l1 ++ updT p f k :: l2) := by
 obtain ⟨nm,no,st,data,kids⟩ := t
 have he : kids = l1 ++ k :: l2 := he
 subst he
 rw [updT]
 congr 1
 rw [List.map_append,List.map_cons,if_pos hn]
 congr 1
 ·conv => rhs; rw [← List.map_id l1]
  exact List.map_congr_left fun x hx => by rw [if_neg (h1 x hx)]; rfl
 ·congr 1
  conv => rhs; rw [← List.map_id l2]
  exact List.map_congr_left fun x hx => by rw [if_neg (h2 x hx)]; rfl
def Zjo (f : Tn → Tn) (u : Tn) : Prop := (f u).nm = u.nm ∧ (f u).no = u.no
theorem Zgg {f : Tn → Tn} {u : Tn} (hf : Zjo f u) : ∀ {p : List (List UInt8)} {t : Tn},goT t p = .ok u → (updT p f t).nm = t.nm ∧ (updT p f t).no = t.no
 | [],t,h => by rw [goT] at h; injection h with h; subst h; exact hf
 | s :: p,.mk nm no st data kids,_ => ⟨rfl,rfl⟩
theorem Zgm {t u : Tn} {s : List UInt8} {p : List (List UInt8)} (h : goT t (s :: p) = .ok u) : ∃ k,Zcz t s = .ok k ∧ goT k p = .ok u := by
 rw [goT] at h;cases hs : Zcz t s with
 | error e => rw [hs] at h; cases h
 | ok k => rw [hs] at h; exact ⟨k,rfl,h⟩
theorem Zfn (t : Tn) : Zck t = ent t :: Zdc t.kids := by unfold Zck Zdc; rw [Zd8]; rfl
theorem Zk4 (l1 l2 : List Tn) (k : Tn) : Zdc (l1 ++ k :: l2) = Zdc l1 ++ (Zck k ++ Zdc l2) := by
 unfold Zdc Zck
 rw [Zg3,subL]; simp
theorem Z4t {α : Type} (e : α) (A L1 R L2 : List α) : (e :: (L1 ++ (A ++ (R ++ L2)))).Perm (A ++ (e :: (L1 ++ (L2 ++ R)))) :=
 (((List.perm_append_comm_assoc L1 A (R ++ L2)).trans ((List.perm_append_comm.append_left L1).append_left A)).cons e).trans List.perm_middle.symm
theorem Zpy {t k k' : Tn} {l1 l2 : List Tn} (he : t.kids = l1 ++ k :: l2) (e1 : k'.nm = k.nm) (e2 : k'.no = k.no) : (Tn.mk t.nm t.no t.st t.data (l1 ++ k' :: l2)).names = t.names := by
 unfold Tn.names
 rw [he];show (l1 ++ k' :: l2).map _ = _
 rw [List.map_append,List.map_append,List.map_cons,List.map_cons,e1,e2]
section
variable {n : Nat} {f : Tn → Tn} {u : Tn}
theorem Zjp (hf : Zjo f u) : ∀ {p : List (List UInt8)} {t : Tn},(∀ v ∈ subT t,TnOk n v) → goT t p = .ok u → ∃ rest,(Zck t).Perm (Zck u ++ rest) ∧ (Zck (updT p f t)).Perm (Zck (f u) ++ rest)
 | [],t,_,h => by
  rw [goT] at h; injection h with h; subst h
  exact ⟨[],by simp,by rw [updT]; simp⟩
 | s :: p,t,ht,h => by
  obtain ⟨k,hs,hg⟩ := Zgm h
  obtain ⟨hk,hn,l1,l2,he,h1,h2⟩ := Zd1 (ht t (Zev t)) hs
  have hkm : k ∈ t.kids := by rw [he]; simp
  obtain ⟨rest,r1,r2⟩ := Zjp hf (fun v hv => ht v (Zfv hkm hv)) hg
  obtain ⟨e1,e2⟩ := Zgg hf hg
  have hu := Zft (p := p) (f := f) he hn h1 h2
  have hent : ent (updT (s :: p) f t) = ent t := by
   rw [hu];show ((t.no,(⟨t.st,if t.st.kind = 1 then wrD (Tn.mk t.nm t.no t.st t.data (l1 ++ updT p f k :: l2)).names else t.data⟩ : Nd)) : Int × Nd) = _
   rw [Zpy he e1 e2]; rfl
  refine ⟨ent t :: (Zdc l1 ++ (Zdc l2 ++ rest)),?_,?_⟩
  ·rw [Zfn t,he,Zk4]
   have : (Zck k ++ Zdc l2).Perm (Zck u ++ (rest ++ Zdc l2)) := by rw [← List.append_assoc]; exact r1.append_right _
   exact ((this.append_left (Zdc l1)).cons (ent t)).trans (Z4t _ _ _ _ _)
  ·rw [Zfn (updT (s :: p) f t),hent,hu]
   show (ent t :: Zdc (l1 ++ updT p f k :: l2)).Perm _
   rw [Zk4];have : (Zck (updT p f k) ++ Zdc l2).Perm (Zck (f u) ++ (rest ++ Zdc l2)) := by rw [← List.append_assoc]; exact r2.append_right _
   exact ((this.append_left (Zdc l1)).cons (ent t)).trans (Z4t _ _ _ _ _)
theorem Zs2 (hf : Zjo f u) : ∀ {p : List (List UInt8)} {t : Tn},(∀ v ∈ subT t,TnOk n v) → goT t p = .ok u → (∀ v ∈ subT (f u),TnOk n v) → ∀ v ∈ subT (updT p f t),TnOk n v
 | [],t,_,h,hv => by rw [goT] at h; injection h with h; subst h; rw [updT]; exact hv
 | s :: p,t,ht,h,hfu => by
  obtain ⟨k,hs,hg⟩ := Zgm h
  have h0 := ht t (Zev t)
  obtain ⟨hk,hn,l1,l2,he,h1,h2⟩ := Zd1 h0 hs
  have hkm : k ∈ t.kids := by rw [he]; simp
  have ih := Zs2 hf (fun v hv => ht v (Zfv hkm hv)) hg hfu
  obtain ⟨e1,e2⟩ := Zgg hf hg
  rw [Zft (p := p) (f := f) he hn h1 h2];intro v hv
  rw [Zd8] at hv;rcases List.mem_cons.1 hv with rfl | hv
  ·have hnames := Zpy (k' := updT p f k) he e1 e2
   refine ⟨h0.chk,h0.low,fun q => ?_,?_,?_,fun q => absurd hk q⟩
   ·rw [hnames]; exact h0.dir q
   ·have := h0.rise
    rw [he] at this;have h3 : ((l1 ++ k :: l2).map Tn.nm).Pairwise ltS := List.pairwise_map.2 this
    have h4 : ((l1 ++ updT p f k :: l2).map Tn.nm).Pairwise ltS := ?_
    ·exact List.pairwise_map.1 h4
    rw [List.map_append,List.map_cons] at h3 ⊢;rw [e1]; exact h3
   ·intro x hx
    replace hx : x ∈ l1 ++ updT p f k :: l2 := hx
    simp only [List.mem_append,List.mem_cons] at hx
    rcases hx with hx | rfl | hx
    ·exact h0.nmk x (by rw [he]; simp [hx])
    ·rw [e1]; exact h0.nmk k hkm
    ·exact h0.nmk x (by rw [he]; simp [hx])
  ·replace hv : v ∈ subL (l1 ++ updT p f k :: l2) := hv
   rw [Zg3,subL] at hv;rcases List.mem_append.1 hv with hv | hv
   ·obtain ⟨x,hx,hv⟩ := mem_subL.1 hv
    exact ht v (Zfv (by rw [he]; simp [hx]) hv)
   ·rcases List.mem_append.1 hv with hv | hv
    ·exact ih v hv
    ·obtain ⟨x,hx,hv⟩ := mem_subL.1 hv
     exact ht v (Zfv (by rw [he]; simp [hx]) hv)
theorem Znf (hf : Zjo f u) : ∀ {p : List (List UInt8)} {t : Tn},(∀ v ∈ subT t,TnOk n v) → goT t p = .ok u → hgtT (updT p f t) ≤ max (hgtT t) (p.length + hgtT (f u))
 | [],t,_,h => by rw [goT] at h; injection h with h; subst h; rw [updT]; simp only [List.length_nil]; omega
 | s :: p,t,ht,h => by
  obtain ⟨k,hs,hg⟩ := Zgm h
  obtain ⟨hk,hn,l1,l2,he,h1,h2⟩ := Zd1 (ht t (Zev t)) hs
  have hkm : k ∈ t.kids := by rw [he]; simp
  have ih := Znf hf (fun v hv => ht v (Zfv hkm hv)) hg
  rw [Zft (p := p) (f := f) he hn h1 h2,Ze2 (Tn.mk _ _ _ _ _),Ze2 t,he];simp only [Tn.kids,Zky,hgtL,List.length_cons]
  omega
end
theorem Zn7 : ∀ {p : List (List UInt8)} {t u : Tn},goT t p = .ok u → p.length + hgtT u ≤ hgtT t
 | [],t,u,h => by rw [goT] at h; injection h with h; subst h; simp
 | s :: p,t,u,h => by
  obtain ⟨k,hs,hg⟩ := Zgm h
  have h1 := Zn7 hg
  have h2 := Zju (Zjw hs).2.1
  rw [← Ze2] at h2;simp only [List.length_cons]; omega
theorem Zxb {β : Type} {l m : List (Int × β)} (h : l.Perm m) (hn : (Zaw l).Nodup) (k : Int) : getA k l = getA k m := by
 have hn' : (Zaw m).Nodup := (h.map (fun x : Int × β => x.1)).nodup_iff.1 hn
 cases hq : getA k l with
 | none =>
  refine (getA_none.2 fun hm => getA_none.1 hq ?_).symm
  exact (h.map (fun x : Int × β => x.1)).mem_iff.2 hm
 | some v => exact (Zeh hn' (h.mem_iff.1 (Zjy hq))).symm
theorem Zei {β : Type} {k : Int} {x : Int × β} {l : List (Int × β)} : getA k (x :: l) = if k = x.1 then some x.2 else getA k l := rfl
def addF (k u : Tn) : Tn := .mk u.nm u.no u.st u.data (insT k u.kids)
def rmF (s : List UInt8) (u : Tn) : Tn := .mk u.nm u.no u.st u.data (rmT s u.kids)
def datF (d : List UInt8) (u : Tn) : Tn := .mk u.nm u.no u.st d u.kids
theorem Ztu (k u : Tn) : Zjo (addF k) u := ⟨rfl,rfl⟩
theorem Ztt (s : List UInt8) (u : Tn) : Zjo (rmF s) u := ⟨rfl,rfl⟩
theorem Z1i (d : List UInt8) (u : Tn) : Zjo (datF d) u := ⟨rfl,rfl⟩
theorem Zmr {l m : List Tn} (h : l.Perm m) : (Zdc l).Perm (Zdc m) := (Zpj h).map ent
theorem Zms (k : Tn) (l : List Tn) : Zdc (k :: l) = Zck k ++ Zdc l := by unfold Zdc Zck; rw [subL]; simp
theorem Zqj {k : Tn} (h : k.kids = []) : Zck k = [ent k] := by rw [Zfn,h]; rfl
section
variable {n : Nat} {t u k : Tn} {p : List (List UInt8)} {s : List UInt8}
theorem Zi5 {L : List (Int × Nd)} (h : (Zck t).Perm L) (hn : ((Zck t).map (·.1)).Nodup) (no : Int) : Nt t no = getA no L := Zxb h hn no
theorem Nt_none {no : Int} : Nt t no = none ↔ no ∉ (Zck t).map (·.1) := getA_none
/-! ### one more -/
theorem Zue (ht : TreeOk n t) (hg : goT t p = .ok u) (hk : k.kids = []) : ∃ rest,(Zck t).Perm (ent u :: rest) ∧ (Zck (updT p (addF k) t)).Perm (ent k :: ent (addF k u) :: rest) := by
 obtain ⟨r,h1,h2⟩ := Zjp (Ztu k u) ht.node hg
 rw [Zfn u] at h1;refine ⟨Zdc u.kids ++ r,h1,h2.trans ?_⟩
 rw [Zfn (addF k u)];have h3 : (Zdc (insT k u.kids)).Perm (ent k :: Zdc u.kids) := by
  have := Zmr (Ze8 k u.kids)
  rwa [Zms,Zqj hk] at this
 exact ((h3.append_right r).cons (ent (addF k u))).trans (.swap _ _ _)
theorem Zqx (ht : TreeOk n t) (hg : goT t p = .ok u) (hk : k.kids = []) (hnew : Nt t k.no = none) : ((Zck (updT p (addF k) t)).map (·.1)).Nodup := by
 obtain ⟨r,h1,h2⟩ := Zue ht hg hk
 have k1 := (h1.map (fun x : Int × Nd => x.1)).nodup_iff.1 ht.nodup
 refine (h2.map (fun x : Int × Nd => x.1)).nodup_iff.2 ?_
 have hm : k.no ∉ (ent u :: r).map (fun x : Int × Nd => x.1) := fun h => Nt_none.1 hnew ((h1.map (fun x : Int × Nd => x.1)).mem_iff.2 h)
 exact List.nodup_cons.2 ⟨hm,k1⟩
theorem Z6i (ht : TreeOk n t) (hg : goT t p = .ok u) (hk : k.kids = []) (hnew : Nt t k.no = none) (no : Int) : Nt (updT p (addF k) t) no = if no = k.no then some k.nd else if no = u.no then some (addF k u).nd else Nt t no := by
 obtain ⟨r,h1,h2⟩ := Zue ht hg hk
 rw [Zi5 h2 (Zqx ht hg hk hnew),Zi5 h1 ht.nodup];simp only [Zei]
 show (if no = k.no then some k.nd else if no = (addF k u).no then some (addF k u).nd else getA no r) = if no = k.no then some k.nd else if no = u.no then some (addF k u).nd else if no = u.no then some u.nd else getA no r
 rw [show (addF k u).no = u.no from rfl];by_cases h : no = u.no <;> simp [h]
theorem Z3t (hu : u.st.kind = 1) : (addF k u).nd = ⟨u.st,wrD (insN (k.nm,k.no) u.names)⟩ := by
 unfold Tn.nd
 show (⟨u.st,if u.st.kind = 1 then wrD ((insT k u.kids).map fun k => (k.nm,k.no)) else u.data⟩ : Nd) = _
 rw [if_pos hu,Ziv]; rfl
theorem Zw2 {l : List Tn} (h : kidT s l = none) : ∀ x ∈ l,x.nm ≠ s := fun x hx => by
 have := List.find?_eq_none.1 h x hx
 simpa using this
theorem Z57 (ht : TreeOk n t) (hg : goT t p = .ok u) (hu : u.st.kind = 1) (hk : k.kids = []) (hko : TnOk n k) (hnew : Nt t k.no = none) (hnm : nameOk k.nm) (hkid : kidT k.nm u.kids = none) (h512 : (wrD (insN (k.nm,k.no) u.names)).length ≤ 512) (hp : p.length < 8) : TreeOk n (updT p (addF k) t) := by
 have hu0 := ht.node u (Zc4 hg)
 have hr := ht.root
 obtain ⟨e1,e2⟩ := Zgg (Ztu k u) hg
 have hnames : (addF k u).names = insN (k.nm,k.no) u.names := Ziv k u.kids
 refine ⟨Zs2 (Ztu k u) ht.node hg ?_,Zqx ht hg hk hnew,⟨e2.trans hr.1,?_⟩,?_,ht.small⟩
 ·intro v hv
  rw [Zd8] at hv;rcases List.mem_cons.1 hv with rfl | hv
  ·refine ⟨hu0.chk,hu0.low,fun q => ⟨(hu0.dir hu).1,by rw [hnames]; exact h512⟩,Zqa hu0.rise (Zw2 hkid),fun x hx => ?_,fun q => absurd hu q⟩
   rcases List.mem_cons.1 ((Ze8 k u.kids).mem_iff.1 hx) with rfl | hx
   ·exact hnm
   ·exact hu0.nmk x hx
  ·rcases List.mem_append.1 ((Zpj (Ze8 k u.kids)).mem_iff.1 (show v ∈ subL (insT k u.kids) from hv) |> fun h => by rw [subL] at h; exact h) with hv | hv
   ·rw [Zd8,hk] at hv
    rcases List.mem_cons.1 hv with rfl | hv
    ·exact hko
    ·cases hv
   ·obtain ⟨x,hx,hv⟩ := mem_subL.1 hv
    exact ht.node v (Zd6 (Zc4 hg) (Zfv hx hv))
 ·cases p with
  | nil => rw [goT] at hg; injection hg with hg; subst hg; exact hr.2
  | cons s p =>
   obtain ⟨x,hs,hg'⟩ := Zgm hg
   obtain ⟨_,hn,l1,l2,he,h1,h2⟩ := Zd1 (ht.node t (Zev t)) hs
   rw [Zft (p := p) (f := addF k) he hn h1 h2]; exact hr.2
 ·have h1 := Znf (Ztu k u) ht.node hg
  have h2 := Zn7 hg
  have h3 : hgtT (addF k u) ≤ max 1 (hgtT u) := by
   rw [Ze2,Ze2 u];refine hgtL_le.2 fun x hx => ?_
   rcases List.mem_cons.1 ((Ze8 k u.kids).mem_iff.1 (show x ∈ insT k u.kids from hx)) with rfl | hx
   ·rw [Ze2,hk,hgtL]; omega
   ·have := Zju hx; omega
  have := ht.high
  omega
end
end Cr
