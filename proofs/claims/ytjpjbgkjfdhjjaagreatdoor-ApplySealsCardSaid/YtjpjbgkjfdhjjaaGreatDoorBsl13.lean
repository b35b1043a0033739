/-
  Package apply: where an archive is kept,a part's path,the way to a path.
  Package apply in plain words: a directory of files is cleared.
  Package apply in plain words: an archive is forgotten.
  Package apply in plain words: what an archive's parts say; nothing is left behind the last one.
  Package apply: Keep.
  Package apply: Kept.
  Package apply in plain words: some archives are forgotten,one behind the other.
  The library's slices.Concat of strings; what stands in a directory of files,as entries (package apply: Entries).
  Package apply: Entries of a directory of files.
  Package apply: Entries.
  Package apply: of a nil change nothing is done; Seal.
  Layer 8 (tree): a tree is opened on a new table of any size.
  Package apply in plain words: an archive of up to thirty-two parts is kept in a fresh tree; a file beside it.
  Layer 8 (tree): a fresh disk,log,table,tree; a change begun on it.
  Layer 26 (apply): a fresh tree of eighty nodes,a change begun on it.
  creelref05.Name says nameOk.
  The law's helpers of layer 26: number,creelref26.Right,creelref05.Same.
  Package apply in plain words: two parts' names,as they are listed.
  Layer 26: the chapter's example (known).
  The document's digest: numbers of digits to the base 2^16,roots.
  The document's table of the digest,out of primes.
  What the document's digest computes,as its operations tell it.
-/
import Derived.Test.YtjpjbgkjfdhjjaaGreatDoorBsl12
import Derived.Test.YtjpjbgkjfdhjjaaGreatDoorBsl11
import Derived.Test.YtjpjbgkjfdhjjaaGreatDoorBsl10
import Derived.Test.YtjpjbgkjfdhjjaaGreatDoorBsl7
import Derived.Test.YtjpjbgkjfdhjjaaGreatDoorBsl4
import Derived.Test.YtjpjbgkjfdhjjaaGreatDoorBsl3
import Derived.KernelRfl
import Derived.Laws.BitsLemmas
namespace Cr
open Go Go.Proofs
set_option maxRecDepth 100000
set_option maxHeartbeats 64000000
attribute [local irreducible] Calls

theorem Z3w (W : World) : Calls Tryz.prog 74 #[] W (Ret fun v w => v = .agg (List.toArray [.int .i64 1,.int .i64 493,.int .i64 0,.int .i64 0,.slice none 0 0]) ∧ St W noF [] w) := by
 have hS := St.start W
 refine Zab Tryz.func74 rfl Tryz.ntmps74 rfl ?_
 repeat (first|refine Yeb ?_|refine Ybm ?_|refine Yao (fun _ hS _ => ?_)|refine Yar (fun _ _ hS _ => ?_)|refine Yep ?_|refine Yab ?_|refine Ybw ?_)
 exact ⟨rfl,hS.drops⟩
def Zfb (pack : List UInt8) (no : Int) : Int := if ¬ nameOk pack then 10 else if no < 1 ∨ 999999 < no then 1 else 0
theorem Z00 (c : Nat) (pack : List UInt8) (no : Int) (W : World) (hG : Lg W noF) :
  Calls Tryz.prog 29 #[.pointer (some ⟨c,0,none⟩),.string (str pack),.int .i64 no] W (Ret fun v w => (Zfb pack no ≠ 0 ∧ v = .tuple #[.slice none 0 0,.int .i64 (Zfb pack no)] ∧ St W noF [] w) ∨
   (RightA pack no ∧ ∃ b,v = .tuple #[.slice (some ⟨b,0,none⟩) 3 3,.int .i64 0] ∧ St W noF [own 9 1 (some ⟨b,0,none⟩) 3 (strV [varN,pack,rN no])] w)) := by
 have hS := St.start W
 have hN := fun W => Z6g pack W
 by_cases h1 : nameOk pack
 case neg =>
  simp only [decide_eq_false h1] at hN
  rw [show Zfb pack no = 10 from if_pos h1];refine Zab Tryz.func29 rfl Tryz.ntmps29 rfl ?_
  repeat (first|refine Yeb ?_|refine Yfe ?_|refine Yey ?_|refine Yab ?_)
  refine Zaa _ rfl rfl rfl rfl rfl (hN _) ?_
  rintro _ w ⟨rfl,hS'⟩
  replace hS := hS.plus hS';clear hS';repeat (first|refine Yeb ?_|refine Yag ?_|refine Ybo ?_|refine Yet ?_|refine Ye6 ?_)
  exact .inl ⟨by decide,rfl,hS⟩
 simp only [decide_eq_true h1] at hN
 by_cases h2 : no < 1
 ·rw [show Zfb pack no = 1 by unfold Zfb; rw [if_neg (fun e => e h1),if_pos (.inl h2)]]
  refine Zab Tryz.func29 rfl Tryz.ntmps29 rfl ?_
  repeat (first|refine Yeb ?_|refine Yfe ?_|refine Yey ?_|refine Yab ?_)
  refine Zaa _ rfl rfl rfl rfl rfl (hN _) ?_
  rintro _ w ⟨rfl,hS'⟩
  replace hS := hS.plus hS';clear hS';repeat (first|refine Yev ?_|(refine X_id ?_;first|refine Yaf ?_|refine Yag ?_|refine Ya9 ?_|refine Ybb ?_|refine Ya1 ?_)|refine Yff ?_|refine Ye6 ?_)
  exact .inl ⟨by decide,rfl,hS⟩
 by_cases h3 : 999999 < no
 ·rw [show Zfb pack no = 1 by unfold Zfb; rw [if_neg (fun e => e h1),if_pos (.inr h3)]]
  refine Zab Tryz.func29 rfl Tryz.ntmps29 rfl ?_
  repeat (first|refine Yeb ?_|refine Yfe ?_|refine Yey ?_|refine Yab ?_)
  refine Zaa _ rfl rfl rfl rfl rfl (hN _) ?_
  rintro _ w ⟨rfl,hS'⟩
  replace hS := hS.plus hS';clear hS';repeat (first|refine Yes ?_|(refine X_id ?_;first|refine Yaf ?_|refine Yag ?_|refine Ya7 ?_|refine Ybb ?_|refine Yaz ?_|refine Ybx ?_)|refine Yff ?_|refine Ye6 ?_)
  exact .inl ⟨by decide,rfl,hS⟩
 have hi7 := Zd0 (n := no) (by omega) (by omega)
 refine Zab Tryz.func29 rfl Tryz.ntmps29 rfl ?_
 repeat (first|refine Yeb ?_|refine Yfe ?_|refine Yey ?_|refine Yab ?_)
 refine Zaa _ rfl rfl rfl rfl rfl (hN _) ?_
 rintro _ w ⟨rfl,hS'⟩
 replace hS := hS.plus hS';clear hS';repeat (first|refine Yes ?_|(refine X_id ?_;first|(refine Zac 72 rfl rfl rfl rfl rfl hS (Zz7 no _ _ (hG.at_ hS) (by omega) (by omega)) ?_;rintro _ _ rfl hS)|refine Yaf ?_|refine Yag ?_|refine Ya7 ?_|refine Ybb ?_|refine Yaz ?_|refine Ybr ?_|refine Ybe (fun _ _ hS _ => ?_)|refine Ydh ?_)|refine Ye1 ?_|refine Yab ?_|refine Yas ?_|refine Ybp ?_)
 exact .inr ⟨⟨h1,by omega,by omega⟩,_,rfl,hS⟩
theorem Z54 (pa : Option Addr) (p : List (List UInt8)) (pc i : Nat) (hi : i ≤ 1000000) (W : World) (hG : Lg W noF) (hp : Ro W noF (row pa (strV p))) (hpl : p.length ≤ 100) :
  Calls Tryz.prog 32 #[.slice pa p.length pc,.int .i64 (i : Nat)] W (Ret fun v w => ∃ a q,v = .slice a (p.length + 1) q ∧ p.length + 1 ≤ q ∧ St W noF [own 9 1 a q (strV (p ++ [pN i]))] w) := by
 have hS := St.start W
 have hi7 := Zd0 (n := (i : Nat)) (by omega) (by omega)
 refine Zab Tryz.func32 rfl Tryz.ntmps32 rfl ?_
 repeat (first|refine Yeb ?_|refine Yeq ?_|refine Yec ?_|refine Yab ?_)
 refine Zaa _ rfl rfl rfl rfl rfl (Zvq pa p pc _ (hp.rd hS) (by omega)) ?_
 rintro _ w ⟨a',c',rfl,hc',hS'⟩
 replace hS := hS.plus hS';clear hS';repeat (first|refine Yaa ?_|(refine X_id ?_;first|(refine Zac 72 rfl rfl rfl rfl rfl hS (Zz7 (i : Nat) _ _ (hG.at_ hS) (by omega) (by omega)) ?_;rintro _ _ rfl hS)|refine Yaf ?_|refine Ybe (fun _ _ hS _ => ?_)|refine Ydh ?_))
 have hnw := (hS.rd (List.mem_cons_self ..)).own_row
 refine Zas (T := 9) (a := a') (m := 1) rfl rfl rfl rfl rfl hS (by rw [Zg8,Nat.mul_one]) hc' hnw rfl (by simp [Value.oneCell']) (by omega) (by simp only [maxLen]; omega) (fun b' q'' w hS hq'' _ => ?_)
 repeat (first|refine Yeb ?_|refine Yag ?_|refine Yah ?_|refine Yed ?_)
 refine ⟨b',q'',rfl,hq'',?_⟩
 have e : strV (p ++ [pN i]) = strV p ++ [.string (str (pN i))] := List.map_append
 rw [e];exact hS.pick [0]
theorem Zvk (p : List (List UInt8)) (k : Nat) : (strV p).take k = strV (p.take k) := List.map_take.symm
theorem Z2u (p : List (List UInt8)) {i : Nat} (h : i < p.length) : (Zb5 p).drop i = p.take (i + 1) :: (Zb5 p).drop (i + 1) := by
 have hl : i < (Zb5 p).length := by rw [Zb5,List.length_map,List.length_range]; exact h
 rw [List.drop_eq_getElem_cons hl]
 congr 1
 simp [Zb5]
section
variable {c f tp n : Nat} {b : Int} {T : Int → Option Nd} {t : Tn} {X : List RowD}
theorem way_ (ht : TreeOk n t) (pa : Option Addr) (p : List (List UInt8)) (pc : Nat) (W : World) (F : Nat → Prop) (hT : TreeRo W F f tp n b T) (hG : Lg W F) (hp : Ro W F (row pa (strV p))) (hpc : p.length ≤ pc) (hpl : p.length ≤ 100) (hS : St W F [chR c f b T (Nt t) X] W) :
  Calls Tryz.prog 31 #[.pointer (some ⟨c,0,none⟩),.slice pa p.length pc] W (Ret fun v w => ∃ X',(∀ x ∈ X,x ∈ X') ∧ v = .int .i64 (wayG n t (Zb5 p)).1 ∧ St W F [chR c f b T (Nt (wayG n t (Zb5 p)).2) X'] w) := by
 refine Zab Tryz.func31 rfl Tryz.ntmps31 rfl ?_
 repeat (first|refine Yeb ?_|refine Ye4 ?_|refine Yee ?_|refine Yab ?_)
 refine Zaj (α := Nat × Tn × List RowD) (fun z => [(0,.pointer (some ⟨c,0,none⟩)),(1,.slice pa p.length pc),(9,.int .i64 (p.length : Nat)),(10,.int .i64 (z.1 : Nat))])
  (fun z w => z.1 ≤ p.length ∧ TreeOk n z.2.1 ∧ (∀ x ∈ X,x ∈ z.2.2) ∧ wayG n t (Zb5 p) = wayG n z.2.1 ((Zb5 p).drop z.1) ∧ St W F [chR c f b T (Nt z.2.1) z.2.2] w) (fun z => p.length - z.1) (0,t,X) ⟨rfl,rfl,rfl,rfl,trivial⟩ ⟨Nat.zero_le _,ht,fun _ h => h,rfl,hS⟩ ?_
 clear hS;rintro ⟨i,t1,X1⟩ w ⟨hi,ht1,hX1,hway,hS⟩
 simp only at hi ht1 hX1 hway hS ⊢
 by_cases hlt : i < p.length
 case neg =>
  obtain rfl : i = p.length := by omega
  rw [List.drop_of_length_le (by rw [Zb5,List.length_map,List.length_range]; exact Nat.le_refl _),wayG] at hway
  rw [hway];repeat (first|refine Yeb ?_|refine Yag ?_|refine Yaz ?_|refine Yek ?_|refine Yfd ?_)
  exact ⟨X1,hX1,rfl,hS.took⟩
 rw [Z2u p hlt,wayG] at hway;have hq : Ro W F (row pa (strV (p.take (i + 1)))) := hp.mono fun h hh => by rw [← Zvk]; exact Zr4 _ h hh
 have hql : (p.take (i + 1)).length = i + 1 := by rw [List.length_take]; omega
 generalize p.take (i + 1) = q at hway hq hql;repeat (first|refine Yeb ?_|refine Yaf ?_|refine Yag ?_|refine Ya1 ?_|refine Yaw ?_|refine Yef ?_|refine Yab ?_)
 refine X_yl (Zaq (l := 0) (h := i + 1) rfl rfl rfl rfl (.inr ⟨_,_,rfl,by omega,by omega,by omega⟩) (.inl ⟨rfl,rfl⟩)) rfl rfl ?_
 rw [sub_zero,Nat.sub_zero,Nat.sub_zero,← hql];repeat (first|refine Yaa ?_)
 obtain ⟨_,hcc,hr1,hw,hbk⟩ := hS.call [true]
 refine Zaa _ rfl rfl rfl rfl rfl (get_ ht1 pa q pc _ _ (hT.mono hw) (hG.mono hw) (hw _ hq) (by omega) hcc) ?_
 rintro v w ⟨X2,hX2,hS,hv⟩
 replace hS := hbk hS
 clear hbk hw hcc hr1;have hX12 : ∀ x ∈ X,x ∈ X2 := fun x hx => hX2 x (hX1 x hx)
 cases hg : getR t1 q with
 | ok nd =>
  rw [hg] at hv hway;obtain ⟨a1,q1,rfl,_,_⟩ := hv
  simp only at hway
  by_cases hk : nd.st.kind = 1
  ·rw [if_pos hk] at hway
   repeat (first|refine Yes ?_|(refine X_id ?_;first|refine Yaf ?_|refine Yag ?_|refine Yan ?_|refine Ya0 ?_|refine Ya9 ?_|refine Ybg ?_|refine Ybh ?_|refine Ybc ?_|refine Yaw ?_|refine Yaq ?_|refine Yao (fun _ hS _ => ?_)|refine Yar (fun _ _ hS _ => ?_))|refine Yfa ?_|refine Yej ?_)
   exact Zae (z := (i,t1,X1)) (i + 1,t1,X2) ⟨rfl,rfl,rfl,rfl,trivial⟩ ⟨hlt,ht1,hX12,hway,hS.took⟩ (by dsimp only; omega)
  ·rw [if_neg hk] at hway
   repeat (first|refine Yes ?_|(refine X_id ?_;first|refine Yaf ?_|refine Yag ?_|refine Yan ?_|refine Ya0 ?_|refine Ya9 ?_|refine Ybg ?_|refine Ybh ?_|refine Ybj ?_|refine Yaq ?_|refine Yao (fun _ hS _ => ?_)|refine Yar (fun _ _ hS _ => ?_))|refine Yew ?_|refine Yab ?_|refine Yap ?_|refine Yas ?_|refine Ya8 ?_|refine Yam ?_)
   rw [hway];exact ⟨X2,hX12,rfl,hS.took⟩
 | error e =>
  rw [hg] at hv hway;obtain ⟨rfl,he⟩ := hv
  simp only at hway
  by_cases h7 : e = 7
  case neg =>
   rw [if_neg h7] at hway;repeat (first|refine Yev ?_|(refine X_id ?_;first|refine Yaf ?_|refine Yag ?_|refine Ya0 ?_|refine Ya7 ?_|refine Ybh ?_|refine Ybj ?_|refine Yao (fun _ hS _ => ?_)|refine Yar (fun _ _ hS _ => ?_))|refine Yfg ?_|refine Yab ?_|refine Yap ?_|refine Yas ?_|refine Ya8 ?_|refine Yam ?_)
   rw [hway];exact ⟨X2,hX12,rfl,hS.took⟩
  rw [if_pos h7] at hway;subst h7
  repeat (first|refine Yeb ?_|(refine X_id ?_;first|refine Yaf ?_|refine Yag ?_|refine Ya0 ?_|refine Ybg ?_|refine Yao (fun _ hS _ => ?_)|refine Yar (fun _ _ hS _ => ?_))|refine Yfh ?_|refine Yab ?_)
  refine Zao (.s 0 (.s 2 (.s 3 (.s 4 (.s 5 (.h 1 (.h 6 (.s 7 .nil) .no) .no)))))) mixed (by kernel_rfl) rfl ?_
  have hS := hS.drew
  repeat (first|(refine Zaf ?_;first|refine Ya6 ?_|refine Ycl ?_))
  refine Zai rfl rfl (fun _ => Zaq (l := 0) (h := i + 1) rfl rfl rfl rfl (.inr ⟨_,_,rfl,by omega,by omega,by omega⟩) (.inl ⟨rfl,rfl⟩)) rfl rfl ?_
  rw [sub_zero,Nat.sub_zero,Nat.sub_zero,← hql];repeat (first|(refine Zaf ?_;first|refine Yax ?_))
  refine Zaa _ rfl rfl rfl rfl rfl (Z3w _) ?_
  rintro _ w ⟨rfl,hS'⟩
  replace hS := hS.plus hS';clear hS';repeat (first|(refine Zaf ?_;first|refine Yax ?_)|(refine Zad ?_;first|refine Yay ?_))
  obtain ⟨_,hcc,hr1,hw,hbk⟩ := hS.call [false,true]
  refine Zaa _ rfl rfl rfl rfl rfl (Zxj ht1 dirA none 0 pa q pc _ _ (hT.mono hw) (hG.mono hw) (Zh5 _ _ _) (hw _ hq) (by omega) (by omega) hcc) ?_
  rintro _ w ⟨X3,hX3,rfl,hS⟩
  replace hS := hbk hS
  clear hbk hw hcc hr1;have hX13 : ∀ x ∈ X,x ∈ X3 := fun x hx => hX3 x (hX12 x hx)
  have hmk := Zhn ht1 dirA q
  by_cases h0 : (Zbf n t1 dirA q).1 = 0
  ·rw [if_pos h0] at hway
   rw [h0];repeat (first|refine Yeb ?_|refine Yaf ?_|refine Ybc ?_|refine Yaw ?_|refine Yen ?_|refine Yej ?_|(refine Zaf ?_;first|refine Ya2 ?_|refine Ybl ?_)|(refine Zad ?_;first|refine Yay ?_))
   exact Zae (z := (i,t1,X1)) (i + 1,(Zbf n t1 dirA q).2,X3) ⟨rfl,rfl,rfl,rfl,trivial⟩ ⟨hlt,hmk,hX13,hway,hS.took⟩ (by dsimp only; omega)
  ·rw [if_neg h0] at hway
   rw [hway];generalize Zbf n t1 dirA q = res at h0 hS ⊢;obtain ⟨e2,t2⟩ := res
   simp only at h0 hS ⊢
   repeat (first|refine Yeb ?_|refine Yaf ?_|refine Yag ?_|refine Ybj ?_|refine Yet ?_|refine Yab ?_|refine Yap ?_|refine Yas ?_|refine Ya8 ?_|refine Yam ?_|(refine Zaf ?_;first|refine Ya2 ?_|refine Ybl ?_)|(refine Zad ?_;first|refine Yay ?_))
   exact ⟨X3,hX13,rfl,hS.took⟩
end
end Cr
namespace Cr
open Go
set_option maxRecDepth 10000
set_option maxHeartbeats 64000000

theorem Zkv (b : List UInt8) : ∀ k,((List.range k).map fun i => (b.drop (512 * i)).take 512).flatten = b.take (512 * k)
 | 0 => by simp
 | k + 1 => by
  rw [List.range_succ,List.map_append,List.flatten_append,Zkv b k,List.map_singleton,List.flatten_singleton,show 512 * (k + 1) = 512 * k + 512 by omega,List.take_add]
theorem Zmc (b : List UInt8) : (Zat b).flatten = b := by
 unfold Zat
 rw [Zkv,List.take_of_length_le (by omega)]
theorem Zxl (b : List UInt8) {i : Nat} {c : List UInt8} (h : (Zat b)[i]? = some c) : i < (Zat b).length ∧ c = (b.drop (512 * i)).take 512 := by
 have hi := (List.getElem?_eq_some_iff.1 h).1
 refine ⟨hi,?_⟩
 rw [Zcw] at hi;have := h
 simp only [Zat,List.getElem?_map,List.getElem?_range hi,Option.map_some] at this
 injection this with this
 exact this.symm
theorem Zq4 (b : List UInt8) {i : Nat} {c : List UInt8} (h : (Zat b)[i]? = some c) : (i + 1 < (Zat b).length → c.length = 512) ∧ (0 < i → c.length ≠ 0) := by
 obtain ⟨hi,rfl⟩ := Zxl b h
 rw [Zcw] at hi;rw [List.length_take,List.length_drop,Zcw];omega
end Cr
namespace Cr
open Go Go.Proofs
set_option maxRecDepth 100000
set_option maxHeartbeats 64000000
attribute [local irreducible] Calls

theorem Zwr {n : Nat} {t : Tn} {pack : List UInt8} {no : Int} {b : List UInt8} (h : Zfb pack no ≠ 0) : Zff n t pack no b = (Zfb pack no,t) := by
 unfold Zfb at h ⊢
 unfold Zff
 by_cases h1 : nameOk pack
 ·by_cases h2 : no < 1 ∨ 999999 < no
  ·simp only [h1,h2,not_true_eq_false,if_true,if_false]
  ·simp only [h1,h2,not_true_eq_false,if_false] at h
   exact absurd rfl h
 ·simp only [h1,not_false_eq_true,if_true]
theorem Zq5 (b : List UInt8) {i : Nat} (h : i < (Zat b).length) : (Zat b).drop i = (b.drop (512 * i)).take 512 :: (Zat b).drop (i + 1) := by
 rw [List.drop_eq_getElem_cons h]
 congr 1
 simp [Zat]
theorem Zp8 {n : Nat} : ∀ (l : List (List (List UInt8))) (t : Tn),TreeOk n t → TreeOk n (wayG n t l).2
 | [],_,h => h
 | q :: l,t,h => by
  rw [wayG];cases hg : getR t q with
  | error e =>
   simp only
   have hm := Zhn h dirA q
   split
   ·split
    ·exact Zp8 l _ hm
    ·exact hm
   ·exact h
  | ok nd =>
   simp only
   split
   ·exact Zp8 l t h
   ·exact h
section
variable {c f tp n : Nat} {b : Int} {T : Int → Option Nd} {t : Tn} {X : List RowD}
theorem Z6m (ht : TreeOk n t) (pack : List UInt8) (no : Int) (ba : Option Addr) (bs : List UInt8) (bc : Nat) (hbc : bs.length ≤ bc) (hbl : bs.length ≤ 1048576) (W : World) (F : Nat → Prop) (hT : TreeRo W F f tp n b T) (hG : Lg W F) (hb : Ro W F (bytes ba bs)) (hS : St W F [chR c f b T (Nt t) X] W) :
  Calls Tryz.prog 6 #[.pointer (some ⟨c,0,none⟩),.string (str pack),.int .i64 no,.slice ba bs.length bc] W (Ret fun v w => ∃ X',(∀ x ∈ X,x ∈ X') ∧ v = .int .i64 (Zff n t pack no bs).1 ∧ St W F [chR c f b T (Nt (Zff n t pack no bs).2) X'] w) := by
 refine Zab Tryz.func6 rfl Tryz.ntmps6 rfl ?_
 repeat (first|refine Yeb ?_|refine Yeq ?_|refine Yec ?_|refine Yab ?_)
 refine Zaa _ rfl rfl rfl rfl rfl (Z00 c pack no _ (hG.at_ hS)) ?_
 rintro _ w (⟨hne,rfl,hS'⟩ | ⟨hR,pb,rfl,hS'⟩)
 ·replace hS := hS.plus hS'
  clear hS';rw [Zwr hne];generalize Zfb pack no = e at hne ⊢;repeat (first|refine Yeb ?_|refine Ye8 ?_|refine Yet ?_|refine Yeu ?_)
  exact ⟨X,fun _ h => h,rfl,hS.took⟩
 replace hS := hS.plus hS';clear hS';by_cases h16 : 16384 < bs.length
 ·have hk : Zff n t pack no bs = (2,t) := by
   unfold Zff
   obtain ⟨r1,r2,r3⟩ := hR
   rw [if_neg (fun e => e r1),if_neg (by omega),if_pos h16]
  rw [hk];repeat (first|refine Yeb ?_|(refine X_id ?_;first|refine Yaf ?_|refine Yag ?_|refine Ya0 ?_|refine Yat ?_|refine Ybc ?_|refine Ybx ?_)|refine Yfc ?_|refine Yeu ?_)
  exact ⟨X,fun _ h => h,rfl,hS.took⟩
 have hk := Zgs (n := n) (t := t) hR (b := bs) (by omega)
 repeat (first|refine Yeb ?_|(refine X_id ?_;first|refine Yaf ?_|refine Yag ?_|refine Ya0 ?_|refine Yat ?_|refine Ybc ?_|refine Ybr ?_)|refine Yen ?_|refine Yab ?_)
 obtain ⟨_,hcc,hr1,hw,hbk⟩ := hS.call [false,true]
 refine Zaa _ rfl rfl rfl rfl rfl (get_ ht (some ⟨pb,0,none⟩) [varN,pack,rN no] 3 _ _ (hT.mono hw) (hG.mono hw) (hr1 (own 9 1 (some ⟨pb,0,none⟩) 3 (strV [varN,pack,rN no])) (by simp)).own_row (by simp) hcc) ?_
 rintro v w ⟨X2,hX2,hS,hv⟩
 replace hS := hbk hS
 clear hbk hw hcc hr1;cases hg : getR t [varN,pack,rN no] with
 | ok nd =>
  rw [hg] at hv hk;obtain ⟨a1,q1,rfl,_,_⟩ := hv
  simp only at hk
  rw [hk];repeat (first|refine Yeb ?_|(refine X_id ?_;first|refine Yaf ?_|refine Yag ?_|refine Ya0 ?_|refine Ybg ?_|refine Yao (fun _ hS _ => ?_)|refine Yar (fun _ _ hS _ => ?_))|refine Yet ?_|refine Yeu ?_)
  exact ⟨X2,hX2,rfl,hS.took⟩
 | error e =>
 rw [hg] at hv hk;obtain ⟨rfl,he⟩ := hv
 simp only at hk
 repeat (first|refine Yeb ?_|(refine X_id ?_;first|refine Yaf ?_|refine Yag ?_|refine Ya0 ?_|refine Ybh ?_|refine Yao (fun _ hS _ => ?_)|refine Yar (fun _ _ hS _ => ?_))|refine Yen ?_|refine Yab ?_)
 have hS : St W F [chR c f b T (Nt t) X2,own 9 1 (some ⟨pb,0,none⟩) 3 (strV [varN,pack,rN no])] _ := hS.took
 obtain ⟨_,hcc,hr1,hw,hbk⟩ := hS.call [true]
 refine Zaa _ rfl rfl rfl rfl rfl (way_ ht (some ⟨pb,0,none⟩) [varN,pack,rN no] 3 _ _ (hT.mono hw) (hG.mono hw) (hr1 (own 9 1 (some ⟨pb,0,none⟩) 3 (strV [varN,pack,rN no])) (by simp)).own_row (by simp) (by simp) hcc) ?_
 rintro _ w ⟨X3,hX3,rfl,hS⟩
 replace hS := hbk hS
 clear hbk hw hcc hr1;have hX13 : ∀ x ∈ X,x ∈ X3 := fun x hx => hX3 x (hX2 x hx)
 have ht3 : TreeOk n (wayG n t (Zb5 [varN,pack,rN no])).2 := Zp8 _ t ht
 by_cases h0 : (wayG n t (Zb5 [varN,pack,rN no])).1 = 0
 case neg =>
  rw [if_neg h0] at hk;rw [hk];generalize wayG n t (Zb5 [varN,pack,rN no]) = res at h0 hS ⊢;obtain ⟨e2,t2⟩ := res
  simp only at h0 hS ⊢
  repeat (first|refine Yeb ?_|refine Yaf ?_|refine Yag ?_|refine Ybj ?_|refine Yet ?_|refine Yeu ?_)
  exact ⟨X3,hX13,rfl,hS.took⟩
 rw [if_pos h0] at hk;rw [h0];generalize (wayG n t (Zb5 [varN,pack,rN no])).2 = t3 at hk hS ht3;have hcl := Zcw bs
 repeat (first|refine Yeb ?_|refine Yaf ?_|refine Yag ?_|refine Ybc ?_|refine Yfa ?_|refine Yab ?_)
 refine Zaj (α := Nat × Tn × List RowD) (fun z => [(0,.pointer (some ⟨c,0,none⟩)),(3,.slice ba bs.length bc),(9,.slice (some ⟨pb,0,none⟩) 3 3),(14,.int .i64 (z.1 : Nat))])
  (fun z w => z.1 ≤ (Zat bs).length ∧ TreeOk n z.2.1 ∧ (∀ x ∈ X,x ∈ z.2.2) ∧ Zff n t pack no bs = Zdx n [varN,pack,rN no] z.1 z.2.1 ((Zat bs).drop z.1) ∧ St W F [chR c f b T (Nt z.2.1) z.2.2,own 9 1 (some ⟨pb,0,none⟩) 3 (strV [varN,pack,rN no])] w) (fun z => (Zat bs).length - z.1) (0,t3,X3) ⟨rfl,rfl,rfl,rfl,trivial⟩ ⟨Nat.zero_le _,ht3,hX13,hk,hS⟩ ?_
 clear hS hk;rintro ⟨i,t4,X4⟩ w ⟨hi,ht4,hX4,hkp,hS⟩
 simp only at hi ht4 hX4 hkp hS ⊢
 by_cases hlt : i < (Zat bs).length
 case neg =>
  rw [List.drop_of_length_le (by omega),Zdx] at hkp;rw [hkp];have hi0 : ¬ i = 0 := by omega
  have hil : ¬ (512 : Int) * (i : Nat) < (bs.length : Nat) := by omega
  repeat (first|refine Yes ?_|(refine X_id ?_;first|refine Yaf ?_|refine Yag ?_|refine Ya7 ?_|refine Yat ?_|refine Ybh ?_|refine Yaz ?_|refine Yb1 ?_)|refine Yek ?_|refine Yfd ?_)
  exact ⟨X4,hX4,rfl,hS.took⟩
 have hdrop := Zq5 bs hlt
 rw [hdrop,Zdx] at hkp;obtain ⟨H,hH⟩ : ∃ H,H = min (512 * (i + 1)) bs.length := ⟨_,rfl⟩
 have hmin : min ((512 : Int) * (((i : Nat) : Int) + 1)) ((bs.length : Nat) : Int) = ((H : Nat) : Int) := by omega
 have hlo : 512 * i ≤ H := by omega
 have hil : i = 0 ∨ (512 : Int) * ((i : Nat) : Int) < ((bs.length : Nat) : Int) := by omega
 have hb2 := hb.subBytes (l := 512 * i) (h := H) (c := H) (Nat.le_refl _) hlo
 have hce : (bs.drop (512 * i)).take (H - 512 * i) = (bs.drop (512 * i)).take 512 := by
  rcases Nat.le_total (512 * (i + 1)) bs.length with h | h
  ·rw [show H - 512 * i = 512 by omega]
  ·rw [List.take_of_length_le (by rw [List.length_drop]; omega),List.take_of_length_le (by rw [List.length_drop]; omega)]
 rw [hce] at hb2;have hcl2 : ((bs.drop (512 * i)).take 512).length = H - 512 * i := by rw [List.length_take,List.length_drop]; omega
 generalize (bs.drop (512 * i)).take 512 = ch at hkp hb2 hcl2;by_cases hi0 : i = 0
 all_goals
  repeat (first|refine Yfb ?_|(refine X_id ?_;first|refine Yaf ?_|refine Ya9 ?_|refine Ya7 ?_|refine Yat ?_|refine Ybg ?_|refine Ybh ?_|refine Ya1 ?_|refine Yaw ?_|refine Yb1 ?_)|refine Yef ?_|refine Yab ?_)
  refine X_yl (Znu rfl rfl rfl) rfl rfl ?_
  rw [hmin];repeat (first|refine Yaa ?_|refine Yaf ?_|refine Yat ?_|refine Yaw ?_|refine Yb1 ?_)
  refine X_yl (Znu rfl rfl rfl) rfl rfl ?_
  rw [hmin];repeat (first|refine Yaa ?_)
  refine X_yl (Zh1 (l := 512 * i) (h := H) (k := H) rfl rfl rfl rfl rfl ⟨_,_,rfl,by omega,by omega,by omega⟩ ⟨_,_,rfl,by omega,by omega,Nat.le_refl _⟩ (.inr ⟨_,_,rfl,by omega,by omega,hlo⟩)) rfl rfl ?_
  rw [← hcl2];repeat (first|refine Yeb ?_|refine Yaf ?_|refine Yag ?_|refine Ybm ?_|refine Yec ?_|refine Yab ?_)
  refine Zaa _ rfl rfl rfl rfl rfl (Z54 (some ⟨pb,0,none⟩) [varN,pack,rN no] 3 i (by omega) _ (hG.at_ hS) ((hS.rd (r := own 9 1 (some ⟨pb,0,none⟩) 3 (strV [varN,pack,rN no])) (by simp)).own_row.ro) (by simp)) ?_
  rintro _ w ⟨a5,q5,rfl,hq5,hS'⟩
  replace hS := hS.plus hS';clear hS';repeat (first|refine Yaa ?_)
  have hS : St W F [chR c f b T (Nt t4) X4,own 9 1 a5 q5 (strV ([varN,pack,rN no] ++ [pN i])),own 9 1 (some ⟨pb,0,none⟩) 3 (strV [varN,pack,rN no])] _ := hS.took
  obtain ⟨_,hcc,hr1,hw,hbk⟩ := hS.call [true]
  refine Zaa _ rfl rfl rfl rfl rfl (Zxj ht4 (Zeg ch) _ _ a5 ([varN,pack,rN no] ++ [pN i]) q5 _ _ (hT.mono hw) (hG.mono hw) (hw _ hb2) (hr1 (own 9 1 a5 q5 (strV ([varN,pack,rN no] ++ [pN i]))) (by simp)).own_row hq5 (by simp) hcc) ?_
  rintro _ w ⟨X5,hX5,rfl,hS⟩
  replace hS := hbk hS
  clear hbk hw hcc hr1;have hX15 : ∀ x ∈ X,x ∈ X5 := fun x hx => hX5 x (hX4 x hx)
  have hmk := Zhn ht4 (Zeg ch) ([varN,pack,rN no] ++ [pN i])
  by_cases h1 : (Zbf n t4 (Zeg ch) ([varN,pack,rN no] ++ [pN i])).1 = 0
  ·rw [if_pos h1] at hkp
   rw [h1];repeat (first|refine Yeb ?_|refine Yaf ?_|refine Yag ?_|refine Ybc ?_|refine Yaw ?_|refine Yen ?_|refine Yej ?_)
   exact Zae (z := (i,t4,X4)) (i + 1,(Zbf n t4 (Zeg ch) ([varN,pack,rN no] ++ [pN i])).2,X5) ⟨rfl,rfl,rfl,rfl,trivial⟩ ⟨hlt,hmk,hX15,hkp,hS.took⟩ (by dsimp only; omega)
  ·rw [if_neg h1] at hkp
   rw [hkp];generalize Zbf n t4 (Zeg ch) ([varN,pack,rN no] ++ [pN i]) = res at h1 hS ⊢;obtain ⟨e2,t2⟩ := res
   simp only at h1 hS ⊢
   repeat (first|refine Yeb ?_|refine Yaf ?_|refine Yag ?_|refine Ybj ?_|refine Yet ?_|refine Yex ?_)
   exact ⟨X5,hX15,rfl,hS.took⟩
end
theorem Zwk {n : Nat} {t u : Tn} {p : List (List UInt8)} (ht : TreeOk n t) (hr : Za4 p) (hg : goT t p = .ok u) (hu : u.st.kind = 1) : lstR t p = (u.kids.map Tn.nm,0) := by
 unfold lstR goR
 rw [if_pos hr,hg];simp only
 rw [if_pos (show u.nd.st.kind = 1 from hu),(ht.rd (Zcs hg) hu).2,Tn.names,List.map_map]
 rfl
section
variable {c f tp n : Nat} {b : Int} {T : Int → Option Nd} {t : Tn} {X : List RowD}
theorem Z3e (ht : TreeOk n t) (pack : List UInt8) (no : Int) (hR : RightA pack no) (bs : List UInt8) (hbl : bs.length ≤ 2000) (hV : RevS t pack (rN no) (Zat bs)) (W : World) (F : Nat → Prop) (hT : TreeRo W F f tp n b T) (hG : Lg W F) (hS : St W F [chR c f b T (Nt t) X] W) :
  Calls Tryz.prog 8 #[.pointer (some ⟨c,0,none⟩),.string (str pack),.int .i64 no] W (Ret fun v w => ∃ X' a q,(∀ x ∈ X,x ∈ X') ∧ v = .tuple #[.slice a bs.length q,.int .i64 0] ∧ bs.length ≤ q ∧ St W F [chR c f b T (Nt t) X',own 5 1 a q (bv bs)] w) := by
 have hrn := Zzj hR.2.1 hR.2.2
 obtain ⟨u,hgu,hu,hul,_⟩ := hV.dir
 have hl := Zwk ht hR.three hgu hu
 have hcf := Zmb hbl
 obtain ⟨nd0,hnd⟩ := hV.get hR
 refine Zab Tryz.func8 rfl Tryz.ntmps8 rfl ?_
 repeat (first|refine Yeb ?_|refine Yeq ?_|refine Yec ?_|refine Yab ?_)
 refine Zaa _ rfl rfl rfl rfl rfl (Z00 c pack no _ (hG.at_ hS)) ?_
 rintro _ w (⟨hne,_⟩ | ⟨_,pb,rfl,hS'⟩)
 ·exfalso
  obtain ⟨r1,r2,r3⟩ := hR
  apply hne
  unfold Zfb
  rw [if_neg (fun e => e r1),if_neg (by omega)]
 replace hS := hS.plus hS';clear hS';repeat (first|refine Yeb ?_|refine Ye9 ?_|refine Yen ?_|refine Yab ?_)
 obtain ⟨_,hcc,hr1,hw,hbk⟩ := hS.call [false,true]
 refine Zaa _ rfl rfl rfl rfl rfl (get_ ht (some ⟨pb,0,none⟩) [varN,pack,rN no] 3 _ _ (hT.mono hw) (hG.mono hw) (hr1 (own 9 1 (some ⟨pb,0,none⟩) 3 (strV [varN,pack,rN no])) (by simp)).own_row (by simp) hcc) ?_
 rintro v w ⟨X2,hX2,hS,hv⟩
 replace hS := hbk hS
 clear hbk hw hcc hr1;rw [hnd] at hv;obtain ⟨a1,q1,rfl,_,_⟩ := hv
 repeat (first|refine Yeb ?_|refine Ye9 ?_|refine Yao (fun _ hS _ => ?_)|refine Yar (fun _ _ hS _ => ?_)|refine Yen ?_|refine Yab ?_)
 have hS : St W F [chR c f b T (Nt t) X2,own 9 1 (some ⟨pb,0,none⟩) 3 (strV [varN,pack,rN no])] _ := hS.took
 obtain ⟨_,hcc,hr1,hw,hbk⟩ := hS.call [true]
 refine Zaa _ rfl rfl rfl rfl rfl (Z3b ht (some ⟨pb,0,none⟩) [varN,pack,rN no] 3 _ _ (hT.mono hw) (hG.mono hw) (hr1 (own 9 1 (some ⟨pb,0,none⟩) 3 (strV [varN,pack,rN no])) (by simp)).own_row (by simp) hcc) ?_
 rintro _ w ⟨X3,la,lq,hX3,rfl,_,hS⟩
 replace hS := hbk hS
 clear hbk hw hcc hr1;have hX13 : ∀ x ∈ X,x ∈ X3 := fun x hx => hX3 x (hX2 x hx)
 rw [hl] at hS ⊢;simp only [List.length_map,hul] at hS ⊢
 repeat (first|refine Yeb ?_|(refine X_id ?_;first|refine Yaf ?_|refine Yag ?_|refine Ya0 ?_|refine Yat ?_|refine Ybc ?_|refine Ybe (fun _ _ hS _ => ?_))|refine Yfa ?_|refine Yab ?_)
 rename_i sb _ _;refine Zaj (α := Nat × Option Addr × Nat × List RowD) (fun z => [(0,.pointer (some ⟨c,0,none⟩)),(8,.slice (some ⟨pb,0,none⟩) 3 3),(12,.slice la (Zat bs).length lq),(13,.slice z.2.1 ((Zat bs).take z.1).flatten.length z.2.2.1),(46,.int .i64 ((Zat bs).length : Nat)),(47,.int .i64 (z.1 : Nat))])
  (fun z w => z.1 ≤ (Zat bs).length ∧ ((Zat bs).take z.1).flatten.length ≤ z.2.2.1 ∧ (∀ x ∈ X,x ∈ z.2.2.2) ∧ St W F [own 5 1 z.2.1 z.2.2.1 (bv ((Zat bs).take z.1).flatten),chR c f b T (Nt t) z.2.2.2,own 9 1 (some ⟨pb,0,none⟩) 3 (strV [varN,pack,rN no])] w) (fun z => (Zat bs).length - z.1) (0,some ⟨sb,0,none⟩,0,X3) ⟨rfl,rfl,rfl,rfl,rfl,rfl,trivial⟩ ⟨Nat.zero_le _,Nat.le_refl _,hX13,hS.pick [0,1,1]⟩ ?_
 clear hS;rintro ⟨i,a2,c2,X4⟩ w ⟨hi,hc2,hX4,hS⟩
 simp only at hi hc2 hX4 hS ⊢
 by_cases hlt : i < (Zat bs).length
 case neg =>
  rw [List.take_of_length_le (by omega),Zmc] at hc2 hS ⊢;repeat (first|refine Yes ?_|(refine X_id ?_;first|refine Yaf ?_|refine Yag ?_|refine Ya7 ?_|refine Yat ?_|refine Ybh ?_|refine Yaz ?_|refine Ybr ?_)|refine Yae ?_|refine Yad ?_|refine Yah ?_|refine Yal ?_|refine Ya3 ?_|refine Yai ?_|refine Yab ?_|refine Ya4 ?_|refine Ya5 ?_|refine Ybp ?_)
  exact ⟨X4,a2,c2,hX4,rfl,hc2,hS.took⟩
 have hx0 : (Zat bs)[i]? = some (Zat bs)[i] := List.getElem?_eq_getElem hlt
 have htk : (Zat bs).take (i + 1) = (Zat bs).take i ++ [(Zat bs)[i]] := List.take_succ_eq_append_getElem hlt
 generalize (Zat bs)[i] = ch at hx0 htk;obtain ⟨hf1,hf2⟩ := Zq4 bs hx0
 obtain ⟨num,hpart⟩ := hV.part i ch hx0
 have hgp : getR t ([varN,pack,rN no] ++ [pN i]) = .ok ⟨⟨0,384,0,0⟩,ch⟩ := Zwz (Z08 hR.1 hrn (Z58 (by omega))) hpart
 have hacc : ((Zat bs).take (i + 1)).flatten = ((Zat bs).take i).flatten ++ ch := by rw [htk]; simp
 have hle : (((Zat bs).take i).flatten ++ ch).length ≤ 2000 := by
  have h := congrArg List.length (congrArg List.flatten (List.take_append_drop (i + 1) (Zat bs)))
  rw [List.flatten_append,List.length_append,hacc,Zmc] at h;omega
 rw [List.length_append] at hle;generalize ((Zat bs).take i).flatten = acc at hacc hle hc2 hS ⊢;repeat (first|refine Yeb ?_|refine Yaf ?_|refine Yag ?_|refine Ya1 ?_|refine Yef ?_|refine Yab ?_)
 refine Zaa _ rfl rfl rfl rfl rfl (Z54 (some ⟨pb,0,none⟩) [varN,pack,rN no] 3 i (by omega) _ (hG.at_ hS) ((hS.rd (r := own 9 1 (some ⟨pb,0,none⟩) 3 (strV [varN,pack,rN no])) (by repeat (first|exact List.mem_cons_self ..|refine Yc9 ?_))).own_row.ro) (by simp)) ?_
 rintro _ w ⟨a5,q5,rfl,hq5,hS'⟩
 replace hS := hS.plus hS';clear hS';repeat (first|refine Yaa ?_)
 have hS : St W F [chR c f b T (Nt t) X4,own 9 1 a5 q5 (strV ([varN,pack,rN no] ++ [pN i])),own 5 1 a2 c2 (bv acc),own 9 1 (some ⟨pb,0,none⟩) 3 (strV [varN,pack,rN no])] _ := hS.took
 obtain ⟨_,hcc,hr1,hw,hbk⟩ := hS.call [true]
 refine Zaa _ rfl rfl rfl rfl rfl (get_ ht a5 ([varN,pack,rN no] ++ [pN i]) q5 _ _ (hT.mono hw) (hG.mono hw) (hr1 (own 9 1 a5 q5 (strV ([varN,pack,rN no] ++ [pN i]))) (by simp)).own_row (by simp) hcc) ?_
 rintro v w ⟨X5,hX5,hS,hv⟩
 replace hS := hbk hS
 clear hbk hw hcc hr1;have hX15 : ∀ x ∈ X,x ∈ X5 := fun x hx => hX5 x (hX4 x hx)
 rw [hgp] at hv;obtain ⟨a6,q6,rfl,hq6,hrow⟩ := hv
 by_cases hlast : i + 1 < (Zat bs).length
 ·have h5 : (⟨⟨0,384,0,0⟩,ch⟩ : Nd).data.length = 512 := hf1 hlast
  repeat (first|refine Yfb ?_|(refine X_id ?_;first|refine Yaf ?_|refine Yag ?_|refine Yan ?_|refine Ya0 ?_|refine Ya9 ?_|refine Ya7 ?_|refine Ybo ?_|refine Yat ?_|refine Ybh ?_|refine Ybc ?_|refine Yda ?_|refine Ybv ?_|refine Yaq ?_|refine Yao (fun _ hS _ => ?_)|refine Yar (fun _ _ hS _ => ?_))|refine Yen ?_|refine Yab ?_)
  refine Zas (T := 5) (bytes := 1) (a := a2) (m := ch.length) rfl rfl rfl rfl rfl hS (by rw [Zak,Nat.mul_one]) hc2 (hrow.rd (hS.rd (r := chR c f b T (Nt t) X5) (by repeat (first|exact List.mem_cons_self ..|refine Yc9 ?_))).ch) (by rw [Zak,Nat.mul_one]) Zdb (by omega) (by simp only [maxLen];omega) (fun b' q'' w hS hq'' _ => ?_)
  repeat (first|refine Yeb ?_|refine Yer ?_|refine Yad ?_|refine Yej ?_)
  refine Zae (z := (i,a2,c2,X4)) (i + 1,b',q'',X5) ⟨rfl,rfl,rfl,by dsimp only; rw [hacc,List.length_append]; rfl,rfl,rfl,trivial⟩ ⟨hlt,by dsimp only; rw [hacc,List.length_append]; exact hq'',hX15,?_⟩ (by dsimp only; omega)
  dsimp only
  rw [hacc,show bv (acc ++ ch) = bv acc ++ bv ch from List.map_append];exact hS.took
 ·by_cases hi0 : 0 < i
  ·have h5 : ¬ (⟨⟨0,384,0,0⟩,ch⟩ : Nd).data.length = 0 := hf2 hi0
   repeat (first|refine Yfb ?_|(refine X_id ?_;first|refine Yaf ?_|refine Yag ?_|refine Yan ?_|refine Ya0 ?_|refine Ya9 ?_|refine Ya7 ?_|refine Ybb ?_|refine Yat ?_|refine Ybg ?_|refine Ybh ?_|refine Ybc ?_|refine Ybx ?_|refine Yda ?_|refine Ybv ?_|refine Yaq ?_|refine Yao (fun _ hS _ => ?_)|refine Yar (fun _ _ hS _ => ?_))|refine Yen ?_|refine Yab ?_)
   refine Zas (T := 5) (bytes := 1) (a := a2) (m := ch.length) rfl rfl rfl rfl rfl hS (by rw [Zak,Nat.mul_one]) hc2 (hrow.rd (hS.rd (r := chR c f b T (Nt t) X5) (by repeat (first|exact List.mem_cons_self ..|refine Yc9 ?_))).ch) (by rw [Zak,Nat.mul_one]) Zdb (by omega) (by simp only [maxLen];omega) (fun b' q'' w hS hq'' _ => ?_)
   repeat (first|refine Yeb ?_|refine Yer ?_|refine Yad ?_|refine Yej ?_)
   refine Zae (z := (i,a2,c2,X4)) (i + 1,b',q'',X5) ⟨rfl,rfl,rfl,by dsimp only; rw [hacc,List.length_append]; rfl,rfl,rfl,trivial⟩ ⟨hlt,by dsimp only; rw [hacc,List.length_append]; exact hq'',hX15,?_⟩ (by dsimp only; omega)
   dsimp only
   rw [hacc,show bv (acc ++ ch) = bv acc ++ bv ch from List.map_append];exact hS.took
  ·have hi1 : i = 0 := by omega
   repeat (first|refine Yfb ?_|(refine X_id ?_;first|refine Yaf ?_|refine Yag ?_|refine Yan ?_|refine Ya0 ?_|refine Ya9 ?_|refine Ya7 ?_|refine Ybb ?_|refine Yat ?_|refine Ybg ?_|refine Ybc ?_|refine Ybr ?_|refine Yda ?_|refine Ybv ?_|refine Yaq ?_|refine Yao (fun _ hS _ => ?_)|refine Yar (fun _ _ hS _ => ?_))|refine Yen ?_|refine Yab ?_)
   refine Zas (T := 5) (bytes := 1) (a := a2) (m := ch.length) rfl rfl rfl rfl rfl hS (by rw [Zak,Nat.mul_one]) hc2 (hrow.rd (hS.rd (r := chR c f b T (Nt t) X5) (by repeat (first|exact List.mem_cons_self ..|refine Yc9 ?_))).ch) (by rw [Zak,Nat.mul_one]) Zdb (by omega) (by simp only [maxLen];omega) (fun b' q'' w hS hq'' _ => ?_)
   repeat (first|refine Yeb ?_|refine Yer ?_|refine Yad ?_|refine Yej ?_)
   refine Zae (z := (i,a2,c2,X4)) (i + 1,b',q'',X5) ⟨rfl,rfl,rfl,by dsimp only; rw [hacc,List.length_append]; rfl,rfl,rfl,trivial⟩ ⟨hlt,by dsimp only; rw [hacc,List.length_append]; exact hq'',hX15,?_⟩ (by dsimp only; omega)
   dsimp only
   rw [hacc,show bv (acc ++ ch) = bv acc ++ bv ch from List.map_append];exact hS.took
end
end Cr
namespace Cr
open Go
set_option maxRecDepth 10000
set_option maxHeartbeats 64000000

end Cr
namespace Cr
open Go Go.Proofs
set_option maxRecDepth 100000
set_option maxHeartbeats 64000000
attribute [local irreducible] Calls

theorem St.front (r : Res) {W : World} {F : Nat → Prop} {rs rest : List Res} {w : World} (hS : St W F rs w) [h : Take1 rs r rest] : St W F (r :: rest) w := hS.perm h.perm
section
variable {c f tp n : Nat} {b : Int} {T : Int → Option Nd} {t : Tn} {X : List RowD}
end
section
variable {c f tp n : Nat} {b : Int} {T : Int → Option Nd} {t : Tn} {X : List RowD}
theorem Zkt {p : List (List UInt8)} {e : Int} (ht : TreeOk n t) (hl : lstR t p = ([],e)) (he : e ≠ 0) (hpl : p.length ≤ 8) (pa : Option Addr) (pc : Nat) (W : World) (F : Nat → Prop) (hT : TreeRo W F f tp n b T) (hG : Lg W F) (hp : Ro W F (row pa (strV p))) (hS : St W F [chR c f b T (Nt t) X] W) :
  Calls Tryz.prog 15 #[.pointer (some ⟨c,0,none⟩),.slice pa p.length pc] W (Ret fun v w => ∃ X',(∀ x ∈ X,x ∈ X') ∧ v = .tuple #[.slice none 0 0,.int .i64 e] ∧ St W F [chR c f b T (Nt t) X'] w) := by
 refine Zab Tryz.func15 rfl Tryz.ntmps15 rfl ?_
 repeat (first|refine Yeb ?_|refine Yag ?_|refine Ybt ?_|refine Yaq ?_|refine Yba (fun _ _ hS _ => ?_)|refine Yen ?_|refine Yab ?_)
 replace hS := hS.front (chR c f b T (Nt t) X)
 obtain ⟨_,hcc,hr1,hw,hbk⟩ := hS.call [true]
 refine Zaa _ rfl rfl rfl rfl rfl (Z3b ht pa p pc _ _ (hT.mono hw) (hG.mono hw) (hw _ hp) (by omega) hcc) ?_
 rintro _ w ⟨X3,la,lq,hX3,rfl,_,hS⟩
 replace hS := hbk hS
 clear hbk hw hcc hr1;rw [hl] at hS ⊢;simp only at hS ⊢
 repeat (first|refine Yeb ?_|refine Ye8 ?_|refine Yet ?_|refine Ye7 ?_)
 exact ⟨X3,hX3,rfl,hS.took⟩
end
theorem Zjw (s n : Value) (W : World) : Calls Tryz.prog 29 #[.pointer none,s,n] W (Ret fun v w => v = .tuple #[.slice none 0 0,.int .i64 16] ∧ St W noF [] w) := by
 have hS := St.start W
 refine Zab Tryz.func29 rfl Tryz.ntmps29 rfl ?_
 repeat (first|refine Yeb ?_|refine Yaf ?_|refine Yag ?_|refine Yds ?_|refine Yez ?_|refine Ye6 ?_)
 exact ⟨rfl,hS.drops⟩
theorem Zks (W : World) : Calls Tryz.prog 15 #[.pointer none,.slice none 0 0] W (Ret fun v w => v = .tuple #[.slice none 0 0,.int .i64 16] ∧ St W noF [] w) := by
 have hS := St.start W
 refine Zab Tryz.func15 rfl Tryz.ntmps15 rfl ?_
 repeat (first|refine Yeb ?_|refine Yag ?_|refine Yds ?_|refine Yaq ?_|refine Yba (fun _ _ hS _ => ?_)|refine Yet ?_|refine Ye7 ?_)
 exact ⟨rfl,hS.drops⟩
theorem Zv6 (n : Value) (W : World) : Calls Tryz.prog 16 #[.pointer none,n,.slice none 0 0,.slice none 0 0] W (Ret fun v w => v = .tuple #[.int .i64 0,.int .i64 16] ∧ St W noF [] w) := by
 have hS := St.start W
 refine Zab Tryz.func16 rfl Tryz.ntmps16 rfl ?_
 repeat (first|refine Yeb ?_|refine Yaf ?_|refine Yag ?_|refine Yds ?_|refine Yez ?_|refine Ye6 ?_)
 exact ⟨rfl,hS.drops⟩
theorem Zxk (W : World) : Calls Tryz.prog 17 #[.pointer none,.slice none 0 0] W (Ret fun v w => v = .tuple #[.int .i64 0,.int .i64 16] ∧ St W noF [] w) := by
 have hS := St.start W
 refine Zab Tryz.func17 rfl Tryz.ntmps17 rfl ?_
 repeat (first|refine Yeb ?_|refine Yaq ?_|refine Yba (fun _ _ hS _ => ?_)|refine Yar (fun _ _ hS _ => ?_)|refine Yec ?_|refine Yab ?_)
 refine Zaa _ rfl rfl rfl rfl rfl (Zks _) ?_
 rintro _ w ⟨rfl,hS'⟩
 replace hS := hS.plus hS';clear hS';repeat (first|refine Yeb ?_|refine Ye8 ?_|refine Yao (fun _ hS _ => ?_)|refine Yet ?_|refine Yab ?_|refine Yap ?_|refine Ybz ?_)
 exact ⟨rfl,hS.drops⟩
theorem Zz3 (s n : Value) (W : World) : Calls Tryz.prog 8 #[.pointer none,s,n] W (Ret fun v w => v = .tuple #[.slice none 0 0,.int .i64 16] ∧ St W noF [] w) := by
 have hS := St.start W
 refine Zab Tryz.func8 rfl Tryz.ntmps8 rfl ?_
 repeat (first|refine Yeb ?_|refine Yeq ?_|refine Yec ?_|refine Yab ?_)
 refine Zaa _ rfl rfl rfl rfl rfl (Zjw _ _ _) ?_
 rintro _ w ⟨rfl,hS'⟩
 replace hS := hS.plus hS';clear hS';repeat (first|refine Yeb ?_|refine Ye8 ?_|refine Yet ?_|refine Ye7 ?_)
 exact ⟨rfl,hS.drops⟩
theorem Zue (s a : Value) (W : World) : Calls Tryz.prog 13 #[.pointer none,s,a] W (Ret fun v w => v = .tuple #[.int .i64 0,.int .i64 16] ∧ St W noF [] w) := by
 have hS := St.start W
 refine Zab Tryz.func13 rfl Tryz.ntmps13 rfl ?_
 repeat (first|refine Yeb ?_|refine Yeq ?_|refine Yae ?_|refine Ycg ?_|refine Yad ?_|refine Yab ?_)
 refine Zaa _ rfl rfl rfl rfl rfl (Zjw _ _ _) ?_
 rintro _ w ⟨rfl,hS'⟩
 replace hS := hS.plus hS';clear hS';repeat (first|refine Yeb ?_|refine Ye8 ?_|refine Yet ?_|refine Yab ?_|refine Yap ?_|refine Yb4 ?_|refine Ybp ?_)
 exact ⟨rfl,hS.drops⟩
theorem Zz4 (s n b : Value) (W : World) : Calls Tryz.prog 6 #[.pointer none,s,n,b] W (Ret fun v w => v = .int .i64 16 ∧ St W noF [] w) := by
 have hS := St.start W
 refine Zab Tryz.func6 rfl Tryz.ntmps6 rfl ?_
 repeat (first|refine Yeb ?_|refine Yeq ?_|refine Yec ?_|refine Yab ?_)
 refine Zaa _ rfl rfl rfl rfl rfl (Zjw _ _ _) ?_
 rintro _ w ⟨rfl,hS'⟩
 replace hS := hS.plus hS';clear hS';repeat (first|refine Yeb ?_|refine Ye8 ?_|refine Yet ?_|refine Yeu ?_)
 exact ⟨rfl,hS.drops⟩
def Ze7 : List UInt8 := [97,114,99,104,105,118,101]
theorem Z71 (a : Option Addr) (c : Nat) (b : List UInt8) (rd fs : List Int) (W : World) (hG : Gl W noF rd fs) (hb : Ro W noF (bytes a b)) (hbl : b.length < 1000000000) :
  Calls Tryz.prog 19 #[.slice a b.length c] W (Ret fun v w => v = .agg (bv (digest rd fs [Ze7,b])).toArray ∧ St W noF [] w) := by
 have hS := St.start W
 have hcl : bv Ze7 = [.int .u8 97,.int .u8 114,.int .u8 99,.int .u8 104,.int .u8 105,.int .u8 118,.int .u8 101] := rfl
 refine Zab Tryz.func19 rfl Tryz.ntmps19 rfl ?_
 repeat (first|refine Yeb ?_|refine Yar (fun _ _ hS _ => ?_)|refine Ybe (fun _ _ hS _ => ?_)|refine Yec ?_|refine Yab ?_)
 rename_i b0 _ _;refine Zf8 rfl rfl rfl rfl hS (by simp) (fun w hS => ?_)
 repeat (first|refine Yaa ?_|refine Yaf ?_|refine Ybe (fun _ _ hS _ => ?_))
 rename_i b1 w1 _;have hB : Bss w1 noF (some ⟨b1,0,none⟩) [⟨some ⟨b0,0,none⟩,7,Ze7⟩,⟨a,c,b⟩] := ⟨(show Rd w1 (row (some ⟨b1,0,none⟩) _) by simpa [Bs.val,Ze7] using hS.ownRd (a := some ⟨b1,0,none⟩)).ro,fun x hx => by
  simp only [List.mem_cons,List.not_mem_nil,or_false] at hx
  rcases hx with rfl | rfl
  ·exact (hS.rd (r := bytes (some ⟨b0,0,none⟩) Ze7) (by simp [bytes,← hcl])).ro
  ·exact (hb.rd hS).ro⟩
 have hn : (Zaz (Zbe [⟨some ⟨b0,0,none⟩,7,Ze7⟩,⟨a,c,b⟩])).length < 1152921504606846976 := by
  simp [Zbe,Zaz,Za2,Ze7]; omega
 have hl32 : LenO (bv (digest rd fs (Zbe [⟨some ⟨b0,0,none⟩,7,Ze7⟩,⟨a,c,b⟩]))) 32 := ⟨by rw [Zak]; exact Zbc _ _ _⟩
 refine Zac _ rfl rfl rfl rfl rfl hS (Zne _ 2 _ rd fs _ hn (by simp) (hG.mono fun r hr => (hr.rd hS).ro) hB) ?_
 rintro _ w rfl hS
 clear hB;repeat (first|refine Yeb ?_|refine Yao (fun _ hS _ => ?_)|refine Yah ?_|refine Yab ?_|refine Ybw ?_)
 exact ⟨rfl,hS.drops⟩
theorem Zpk : Zh0 (List.replicate 80 none) 400 200 [Zj9] = (0,Zby 80) := by kernel_rfl
theorem Z2w (rd fs : List Int) : Zt1 rd fs (Zbb 882) 400 = ⟨0,Zbb 882,0,false⟩ := by kernel_rfl
theorem Ztm {rd fs : List Int} {tp lp p m j n nb : Nat} (h0 : atT (List.replicate n none) 0 = none) (hap : Zh0 (List.replicate n none) nb (j / 2) [Zj9] = (0,Zby n)) (hu1 : (Zlc (Zby n)).length = 1) (hu2 : atT (Zby n) 0 = some rootNd) (W : World) (F : Nat → Prop) (hG : Gl W F rd fs) (hL : Lg W F) (hm : (m : Int) < last) (hS : St W F [itab rd fs tp lp p j m n nb (List.replicate n none)] W) :
  Calls Tryz.prog 26 #[.pointer (some ⟨tp,0,none⟩)] W (Ret fun v w => ∃ f,v = .tuple #[.pointer (some ⟨f,0,none⟩),.int .i64 0] ∧ St W F [pts f (.cells (List.toArray [.pointer (some ⟨tp,0,none⟩),.int .i64 0]) 168 (0,0)),itab rd fs tp lp p j (m + 1) n nb (Zby n)] w) := by
 refine Zab Tryz.func26 rfl Tryz.ntmps26 rfl ?_
 repeat (first|refine Yeb ?_|refine Yeq ?_|refine Yec ?_|refine Yab ?_)
 obtain ⟨F2,hS2,hro,hw,hbk⟩ := hS.call []
 have hIt := hro (itab rd fs tp lp p j m n nb (List.replicate n none)) (by simp)
 have htab := Zic hIt
 refine Zaa _ rfl rfl rfl rfl rfl (htab.get _ 0 fun r h => h.rd hS2) ?_
 rintro v w hV
 rw [h0] at hV;obtain ⟨rfl,hS'⟩ := hV
 replace hS := hS.plus hS';clear hS' hS2 hro hw hbk hIt htab;repeat (first|refine Yeb ?_|(refine X_id ?_;first|refine Yaf ?_|refine Yag ?_|refine Ya0 ?_|refine Ybg ?_|refine Ybm ?_|refine Yao (fun _ hS _ => ?_)|refine Yar (fun _ _ hS _ => ?_))|refine Yfh ?_|refine Yab ?_)
 refine Zaa _ rfl rfl rfl rfl rfl (Zmn none [] 0 _ (Zh5 _ _ _) ⟨by decide,fun _ h => (by cases h)⟩ (hL.at_ hS)) ?_
 rintro _ w ⟨a,q,rfl,hq,hS'⟩
 replace hS := hS.plus hS';clear hS';repeat (first|refine Yaa ?_|refine Ybm ?_|refine Ybe (fun _ _ hS _ => ?_))
 rename_i b2 _ _;obtain ⟨_,hc,hr,hw,hbk⟩ := hS.call [false,false,false,true]
 have hro := hr (own 5 1 a q (bv (wrD []))) (by simp)
 have hrw := hr (own 165 7 (some ⟨b2,0,none⟩) 1 [.int .i64 0,.int .i64 1,.int .i64 493,.int .i64 0,.int .i64 0,.slice a (wrD []).length q,.bool false]) (by simp)
 have hC : Chgs _ _ (some ⟨b2,0,none⟩) [⟨Zj9,a,q⟩] := ⟨hrw.own_row,fun x hx => by obtain rfl := List.mem_singleton.1 hx; exact hro.own_row⟩
 refine Zaa _ rfl rfl rfl rfl rfl (Z7e (some ⟨b2,0,none⟩) 1 [⟨Zj9,a,q⟩] _ _ (hG.mono hw) hC (by simp) (by simp) hm hc) ?_
 rintro _ w ⟨rfl,hS⟩
 replace hS := hbk hS
 clear hc hr hw hbk hC hro hrw;have hap : Zh0 (List.replicate n none) nb (j / 2) (([⟨Zj9,a,q⟩] : List ChgA).map ChgA.c) = (0,Zby n) := hap
 rw [hap] at hS ⊢;simp only at hS ⊢
 repeat (first|refine Yes ?_|refine Yaf ?_|refine Yag ?_|refine Ybg ?_|refine Yec ?_|refine Yej ?_)
 refine Zaa _ rfl rfl rfl rfl rfl (Ztr _ (hS.rd (r := itab rd fs tp lp p j (m + 1) n nb (Zby n)) (by simp)).ro (hL.at_ hS) hu2 hu1) ?_
 rintro _ w ⟨rfl,hS'⟩
 replace hS := hS.plus hS';clear hS';repeat (first|refine Yes ?_|(refine X_id ?_;first|refine Yaf ?_|refine Yag ?_|refine Ya9 ?_|refine Ybb ?_|refine Ybc ?_|refine Ybm ?_|refine Yba (fun _ _ hS _ => ?_))|refine Ye1 ?_|refine Ye0 ?_)
 exact ⟨_,rfl,hS.took⟩
end Cr
namespace Cr
open Go
set_option maxRecDepth 10000
set_option maxHeartbeats 64000000

theorem Zhm {n : Nat} {t : Tn} (nd : Nd) {p : List (List UInt8)} (hp : 2 ≤ p.length) : (Zbf n t nd p).2.kids.map Tn.nm = t.kids.map Tn.nm := by
 unfold Zbf
 split
 ·rfl
 split
 ·rfl
 split
 ·rfl
 ·rename_i x _
  split
  ·rfl
  split
  ·rfl
  ·rename_i i _
   split
   ·rfl
   ·obtain ⟨s,r,hd⟩ : ∃ s r,p.dropLast = s :: r := by
     match p,hp with
     | a :: b :: r,_ => exact ⟨a,(b :: r).dropLast,rfl⟩
    simp only
    rw [hd];exact (Zod (Znq _) s r t).1
theorem Zml {n : Nat} : ∀ (l : List (List (List UInt8))) (t : Tn),(∀ q ∈ l,2 ≤ q.length) → (wayG n t l).2.kids.map Tn.nm = t.kids.map Tn.nm
 | [],_,_ => rfl
 | q :: l,t,h => by
  have hq := h q (List.mem_cons_self ..)
  have hl := fun x hx => h x (List.mem_cons_of_mem _ hx)
  rw [wayG]
  split
  ·split
   ·split
    ·rw [Zml l _ hl,Zhm dirA hq]
    ·exact Zhm dirA hq
   ·rfl
  ·split
   ·exact Zml l t hl
   ·rfl
theorem Zlt {n : Nat} {p : List (List UInt8)} (hp : 1 ≤ p.length) : ∀ (l : List (List UInt8)) (i : Nat) (t : Tn),(Zdx n p i t l).2.kids.map Tn.nm = t.kids.map Tn.nm
 | [],_,_ => by rw [Zdx]
 | c :: l,i,t => by
  have hq : 2 ≤ (p ++ [pN i]).length := by rw [List.length_append,List.length_singleton]; omega
  rw [Zdx]
  split
  ·rw [Zlt hp l,Zhm _ hq]
  ·exact Zhm _ hq
structure SealT (t : Tn) : Prop where
 ok : TreeOk 80 t
 ct : ∃ m,m ≤ 40 ∧ Cont m t
 top : t.kids.map Tn.nm = [] ∨ t.kids.map Tn.nm = [varN]
theorem Z2k : SealT t0 := ⟨t0_ok.more (by omega) (by omega),⟨1,by omega,Zq2⟩,.inl rfl⟩
theorem Zvp {pack : List UInt8} {no : Int} {b : List UInt8} (hR : RightA pack no) (hb : b.length ≤ 16384) : (Zff 80 t0 pack no b).1 = 0 ∧ SealT (Zff 80 t0 pack no b).2 := by
 have hrn := Zzj hR.2.1 hR.2.2
 have hcl := Zcw b
 have hg : getR t0 [varN,pack,rN no] = .error 7 := by
  unfold getR goR
  rw [if_pos hR.three]; rfl
 obtain ⟨t,hA,hw⟩ := Zu8 hR.1 hrn
 obtain ⟨h1,h2,h3,_⟩ := Zq0 hR.1 hrn hA (by omega) (by decide) (fun h => by cases h)
 obtain ⟨p1,p2,p3,_⟩ := Zka hR.1 hrn (Zat b) [] _ _ h2 h3 (by omega) (by simp only [List.length_nil]; omega) (Zpe b)
 have htop : (wayG 80 t0 (Zb5 [varN,pack,rN no])).2.kids.map Tn.nm = [varN] := by
  obtain ⟨a1,a2,a3⟩ := Zos (p := []) (s := varN) (nd := dirA) (t0_ok.more (by omega) (by omega) : TreeOk 80 t0) Zq2 (by omega) Zmy (u := t0) rfl rfl rfl Zf4 (by decide)
  have n1 : getR t0 ([] ++ [varN]) = .error 7 := Zeo Zmy (u := t0) rfl rfl rfl
  rw [show [] ++ [varN] = [varN] from rfl] at a1 n1
  rw [Z52,wayG,n1];simp only
  rw [if_pos trivial,a1];simp only
  rw [if_pos trivial,Zml _ _ (by simp)]
  rfl
 rw [Zgs hR hb,hg];simp only
 have hw1 := congrArg Prod.fst hw
 have hw2 := congrArg Prod.snd hw
 simp only at hw1 hw2
 rw [if_pos hw1,hw2];rw [hw2] at htop;refine ⟨p1,p2.ok,⟨_,by omega,p2.ct⟩,.inr ?_⟩
 have := Zlt (n := 80) (p := [varN,pack,rN no]) (by simp) (Zat b) 0 (Zbf 80 t dirA ([varN,pack] ++ [rN no])).2
 exact this.trans htop
theorem Zvo {pack : List UInt8} {no : Int} {b : List UInt8} (hR : RightA pack no) (hb : 16384 < b.length) : Zff 80 t0 pack no b = (2,t0) := by
 unfold Zff
 obtain ⟨r1,r2,r3⟩ := hR
 rw [if_neg (fun e => e r1),if_neg (by omega),if_pos hb]
def Zzs : List UInt8 := [110,111,116,104,105,110,103]
def Ze3 : List UInt8 := [102,105,108,101]
abbrev file0 : Nd := ⟨⟨0,420,0,0⟩,[]⟩
theorem Z3a {t : Tn} {p : List (List UInt8)} {e : Int} (h : getR t p = .error e) : lstR t p = ([],e) := by
 unfold getR at h
 unfold lstR
 cases hg : goR t p with
 | ok x => rw [hg] at h; cases h
 | error e' => rw [hg] at h; injection h with h; rw [h]
theorem SealT.no {t : Tn} (h : SealT t) {s : List UInt8} (hs : nameOk s) (hv : s ≠ varN) : kidT s t.kids = none ∧ lstR t [s] = ([],7) := by
 have h1 : kidT s t.kids = none := kidT_iff.2 fun hx => by
  rcases h.top with e | e
  ·rw [e] at hx; cases hx
  ·rw [e] at hx; exact hv (List.mem_singleton.1 hx)
 have hr : Za4 ([] ++ [s]) := ⟨by simp,fun x hx => by
  rw [List.nil_append,List.mem_singleton] at hx;rw [hx]; exact hs⟩
 exact ⟨h1,Z3a (Zeo hr (p := []) (u := t) rfl h.ok.root.2 h1)⟩
theorem SealT.file {t : Tn} (h : SealT t) : (Zbf 80 t file0 [Ze3]).1 = 0 ∧ TreeOk 80 (Zbf 80 t file0 [Ze3]).2 ∧ lstR (Zbf 80 t file0 [Ze3]).2 [Ze3] = ([],17) := by
 have hf : nameOk Ze3 := by decide
 have hr : Za4 ([] ++ [Ze3]) := by decide
 obtain ⟨h1,_⟩ := h.no hf (by decide)
 obtain ⟨m,hm,hc⟩ := h.ct
 have hl : t.kids.length < 10 := by
  have e : t.kids.length = (t.kids.map Tn.nm).length := by rw [List.length_map]
  rw [e];rcases h.top with e | e <;> rw [e] <;> decide
 obtain ⟨a1,a2,a3⟩ := Zos (p := []) (s := Ze3) (nd := file0) h.ok hc (by omega) hr (u := t) rfl h.ok.root.2 h1 (by decide) hl
 rw [show [] ++ [Ze3] = [Ze3] from rfl] at a1
 rw [a1];refine ⟨rfl,a3,?_⟩
 simp only
 have hg : goT (updT [] (addF (.mk Ze3 (m : Int) file0.st file0.data [])) t) [Ze3] = .ok (.mk Ze3 (m : Int) file0.st file0.data []) := by
  have h2 := Zf6 [] (updT [] (addF (.mk Ze3 (m : Int) file0.st file0.data [])) t) Ze3
  rw [List.nil_append] at h2;rw [h2];exact Zna (k := .mk Ze3 (m : Int) file0.st file0.data []) h.ok.root.2 h1
 unfold lstR goR
 rw [if_pos (show Za4 [Ze3] from hr),hg]
 rfl
end Cr
namespace Cr
open Go Go.Proofs
set_option maxRecDepth 100000
set_option maxHeartbeats 64000000
attribute [local irreducible] Calls

theorem Z2n (W : World) : Calls Tryz.prog 28 #[.int .i64 80] W (Ret fun v w => ∃ r,v = .pointer (some ⟨r,0,none⟩) ∧ St W noF [] w) := by
 have hS := St.start W
 refine Zab Tryz.func28 rfl Tryz.ntmps28 rfl ?_
 repeat (first|refine Yeb ?_|refine Yaf ?_|refine Yag ?_|refine Ybm ?_|refine Yba (fun _ _ hS _ => ?_)|refine Yep ?_|refine Yed ?_)
 exact ⟨_,rfl,hS.drops⟩
theorem Z7n (n : Nat) (no : Int) : Nt t0 no = atT (Zby n) no := by
 have he : Zda t0 = [(0,rootNd)] := by kernel_rfl
 unfold Nt
 rw [he];by_cases h0 : no = 0
 ·subst h0
  rfl
 ·unfold atT
  have h1 : getA no [((0 : Int),rootNd)] = none := by
   show (if _ then _ else _) = _
   rw [if_neg fun e => h0 e]
   rfl
  rw [h1]
  split
  ·next h =>
   obtain ⟨k,hk⟩ : ∃ k,no.toNat = k + 1 := ⟨no.toNat - 1,by omega⟩
   rw [hk,Zby,List.getD_cons_succ,List.getD_eq_getElem?_getD,List.getElem?_replicate]
   split <;> rfl
  ·rfl
theorem Z4g : (Zlc (Zby 80)).length = 1 := by kernel_rfl
theorem Zss (rd fs : List Int) (W : World) (hG : Gl W noF rd fs) (hL : Lg W noF) : Calls Tryz.prog 5 #[] W (Ret fun v w => ∃ (lp tp p f c r : Nat),v = .tuple #[.pointer (some ⟨f,0,none⟩),.pointer (some ⟨c,0,none⟩),.pointer (some ⟨r,0,none⟩)] ∧
  St W noF [chR c f 0 (atT (Zby 80)) (Nt t0) [],pts f (.cells (List.toArray [.pointer (some ⟨tp,0,none⟩),.int .i64 0]) 168 (0,0)),itab rd fs tp lp p 400 2 80 400 (Zby 80)] w) := by
 have hS := St.start W
 have hN : Nt t0 = atT (Zby 80) := funext (Z7n 80)
 rw [hN];refine Zab Tryz.func5 rfl Tryz.ntmps5 rfl ?_
 repeat (first|refine Yeb ?_|refine Yag ?_|refine Yec ?_|refine Yab ?_)
 refine Zaa _ rfl rfl rfl rfl rfl (new_ 882 _ (by omega) (by omega)) ?_
 rintro _ w ⟨q,rfl,hS'⟩
 replace hS := hS.plus hS';clear hS';repeat (first|refine Yeb ?_|refine Ye5 ?_|refine Yec ?_|refine Yab ?_)
 have hopen := Z8u q (Zbb 882) 400 rd fs
 rw [Z2w] at hopen;obtain ⟨_,hc,hr,hw,hbk⟩ := hS.call [true]
 refine Zaa _ rfl rfl rfl rfl rfl (hopen _ _ (hG.mono hw) (by simp [Zbb]) hc) ?_
 rintro _ w (⟨h,_⟩ | ⟨_,lp,rfl,hS⟩)
 ·exact absurd rfl h
 replace hS := hbk hS
 clear hc hr hw hbk hopen;replace hS : St W noF [qlog lp q 400 0 (List.replicate 481 zero64)] w := St.newLog (k := 481) (by omega) hS
 repeat (first|refine Yeb ?_|refine Ye5 ?_|refine Yec ?_|refine Yab ?_)
 obtain ⟨_,hc,hr,hw,hbk⟩ := hS.call [true]
 refine Zaa _ rfl rfl rfl rfl rfl (Z3j lp q 400 0 80 400 _ rd fs _ _ (hG.mono hw) (by simp) (by omega) (by omega) (by omega) (by omega) (by simp [last]) (Zn4 (by omega)) (fun i hi => Zn4 (by omega)) hc) ?_
 rintro _ w ⟨tp,rfl,hS⟩
 replace hS := hbk hS
 clear hc hr hw hbk;repeat (first|refine Yeb ?_|refine Ye5 ?_|refine Yec ?_|refine Yab ?_)
 obtain ⟨_,hc,hr,hw,hbk⟩ := hS.call [true]
 refine Zaa _ rfl rfl rfl rfl rfl (Ztm (n := 80) (nb := 400) (j := 400) (by kernel_rfl) Zpk Z4g (by kernel_rfl) _ _ (hG.mono hw) (hL.mono hw) (by simp [last]) hc) ?_
 rintro _ w ⟨f,rfl,hS⟩
 replace hS := hbk hS
 clear hc hr hw hbk;repeat (first|refine Yes ?_|(refine X_id ?_;first|refine Yaf ?_|refine Yag ?_|refine Ya0 ?_|refine Ya7 ?_|refine Ybc ?_)|refine Yen ?_|refine Yab ?_)
 refine Zaa _ rfl rfl rfl rfl rfl (Z17 (T := atT (Zby 80)) _ (hS.rd (r := pts f (.cells (List.toArray [.pointer (some ⟨tp,0,none⟩),.int .i64 0]) 168 (0,0))) (by simp))) ?_
 rintro _ w ⟨c,rfl,hS'⟩
 replace hS := hS.plus hS';clear hS';repeat (first|refine Yaa ?_)
 refine Zaa _ rfl rfl rfl rfl rfl (Z2n _) ?_
 rintro _ w ⟨r,rfl,hS'⟩
 replace hS := hS.plus hS';clear hS';repeat (first|refine Yeb ?_|refine Yag ?_|refine Yah ?_|refine Yab ?_|refine Ydj ?_)
 exact ⟨lp,tp,q,f,c,r,rfl,hS.took⟩
theorem Z51 (a b : Option Addr) (c c' : Nat) (p q : List (List UInt8)) (W : World) (ha : Rd W (row a (strV p))) (hb : Rd W (row b (strV q))) (hs : p.length ≤ 1000000) :
  Calls Tryz.prog 34 #[.slice a p.length c,.slice b q.length c'] W (Ret fun v w => v = .bool (decide (p = q)) ∧ St W noF [] w) := by
 have hS := St.start W
 by_cases hl : p.length = q.length
 case neg =>
  refine Zab Tryz.func34 rfl Tryz.ntmps34 rfl ?_
  repeat (first|refine Yeb ?_|refine Yaf ?_|refine Yag ?_|refine Yat ?_|refine Ybj ?_|refine Yet ?_|refine Yeu ?_)
  exact ⟨by rw [decide_eq_false (fun h => hl (by rw [h]))],hS⟩
 refine Zab Tryz.func34 rfl Tryz.ntmps34 rfl ?_
 repeat (first|refine Yeb ?_|refine Yaf ?_|refine Yag ?_|refine Yat ?_|refine Ybc ?_|refine Yfa ?_|refine Yab ?_)
 refine Zaj (α := Nat) (fun i => [(0,.slice a p.length c),(1,.slice b q.length c'),(5,.int .i64 (i : Nat))])
  (fun i w => i ≤ p.length ∧ p.take i = q.take i ∧ St W noF [] w) (fun i => p.length - i) 0 ⟨rfl,rfl,rfl,trivial⟩ ⟨Nat.zero_le _,rfl,hS⟩ ?_
 clear hS;rintro i w ⟨hi,htk,hS⟩
 by_cases hlt : i < p.length
 case neg =>
  obtain rfl : i = p.length := by omega
  repeat (first|refine Yeb ?_|refine Yaf ?_|refine Yag ?_|refine Yat ?_|refine Yaz ?_|refine Yek ?_|refine Yfd ?_)
  refine ⟨?_,hS⟩
  rw [List.take_length,hl,List.take_length] at htk;simp [htk]
 have hlt2 : i < q.length := by omega
 have hx0 : p[i]? = some p[i] := List.getElem?_eq_getElem hlt
 have hy0 : q[i]? = some q[i] := List.getElem?_eq_getElem hlt2
 have t1 := List.take_succ_eq_append_getElem hlt
 have t2 := List.take_succ_eq_append_getElem hlt2
 generalize p[i] = x at hx0 t1;generalize q[i] = y at hy0 t2;have hx : (strV p)[i]? = some (.string (str x)) := by simp [strV,hx0]
 have hx2 : (strV q)[i]? = some (.string (str y)) := by simp [strV,hy0]
 have hr := ha.ro
 have hr2 := hb.ro
 obtain ⟨ab,ao,rfl⟩ := ha.base (by intro e; rw [e] at hx; simp at hx)
 obtain ⟨bb,bo,rfl⟩ := hb.base (by intro e; rw [e] at hx2; simp at hx2)
 clear ha hb;by_cases he : x = y
 ·subst he
  repeat (first|refine Yeb ?_|refine Yaf ?_|refine Yat ?_|refine Ya1 ?_|refine Yef ?_|refine Yab ?_)
  refine Zao (.s 0 (.s 1 (.s 2 (.s 3 (.s 4 (.s 5 (.s 6 (.s 7 (.s 8 .nil))))))))) mixed (by kernel_rfl) rfl ?_
  have hS := hS.drew
  repeat (first|refine Yab ?_|(refine Zaf ?_;first|refine Ya2 ?_|refine Ya6 ?_|refine Yca ?_|refine Ydk ?_|refine Yd9 ?_|refine Zai rfl rfl (fun _ => Zpn rfl rfl rfl) rfl rfl ?_))
  rw [show (decide (¬ x = x)) = false by simp]
  repeat (first|refine Yeb ?_|refine Yer ?_|refine Ye3 ?_|refine Yej ?_)
  refine Zae (i + 1) ⟨rfl,rfl,rfl,trivial⟩ ⟨by omega,?_,hS⟩ (by omega)
  rw [t1,t2,htk]
 ·skip
  repeat (first|refine Yeb ?_|refine Yaf ?_|refine Yat ?_|refine Ya1 ?_|refine Yef ?_|refine Yab ?_)
  refine Zao (.s 0 (.s 1 (.s 2 (.s 3 (.s 4 (.s 5 (.s 6 (.s 7 (.s 8 .nil))))))))) mixed (by kernel_rfl) rfl ?_
  have hS := hS.drew
  repeat (first|refine Yeb ?_|refine Yag ?_|refine Yet ?_|refine Yex ?_|(refine Zaf ?_;first|refine Ya2 ?_|refine Ya6 ?_|refine Yca ?_|refine Ydk ?_|refine Yd9 ?_|refine Zai rfl rfl (fun _ => Zuy rfl rfl rfl (by assumption)) rfl rfl ?_))
  refine ⟨?_,hS⟩
  rw [decide_eq_false (fun h => he (by rw [h,hy0] at hx0; injection hx0 with e; exact e.symm))]
end Cr
namespace Cr
open Go
set_option maxRecDepth 10000
set_option maxHeartbeats 64000000

theorem Z57 : ¬ ltS (pN 0) (pN 0) ∧ ¬ ltS (pN 1) (pN 0) ∧ ¬ ltS (pN 1) (pN 1) := by
 rw [Zr6 (i := 0) (by omega),Zr6 (i := 1) (by omega)]
 decide +kernel
theorem RevS.two {t u : Tn} {pack r c0 c1 : List UInt8} {n : Nat} (ht : TreeOk n t) (h : RevS t pack r [c0,c1]) (hg : goT t [varN,pack,r] = .ok u) : u.kids.map Tn.nm = [pN 0,pN 1] := by
 obtain ⟨u',hg',hu',hl,hun⟩ := h.dir
 rw [hg] at hg';injection hg' with e
 subst e
 have hrise := (ht.node u (Zcs hg)).rise
 match hk : u.kids,hl with
 | [x,y],_ =>
  rw [hk] at hun hrise;obtain ⟨i,hi,hx⟩ := hun x (by simp)
  obtain ⟨j,hj,hy⟩ := hun y (by simp)
  have hi : i < 2 := hi
  have hj : j < 2 := hj
  have hlt : ltS x.nm y.nm := (List.pairwise_cons.1 hrise).1 y (by simp)
  rw [hx,hy] at hlt;obtain ⟨p1,p2,p3⟩ := Z57
  have h01 : i = 0 ∧ j = 1 := by
   rcases (show i = 0 ∨ i = 1 by omega) with rfl | rfl <;> rcases (show j = 0 ∨ j = 1 by omega) with rfl | rfl
   ·exact absurd hlt p1
   ·exact ⟨rfl,rfl⟩
   ·exact absurd hlt p2
   ·exact absurd hlt p3
  rw [List.map_cons,List.map_cons,List.map_nil,hx,hy,h01.1,h01.2]
def Zmr : List UInt8 := [116,111,111,108]
theorem Zy2 : nameOk Zmr := by decide
theorem tool_right : RightA Zmr 1 := ⟨Zy2,by omega,by omega⟩
theorem rN_1 : rN 1 = [114,49] := by
 rw [rN,show (1 : Int) = ((1 : Nat) : Int) from rfl,Zbt,Lib.decDigits_one (by decide)]
 rfl
theorem Zxm : ∃ c0 c1,Zat (List.replicate 513 0) = [c0,c1] := by
 match h : Zat (List.replicate 513 0),(show (Zat (List.replicate 513 0)).length = 2 by rw [Zcw,List.length_replicate]; decide) with
 | [c0,c1],_ => exact ⟨c0,c1,rfl⟩
end Cr
namespace Cr
open Go Go.Proofs
set_option maxRecDepth 100000
set_option maxHeartbeats 64000000
attribute [local irreducible] Calls

theorem Zvh : TreeOk 80 t0 := t0_ok.more (by omega) (by omega)
theorem Zru {rd fs : List Int} {tp lp p j m n nb f : Nat} {b : Int} {T : Tb} {W : World} {F : Nat → Prop} (h : Ro W F (pts f (.cells (List.toArray [.pointer (some ⟨tp,0,none⟩),.int .i64 b]) 168 (0,0)))) (hI : Ro W F (itab rd fs tp lp p j m n nb T)) : TreeRo W F f tp n b (atT T) := ⟨h,Zic hI⟩
theorem Zz2 (rd fs : List Int) (W : World) (hG : Gl W noF rd fs) (hL : Lg W noF) : Calls Tryz.prog 9 #[] W (Ret fun v w => v = .bool true ∧ St W noF [] w) := by
 have hS := St.start W
 refine Zab Tryz.func9 rfl Tryz.ntmps9 rfl ?_
 repeat (first|refine Yeb ?_|refine Yag ?_|refine Yec ?_|refine Yab ?_)
 refine Zaa _ rfl rfl rfl rfl rfl (Zss rd fs _ (hG.mono fun _ hr => (hr.rd hS).ro) (hL.at_ hS)) ?_
 rintro _ w ⟨lp,tp,q,f,c,r,rfl,hS'⟩
 replace hS := hS.plus hS';clear hS';obtain ⟨F1,hS1,hro,hw1,hbk1⟩ := hS.call [true]
 have hT := Zru (hro (pts f (.cells (List.toArray [.pointer (some ⟨tp,0,none⟩),.int .i64 0]) 168 (0,0))) (by simp)) (hro (itab rd fs tp lp q 400 2 80 400 (Zby 80)) (by simp))
 have hL1 := hL.mono fun r hr => hw1 r hr
 clear hS hro;have hS : St w F1 [chR c f 0 (atT (Zby 80)) (Nt t0) []] w := hS1
 clear hS1;repeat (first|refine Yeb ?_|refine Ye5 ?_|refine Yec ?_|refine Yab ?_)
 refine Zny (c := 513) rfl rfl rfl (by omega) (by omega) rfl rfl hS (fun kb w hS => ?_)
 obtain ⟨bs,hbs⟩ : ∃ bs,bs = List.replicate 513 (0 : UInt8) := ⟨_,rfl⟩
 obtain ⟨c0,c1,hch⟩ := Zxm
 rw [← hbs] at hS hch;have hbl : bs.length = 513 := by rw [hbs,List.length_replicate]
 obtain ⟨k1,k2,k3⟩ := Zz5 tool_right (b := bs) (by omega)
 repeat (first|refine Yaa ?_)
 obtain ⟨_,hcc,hr1,hw,hbk⟩ := hS.call [false,true]
 have hby : Ro _ _ (bytes (some ⟨kb,0,none⟩) bs) := (hr1 _ (List.mem_cons_self ..)).mono fun h hh => ⟨h,Zgp h hh,fun _ _ e => e⟩
 have hkeep := Z6m Zvh Zmr 1 (some ⟨kb,0,none⟩) bs 513 (by omega) (by omega) _ _ (hT.mono hw) (hL1.mono hw) hby hcc
 rw [hbl] at hkeep;refine Zaa _ rfl rfl rfl rfl rfl hkeep ?_
 rintro _ w ⟨X1,hX1,rfl,hS⟩
 replace hS := hbk hS
 clear hbk hw hcc hr1 hby hkeep;rw [k1];generalize (Zff 80 t0 Zmr 1 bs).2 = t1 at k2 k3 hS;obtain ⟨u,hg,hu,_⟩ := k3.dir
 have hln : lstR t1 [varN,Zmr,rN 1] = (u.kids.map Tn.nm,0) := Zwk k2.ok tool_right.three hg hu
 have hnames : u.kids.map Tn.nm = [pN 0,pN 1] := by rw [hch] at k3; exact k3.two k2.ok hg
 rw [hnames,Zr6 (i := 0) (by omega),Zr6 (i := 1) (by omega)] at hln;repeat (first|refine Yeb ?_|refine Yeq ?_|refine Ybe (fun _ _ hS _ => ?_)|refine Yec ?_|refine Yab ?_)
 rw [rN_1] at hln;replace hS := hS.front (chR c f 0 (atT (Zby 80)) (Nt t1) X1)
 obtain ⟨_,hcc,hr1,hw,hbk⟩ := hS.call [true]
 refine Zaa _ rfl rfl rfl rfl rfl (Z3b k2.ok _ [varN,Zmr,[114,49]] 3 _ _ (hT.mono hw) (hL1.mono hw) (hr1 _ (List.mem_cons_self ..)).own_row (by simp) hcc) ?_
 rintro _ w ⟨X2,la,lq,hX2,rfl,_,hS⟩
 replace hS := hbk hS
 clear hbk hw hcc hr1;rw [hln] at hS ⊢;simp only at hS ⊢
 repeat (first|refine Yeb ?_|refine Ye5 ?_|refine Yec ?_|refine Yab ?_)
 replace hS := hS.front (chR c f 0 (atT (Zby 80)) (Nt t1) X2)
 obtain ⟨_,hcc,hr1,hw,hbk⟩ := hS.call [true]
 refine Zaa _ rfl rfl rfl rfl rfl (Z3e k2.ok Zmr 1 tool_right bs (by omega) k3 _ _ (hT.mono hw) (hL1.mono hw) hcc) ?_
 rintro _ w ⟨X3,ka,kq,hX3,rfl,hkq,hS⟩
 replace hS := hbk hS
 clear hbk hw hcc hr1;rw [hbl] at hkq ⊢;repeat (first|refine Yes ?_|(refine X_id ?_;first|refine Yaf ?_|refine Yag ?_|refine Ya0 ?_|refine Ya9 ?_|refine Ybg ?_|refine Ybe (fun _ _ hS _ => ?_))|refine Yec ?_|refine Yab ?_)
 refine Zaa _ rfl rfl rfl rfl rfl (Z51 la _ lq _ [[112,48],[112,49]] [[112,48],[112,49]] _ (hS.rd (r := own 9 1 la lq (strV [[112,48],[112,49]])) (by repeat (first|exact List.mem_cons_self ..|refine Yc9 ?_))).own_row (hS.rd (List.mem_cons_self ..)).own_row (by simp)) ?_
 rintro _ w ⟨rfl,hS'⟩
 replace hS := hS.plus hS';clear hS';rw [decide_eq_true rfl];repeat (first|refine Yes ?_|(refine X_id ?_;first|refine Yaf ?_|refine Yag ?_|refine Ya9 ?_|refine Yat ?_|refine Ybg ?_)|refine Yah ?_|refine Yed ?_)
 exact ⟨rfl,(hbk1 hS.drops).drops⟩
def u64 (x : Int) : Int := IntKind.u64.wrap x
section
variable {P : Program} {o : Oper} {σ : Env} {w : World} {x y : Operand} {t : TypeId} {N : Nat} {ds : Md} {K : Env → World → Prop}
theorem Z33 (n : Nat) {T bytes d : Nat} {k k' kk : IntKind} {l c : Int} {W : World} {F : Nat → Prop} {rs : List Res} (ho : o.op = .makeSlice t x y) (hx : ev σ x = some (.int k l)) (hy : ev σ y = some (.int k' c))
  [h : Und P t (.slice T)] [hi : Inf P T (.int kk 0) 1 bytes] (hl : l = n) (hc : c = n) (hb : bytes * n ≤ 281474976710656) (hm : n ≤ 9223372036854775807) (hd : o.dst = some d) (hN : Nat.blt d N = true) (hS : St W F rs w)
  (hk : ∀ b w',St W F (pts b (.cells (ints kk (List.replicate n 0)).toArray T) :: rs) w' → K ((d,.slice (some ⟨b,0,none⟩) n n) :: σ) w') : X P o N ds σ w K := by
 subst hl hc
 exact Zyc ho hx hy (by omega) (Int.le_refl _) (by rw [← Int.natCast_mul]; omega) (by omega) hd hN hS fun b w' hS' _ => hk b w' (by
  have e1 : (Value.int kk 0).cells = #[Value.int kk 0] := rfl
  rw [e1,Zhp,Int.toNat_natCast,Nat.mul_one,Zm6] at hS';exact hS')
end
section
variable {P : Program} {o : Oper} {σ : Env} {w : World} {x y : Operand} {t : TypeId} {N : Nat} {ds : Md} {K : Env → World → Prop}
theorem St.cellIA {W : World} {F : Nat → Prop} {rs : List Res} {b off j : Nat} {k : IntKind} {L : List Int} {T : TypeId} (hS : St W F rs w) [hh : Has rs b (.cells (ints k L).toArray T (0,0))] (h : off + j < L.length) : w.cell? (adr (some ⟨b,off,none⟩) j) = some (.int k (L.getD (off + j) 0)) := hS.cellI h
theorem Zpx {b off j : Nat} {k : IntKind} {n : Int} {L : List Int} {T : TypeId} {W : World} {F : Nat → Prop} {rs rs' : List Res} (ho : o.op = .store t x y) (hx : ev σ x = some (.pointer (some (adr (some ⟨b,off,none⟩) j)))) (hy : ev σ y = some (.int k n)) [hs : Siz P t 1]
  (hd : o.dst = none) (hS : St W F rs w) [hh : Has rs b (.cells (ints k L).toArray T (0,0))] (hfit : off + j < L.length) [hu : Upd rs b (.cells (ints k (L.set (off + j) n)).toArray T (0,0)) rs']
  (h : ∀ w',St W F rs' w' → K σ w') : X P o N ds σ w K := Ztg (off := off + j) ho hx hy hd hS hfit h
end
def Zge (a b : List Int) (i : Nat) (o : List Int) : Nat → List Int × Int
 | 0 => (o,0)
 | k + 1 =>
  let p := Zge a b i o k
  let n := u64 (u64 (p.1.getD (i + k) 0 + u64 (a.getD i 0 * b.getD k 0)) + p.2)
  (p.1.set (i + k) (n.tmod 65536),u64 (n.tdiv 65536))
def Zi0 (a b : List Int) : Nat → List Int
 | 0 => List.replicate (a.length + b.length) 0
 | i + 1 => (Zge a b i (Zi0 a b i) b.length).1.set (i + b.length) (Zge a b i (Zi0 a b i) b.length).2
def Ztz (a b : List Int) : List Int := Zi0 a b a.length
theorem Zdn (a b : List Int) (i : Nat) (o : List Int) : ∀ k,(Zge a b i o k).1.length = o.length
 | 0 => rfl
 | k + 1 => by simp [Zge,Zdn a b i o k]
theorem Zdm (a b : List Int) : ∀ i,(Zi0 a b i).length = a.length + b.length
 | 0 => by simp [Zi0]
 | i + 1 => by simp [Zi0,Zdn,Zdm a b i]
theorem Zi1 (a b : List Int) : (Ztz a b).length = a.length + b.length := Zdm a b _
theorem Zzl (ab bb : Nat) (ca cb : Nat) (a b : List Int) (W : World) (ha : Rd W (row (some ⟨ab,0,none⟩) (ints .u64 a))) (hb : Rd W (row (some ⟨bb,0,none⟩) (ints .u64 b))) (hla : a.length ≤ 1000) (hlb : b.length ≤ 1000) :
  Calls Tryz.prog 107 #[.slice (some ⟨ab,0,none⟩) a.length ca,.slice (some ⟨bb,0,none⟩) b.length cb] W (Ret fun v w => ∃ p,v = .slice (some ⟨p,0,none⟩) (Ztz a b).length (Ztz a b).length ∧ St W noF [row (some ⟨p,0,none⟩) (ints .u64 (Ztz a b))] w) := by
 have hS := St.start W
 have hg := ha.ro
 have hg2 := hb.ro
 have hlen := Zdm a b
 refine Zab Tryz.func107 rfl Tryz.ntmps107 rfl ?_
 repeat (first|refine Yeb ?_|refine Yaf ?_|refine Yag ?_|refine Yat ?_|refine Yaw ?_|refine Yec ?_|refine Yab ?_)
 refine Z33 (a.length + b.length) rfl rfl rfl (by omega) (by omega) (by omega) (by omega) rfl rfl hS (fun p w hS => ?_)
 repeat (first|refine Yeb ?_|refine Yag ?_|refine Yee ?_|refine Yab ?_)
 refine Zaj (α := Nat) (fun i => [(0,.slice (some ⟨ab,0,none⟩) a.length ca),(1,.slice (some ⟨bb,0,none⟩) b.length cb),(5,.slice (some ⟨p,0,none⟩) (a.length + b.length) (a.length + b.length)),(6,.int .i64 (i : Nat))])
  (fun i w => i ≤ a.length ∧ St W noF [pts p (.cells (ints .u64 (Zi0 a b i)).toArray 43)] w) (fun i => a.length - i) 0 ⟨rfl,rfl,rfl,rfl,trivial⟩ ⟨Nat.zero_le _,hS⟩ ?_
 clear hS;rintro i w ⟨hi,hS⟩
 have hlen := Zdm a b i
 obtain ⟨O,hO⟩ : ∃ O,O = Zi0 a b i := ⟨_,rfl⟩
 rw [← hO] at hS hlen;by_cases h1 : i < a.length
 ·repeat (first|refine Yeb ?_|refine Yaf ?_|refine Yag ?_|refine Yat ?_|refine Ya1 ?_|refine Yef ?_|refine Yab ?_)
  refine Zbq (α := Unit) (fun _ => [(0,.slice (some ⟨ab,0,none⟩) a.length ca),(1,.slice (some ⟨bb,0,none⟩) b.length cb),(5,.slice (some ⟨p,0,none⟩) (a.length + b.length) (a.length + b.length)),(6,.int .i64 (i : Nat)),(7,.int .u64 (Zge a b i O b.length).2)])
   (fun _ w => St W noF [pts p (.cells (ints .u64 (Zge a b i O b.length).1).toArray 43)] w) ?_ ?_
  ·refine Zaj (α := Nat) (fun k => [(0,.slice (some ⟨ab,0,none⟩) a.length ca),(1,.slice (some ⟨bb,0,none⟩) b.length cb),(5,.slice (some ⟨p,0,none⟩) (a.length + b.length) (a.length + b.length)),(6,.int .i64 (i : Nat)),(7,.int .u64 (Zge a b i O k).2),(8,.int .i64 (k : Nat))])
    (fun k w => k ≤ b.length ∧ St W noF [pts p (.cells (ints .u64 (Zge a b i O k).1).toArray 43)] w) (fun k => b.length - k) 0 ⟨rfl,rfl,rfl,rfl,rfl,rfl,trivial⟩ ⟨Nat.zero_le _,hS⟩ ?_
   clear hS;rintro k w ⟨hk,hS⟩
   have hpl := Zdn a b i O k
   obtain ⟨q,hq⟩ : ∃ q,q = Zge a b i O k := ⟨_,rfl⟩
   rw [← hq] at hS hpl ⊢;by_cases h2 : k < b.length
   ·repeat (first|refine Yeb ?_|refine Yaf ?_|refine Yat ?_|refine Ya1 ?_|refine Yef ?_|refine Yab ?_)
    refine Zao (.s 0 (.s 1 (.s 2 (.s 3 (.s 4 (.s 5 (.s 6 (.s 7 (.s 8 (.s 9 (.s 10 (.s 11 (.s 12 (.s 13 (.s 14 (.s 15 (.s 16 (.s 17 (.s 18 .nil))))))))))))))))))) mixed (by kernel_rfl) rfl ?_
    have hS := hS.drew
    repeat (first|refine Yeb ?_|(refine X_id ?_;first|refine Yaf ?_|refine Yag ?_|refine Ybd ?_|refine Yaw ?_|refine X_yl (Zxz rfl rfl rfl (by omega) rfl) rfl rfl ?_|refine Yc8 ?_|refine Zpx rfl rfl rfl rfl hS (by omega) (fun _ hS => ?_))|refine Yec ?_|refine Yej ?_|(refine Zaf ?_;first|refine Ya2 ?_|refine Ya6 ?_|refine Ybl ?_|refine Yca ?_|refine Ycl ?_|refine Ycf ?_|refine Zai rfl rfl (fun _ => Zpq rfl rfl rfl rfl) rfl rfl ?_|refine Yd5 ?_|refine Zbp (fun w' => w'.cell? _ = some _) rfl rfl ((hg2.rd hS).cellI (by omega)) (fun _ hc => Zau rfl rfl hc) rfl rfl ?_|refine Zbp (fun w' => w'.cell? _ = some _) rfl rfl (hS.cellIA (by omega)) (fun _ hc => Zau rfl rfl hc) rfl rfl ?_))
    rw [show 0 + ((i : Int) + (k : Int)).toNat * 1 = i + k by omega,show (i : Int).toNat * 1 = i by omega,show (k : Int).toNat * 1 = k by omega] at hS
    refine Zae (k + 1) ⟨rfl,rfl,rfl,rfl,?_,rfl,trivial⟩ ⟨by omega,?_⟩ (by omega)
    ·show some _ = some _
     rw [show 0 + ((i : Int) + (k : Int)).toNat * 1 = i + k by omega,show (i : Int).toNat * 1 = i by omega,show (k : Int).toNat * 1 = k by omega,hq]
     rfl
    ·rw [hq] at hS; exact hS
   ·obtain rfl : k = b.length := by omega
    repeat (first|refine Yeb ?_|refine Yaf ?_|refine Yat ?_|refine Yaz ?_|refine Yeo ?_|refine Yeh ?_)
    exact Zbw () ⟨rfl,rfl,rfl,rfl,by rw [hq]; rfl,trivial⟩ (by rw [← hq]; exact hS)
  ·clear hS
   rintro _ w hS
   have hpl := Zdn a b i O b.length
   repeat (first|refine Yeb ?_|(refine X_id ?_;first|refine Yaf ?_|refine Yag ?_|refine Yat ?_|refine Ybd ?_|refine Yaw ?_|refine Zpx rfl rfl rfl rfl hS (by omega) (fun _ hS => ?_))|refine Yad ?_|refine Yej ?_)
   rw [show 0 + ((i : Int) + (b.length : Int)).toNat * 1 = i + b.length by omega,hO] at hS
   exact Zae (i + 1) ⟨rfl,rfl,rfl,rfl,trivial⟩ ⟨by omega,hS⟩ (by omega)
 ·obtain rfl : i = a.length := by omega
  repeat (first|refine Yeb ?_|refine Yaf ?_|refine Yag ?_|refine Yat ?_|refine Yaz ?_|refine Yek ?_|refine Yfd ?_)
  refine ⟨p,?_,?_⟩
  ·rw [Zi1]
  ·rw [Ztz,← hO]; exact hS.head fun h hh => Zgp h hh

/-! ### digits,root -/
def digM (n : Int) : List Int := [n.tmod 65536,(u64 (n.tdiv 65536)).tmod 65536,(u64 ((u64 (n.tdiv 65536)).tdiv 65536)).tmod 65536]
theorem Zlq (n : Int) (W : World) : Calls Tryz.prog 106 #[.int .u64 n] W (Ret fun v w => ∃ p,v = .slice (some ⟨p,0,none⟩) 3 3 ∧ St W noF [row (some ⟨p,0,none⟩) (ints .u64 (digM n))] w) := by
 have hS := St.start W
 refine Zab Tryz.func106 rfl Tryz.ntmps106 rfl ?_
 repeat (first|refine Yeb ?_|(refine X_id ?_;first|refine Yaf ?_|refine Yag ?_|refine X_yl (Zxz rfl rfl rfl (by omega) rfl) rfl rfl ?_|refine Yc8 ?_|refine Ybe (fun _ _ hS _ => ?_))|refine Yep ?_|refine Yed ?_)
 exact ⟨_,rfl,(hS.pick [0]).head fun _ h => h.row⟩
def zTo (y : Int) : Nat → List Int
 | 0 => digM y
 | k + 1 => Ztz (zTo y k) (digM y)
theorem Zh8 (y : Int) : ∀ k,(zTo y k).length = 3 * (k + 1)
 | 0 => rfl
 | k + 1 => by rw [zTo,Zi1,Zh8 y k]; simp [digM]; omega
def Zie (z : List Int) (pw : Nat) : Nat → Int × Int
 | 0 => (0,0)
 | j + 1 =>
  let p := Zie z pw j
  let k := z.length - 1 - j
  if 2 * pw ≤ k then (u64 (u64 (65536 * p.1) + z.getD k 0),p.2) else (p.1,u64 (p.2 + z.getD k 0))
def lowM (prime : Int) (p : Int × Int) : Bool := decide (p.1 < prime) || (decide (p.1 = prime) && decide (p.2 = 0))
def Zj8 (prime : Int) (pw : Nat) : Nat → Int
 | 0 => 0
 | j + 1 =>
  let x := Zj8 prime pw j
  let y := u64 (x + ishl .u64 1 (36 - j))
  if lowM prime (Zie (zTo y (pw - 1)) pw (3 * pw)) then y else x
def Zar (prime : Int) (pw : Nat) : Int := IntKind.i64.wrap ((Zj8 prime pw 37).tmod 4294967296)
theorem Z2l (prime : Int) (pw : Nat) (W : World) (hpw : 1 ≤ pw) (hpw' : pw ≤ 3) : Calls Tryz.prog 55 #[.int .u64 prime,.int .i64 (pw : Nat)] W (Ret fun v w => v = .int .i64 (Zar prime pw) ∧ St W noF [] w) := by
 have hS := St.start W
 refine Zab Tryz.func55 rfl Tryz.ntmps55 rfl ?_
 repeat (first|refine Yeb ?_|refine Yag ?_|refine Yee ?_|refine Yab ?_)
 refine Zaj (α := Nat) (fun j => [(0,.int .u64 prime),(1,.int .i64 (pw : Nat)),(5,.int .u64 (Zj8 prime pw j)),(6,.int .i64 (36 - (j : Int)))])
  (fun j w => j ≤ 37 ∧ St W noF [] w) (fun j => 37 - j) 0 ⟨rfl,rfl,rfl,rfl,trivial⟩ ⟨Nat.zero_le _,hS⟩ ?_
 clear hS;rintro j w ⟨hj,hS⟩
 obtain ⟨x,hx⟩ : ∃ x,x = Zj8 prime pw j := ⟨_,rfl⟩
 rw [← hx];by_cases h1 : j < 37
 ·repeat (first|refine Yeb ?_|(refine X_id ?_;first|refine Yaf ?_|refine Yag ?_|refine Yb2 ?_|refine Ycc ?_|refine X_yl (Zxw rfl rfl rfl (by omega)) rfl rfl ?_)|refine Yef ?_|refine Yab ?_)
  obtain ⟨y,hy⟩ : ∃ y,y = u64 (x + ishl .u64 1 (36 - j)) := ⟨_,rfl⟩
  have hy' : IntKind.u64.wrap (x + ishl .u64 1 (36 - (j : Int)).toNat) = y := by rw [hy,show (36 - (j : Int)).toNat = 36 - j by omega]; rfl
  rw [hy'];refine Zaa _ rfl rfl rfl rfl rfl (Zlq y _) ?_
  rintro _ w ⟨q0,rfl,hS'⟩
  replace hS := hS.plus hS';clear hS';repeat (first|refine Yeb ?_|refine Yag ?_|refine Yee ?_|refine Yab ?_)
  refine Zbq (α := Nat × Nat) (fun z => [(0,.int .u64 prime),(1,.int .i64 (pw : Nat)),(5,.int .u64 x),(6,.int .i64 (36 - (j : Int))),(7,.int .u64 y),(8,.slice (some ⟨z.1,0,none⟩) (zTo y (pw - 1)).length z.2)])
   (fun z w => St W noF [row (some ⟨z.1,0,none⟩) (ints .u64 (zTo y (pw - 1)))] w) ?_ ?_
  ·refine Zaj (α := Nat × Nat × Nat) (fun z => [(0,.int .u64 prime),(1,.int .i64 (pw : Nat)),(5,.int .u64 x),(6,.int .i64 (36 - (j : Int))),(7,.int .u64 y),(8,.slice (some ⟨z.2.1,0,none⟩) (zTo y z.1).length z.2.2),(9,.int .i64 ((z.1 : Int) + 1))])
    (fun z w => z.1 + 1 ≤ pw ∧ St W noF [row (some ⟨z.2.1,0,none⟩) (ints .u64 (zTo y z.1))] w) (fun z => pw - z.1) (0,q0,3) ⟨rfl,rfl,rfl,rfl,rfl,rfl,rfl,trivial⟩ ⟨hpw,hS⟩ ?_
   clear hS;rintro ⟨k,q,c⟩ w ⟨hk,hS⟩
   simp only at hk hS ⊢
   have hzl := Zh8 y k
   by_cases h2 : k + 1 < pw
   ·repeat (first|refine Yeb ?_|refine Yaf ?_|refine Ya1 ?_|refine Yef ?_|refine Yab ?_)
    refine Zaa _ rfl rfl rfl rfl rfl (Zlq y _) ?_
    rintro _ w ⟨q1,rfl,hS'⟩
    replace hS := hS.plus hS';clear hS';refine Ze9 rfl rfl ?_
    refine Zaa _ rfl rfl rfl rfl rfl (Zzl q q1 c 3 (zTo y k) (digM y) _ (hS.rd (by simp)) (hS.rd (by simp)) (by omega) (by simp [digM])) ?_
    rintro _ w ⟨q2,rfl,hS'⟩
    replace hS := hS.plus hS';clear hS';repeat (first|refine Yeb ?_|refine Yer ?_|refine Yad ?_|refine Yej ?_)
    exact Zae (z := (k,q,c)) (k + 1,q2,(zTo y (k + 1)).length) ⟨rfl,rfl,rfl,rfl,rfl,rfl,rfl,trivial⟩ ⟨by simp only; omega,hS.pick [0]⟩ (by simp only; omega)
   ·obtain rfl : k = pw - 1 := by omega
    repeat (first|refine Yeb ?_|refine Yaf ?_|refine Yaz ?_|refine Yeo ?_|refine Yeh ?_)
    exact Zbw (q,c) ⟨rfl,rfl,rfl,rfl,rfl,rfl,trivial⟩ hS
  ·clear hS
   rintro ⟨q,c⟩ w hS
   simp only at hS ⊢
   obtain ⟨z,hz⟩ : ∃ z,z = zTo y (pw - 1) := ⟨_,rfl⟩
   have hzl : z.length = 3 * pw := by rw [hz,Zh8]; omega
   rw [← hz] at hS ⊢;repeat (first|refine Yeb ?_|refine Yaf ?_|refine Yag ?_|refine Yat ?_|refine Ybv ?_|refine Yee ?_|refine Yab ?_)
   obtain ⟨s,hs⟩ : ∃ s,s = Zie z pw (3 * pw) := ⟨_,rfl⟩
   refine Zbq (α := Unit) (fun _ => [(0,.int .u64 prime),(1,.int .i64 (pw : Nat)),(5,.int .u64 x),(6,.int .i64 (36 - (j : Int))),(7,.int .u64 y),(10,.int .u64 s.1),(11,.int .u64 s.2)])
    (fun _ w => St W noF [] w) ?_ ?_
   ·obtain ⟨F2,hS2,hro,_,hbk⟩ := hS.call []
    clear hS;have hS := hS2
    clear hS2;have hg := hro (row (some ⟨q,0,none⟩) (ints .u64 z)) (by simp)
    refine Zaj (α := Nat) (fun m => [(0,.int .u64 prime),(1,.int .i64 (pw : Nat)),(5,.int .u64 x),(6,.int .i64 (36 - (j : Int))),(7,.int .u64 y),(8,.slice (some ⟨q,0,none⟩) z.length c),(10,.int .u64 (Zie z pw m).1),(11,.int .u64 (Zie z pw m).2),(12,.int .i64 ((z.length : Int) - 1 - (m : Int)))])
     (fun m w' => m ≤ 3 * pw ∧ St w F2 [] w') (fun m => 3 * pw - m) 0 ⟨rfl,rfl,rfl,rfl,rfl,rfl,rfl,rfl,by show some _ = some _; simp,trivial⟩ ⟨Nat.zero_le _,hS⟩ ?_
    clear hS;rintro m w2 ⟨hm,hS⟩
    by_cases h2 : m < 3 * pw
    ·have ek : ((z.length : Int) - 1 - (m : Int)).toNat * 1 = z.length - 1 - m := by omega
     by_cases h3 : 2 * (pw : Int) ≤ (z.length : Int) - 1 - (m : Int)
     ·have e : Zie z pw (m + 1) = (u64 (u64 (65536 * (Zie z pw m).1) + z.getD (z.length - 1 - m) 0),(Zie z pw m).2) := by rw [Zie]; exact if_pos (by omega)
      repeat (first|refine Yeb ?_|(refine X_id ?_;first|refine Yaf ?_|refine Yag ?_|refine Yb2 ?_|refine Ybd ?_|refine Ybv ?_|refine Yb1 ?_|refine Ycc ?_|refine X_yl (Zpq rfl rfl rfl rfl) rfl rfl ?_|refine Ydq ?_)|refine Yef ?_|refine Yej ?_)
      refine Zae (m + 1) ⟨rfl,rfl,rfl,rfl,rfl,rfl,?_,?_,?_,trivial⟩ ⟨by omega,hS⟩ (by omega)
      ·rw [e]; show some _ = some _; rw [ek]; rfl
      ·rw [e]; rfl
      ·show some _ = some _; congr 2; omega
     ·have e : Zie z pw (m + 1) = ((Zie z pw m).1,u64 ((Zie z pw m).2 + z.getD (z.length - 1 - m) 0)) := by rw [Zie]; exact if_neg (by omega)
      repeat (first|refine Yeb ?_|(refine X_id ?_;first|refine Yaf ?_|refine Yag ?_|refine Yb2 ?_|refine Yb6 ?_|refine Ybd ?_|refine Ybv ?_|refine Yb1 ?_|refine Ycc ?_|refine Ydq ?_)|refine Yei ?_|refine Yej ?_)
      refine Zae (m + 1) ⟨rfl,rfl,rfl,rfl,rfl,rfl,?_,?_,?_,trivial⟩ ⟨by omega,hS⟩ (by omega)
      ·rw [e]; rfl
      ·rw [e]; show some _ = some _; rw [ek]; rfl
      ·show some _ = some _; congr 2; omega
    ·obtain rfl : m = 3 * pw := by omega
     repeat (first|refine Yeb ?_|refine Yaf ?_|refine Yb6 ?_|refine Yeo ?_|refine Yeh ?_)
     exact Zbw () ⟨rfl,rfl,rfl,rfl,rfl,by rw [hs]; rfl,by rw [hs]; rfl,trivial⟩ (hbk hS).drops
   ·clear hS
    rintro _ w hS
    have e : Zj8 prime pw (j + 1) = if lowM prime s then y else x := by rw [Zj8,← hx,← hy,← hz,← hs]
    have key : ∀ b : Bool,lowM prime s = b → Zj8 prime pw (j + 1) = if b then y else x := fun b hb => by rw [e,hb]
    by_cases c1 : s.1 < prime
    ·have e2 := key true (by simp [lowM,c1])
     repeat (first|refine Yac ?_|refine Yaa ?_|refine Ybf ?_|refine Yc1 ?_|(refine X_id ?_;first|refine Yaf ?_|refine Yag ?_|refine Ya9 ?_|refine Ya1 ?_|refine Ybv ?_)|refine Yem ?_|refine Yej ?_)
     exact Zae (j + 1) ⟨rfl,rfl,by rw [e2]; rfl,by show some _ = some _; congr 2; omega,trivial⟩ ⟨by omega,hS⟩ (by omega)
    ·by_cases c2 : s.1 = prime
     ·by_cases c3 : s.2 = 0
      ·have e2 := key true (by simp [lowM,c2,c3])
       repeat (first|refine Yes ?_|(refine X_id ?_;first|refine Yaf ?_|refine Yag ?_|refine Ya9 ?_|refine Ya7 ?_|refine Ybg ?_|refine Yaz ?_|refine Ybv ?_)|refine Yem ?_|refine Yej ?_)
       exact Zae (j + 1) ⟨rfl,rfl,by rw [e2]; rfl,by show some _ = some _; congr 2; omega,trivial⟩ ⟨by omega,hS⟩ (by omega)
      ·have e2 := key false (by simp [lowM,c2,c3])
       repeat (first|refine Yes ?_|(refine X_id ?_;first|refine Yaf ?_|refine Yag ?_|refine Ya9 ?_|refine Ya7 ?_|refine Ybg ?_|refine Ybh ?_|refine Yaz ?_|refine Ybv ?_)|refine Yen ?_|refine Yej ?_)
       exact Zae (j + 1) ⟨rfl,rfl,by rw [e2]; rfl,by show some _ = some _; congr 2; omega,trivial⟩ ⟨by omega,hS⟩ (by omega)
     ·have e2 := key false (by simp [lowM,c1,c2])
      repeat (first|refine Yfb ?_|(refine X_id ?_;first|refine Yaf ?_|refine Yag ?_|refine Ya7 ?_|refine Ybh ?_|refine Yaz ?_|refine Ybv ?_)|refine Yen ?_|refine Yej ?_)
      exact Zae (j + 1) ⟨rfl,rfl,by rw [e2]; rfl,by show some _ = some _; congr 2; omega,trivial⟩ ⟨by omega,hS⟩ (by omega)
 ·obtain rfl : j = 37 := by omega
  repeat (first|refine Yeb ?_|(refine X_id ?_;first|refine Yaf ?_|refine Yag ?_|refine Yb6 ?_|refine Yc0 ?_|refine Yc8 ?_)|refine Yek ?_|refine Yfd ?_)
  exact ⟨by rw [Zar,← hx],hS⟩
def Zer (p : Nat) : Nat → Nat
 | 0 => 0
 | q + 1 => Zer p q + (if p % (q + 1) = 0 then 1 else 0)
def nTo : Nat → Nat
 | 0 => 0
 | m + 1 => nTo m + (if Zer (2 + m) (2 + m) = 2 then 1 else 0)
def Zd7 : Nat → List Int
 | 0 => List.replicate 72 0
 | m + 1 =>
  if Zer (2 + m) (2 + m) = 2 then (if nTo m < 8 then (Zd7 m).set (nTo m) (Zar ((2 + m : Nat) : Int) 2) else Zd7 m).set (8 + nTo m) (Zar ((2 + m : Nat) : Int) 3) else Zd7 m
theorem Zc4 : ∀ m,(Zd7 m).length = 72
 | 0 => rfl
 | m + 1 => by
  unfold Zd7
  split
  ·rw [List.length_set]; split
   ·rw [List.length_set]; exact Zc4 m
   ·exact Zc4 m
  ·exact Zc4 m
theorem Zzu : ∀ {a b : Nat},a ≤ b → nTo a ≤ nTo b := fun {a b} h => by
 induction h with
 | refl => exact Nat.le_refl _
 | step _ ih => exact Nat.le_trans ih (by simp only [nTo]; omega)
theorem Z26 : nTo 309 = 63 := by kernel_rfl
theorem Z25 : nTo 310 = 64 := by kernel_rfl
theorem Z8w (W : World) : Calls Tryz.prog 21 #[] W (Ret fun v w => v = .agg (ints .i64 (Zd7 310)).toArray ∧ St W noF [] w) := by
 have hS := St.start W
 refine Zab Tryz.func21 rfl Tryz.ntmps21 rfl ?_
 repeat (first|refine Yeb ?_|refine Yag ?_|refine Yar (fun _ _ hS _ => ?_)|refine Yee ?_|refine Yab ?_)
 rename_i b0 _ _ _ b1 _ _;replace hS : St W noF [pts b1 (.cells (ints .i64 (Zd7 0)).toArray 60),pts b0 (.cells (List.replicate 72 (.int .i64 0)).toArray 60)] _ := hS
 refine Zaj (α := Nat) (fun m => [(0,.pointer (some ⟨b0,0,none⟩)),(1,.pointer (some ⟨b1,0,none⟩)),(2,.int .i64 (nTo m : Nat)),(3,.int .u64 ((2 + m : Nat) : Int))])
  (fun m w => m ≤ 310 ∧ St W noF [pts b1 (.cells (ints .i64 (Zd7 m)).toArray 60),pts b0 (.cells (List.replicate 72 (.int .i64 0)).toArray 60)] w) (fun m => 310 - m) 0 ⟨rfl,rfl,rfl,rfl,trivial⟩ ⟨Nat.zero_le _,hS⟩ ?_
 clear hS;rintro m w ⟨hm,hS⟩
 have htl := Zc4 m
 by_cases h1 : m < 310
 ·have hn : nTo m < 64 := by have := Zzu (show m ≤ 309 by omega); rw [Z26] at this; omega
  obtain ⟨n,hne⟩ : ∃ n,n = nTo m := ⟨_,rfl⟩
  obtain ⟨T,hT⟩ : ∃ T,T = Zd7 m := ⟨_,rfl⟩
  obtain ⟨p,hp⟩ : ∃ p : Nat,p = 2 + m := ⟨_,rfl⟩
  have hs1 : nTo (m + 1) = n + (if Zer p p = 2 then 1 else 0) := by rw [nTo,← hne,← hp]
  have hs2 : Zd7 (m + 1) = if Zer p p = 2 then (if n < 8 then T.set n (Zar (p : Int) 2) else T).set (8 + n) (Zar (p : Int) 3) else T := by rw [Zd7,← hne,← hp,← hT]
  have hp1 : 2 + (m + 1) = p + 1 := by omega
  rw [← hne] at hn;rw [← hT] at hS htl;rw [← hne,← hp];repeat (first|refine Yeb ?_|refine Yaf ?_|refine Yag ?_|refine Ya1 ?_|refine Yef ?_|refine Yab ?_)
  refine Zbq (α := Unit) (fun _ => [(0,.pointer (some ⟨b0,0,none⟩)),(1,.pointer (some ⟨b1,0,none⟩)),(2,.int .i64 (n : Nat)),(3,.int .u64 (p : Int)),(4,.int .i64 (Zer p p : Nat))])
   (fun _ w => St W noF [pts b1 (.cells (ints .i64 T).toArray 60),pts b0 (.cells (List.replicate 72 (.int .i64 0)).toArray 60)] w) ?_ ?_
  ·refine Zaj (α := Nat) (fun q => [(0,.pointer (some ⟨b0,0,none⟩)),(1,.pointer (some ⟨b1,0,none⟩)),(2,.int .i64 (n : Nat)),(3,.int .u64 (p : Int)),(4,.int .i64 (Zer p q : Nat)),(5,.int .u64 ((q + 1 : Nat) : Int))])
    (fun q w => q ≤ p ∧ Zer p q ≤ q ∧ St W noF [pts b1 (.cells (ints .i64 T).toArray 60),pts b0 (.cells (List.replicate 72 (.int .i64 0)).toArray 60)] w) (fun q => p - q) 0 ⟨rfl,rfl,rfl,rfl,rfl,rfl,trivial⟩ ⟨Nat.zero_le _,Nat.le_refl _,hS⟩ ?_
   clear hS;rintro q w ⟨hq,hd,hS⟩
   have hw : IntKind.u64.wrap (((q + 1 : Nat) : Int) + 1) = ((q + 1 + 1 : Nat) : Int) := by simp only [IntKind.wrap,IntKind.bits,IntKind.signed]; simp; omega
   by_cases h2 : q < p
   ·have hmod : (p : Int) % ((q + 1 : Nat) : Int) = ((p % (q + 1) : Nat) : Int) := (Int.natCast_emod _ _).symm
    obtain ⟨r,hr⟩ : ∃ r,r = p % (q + 1) := ⟨_,rfl⟩
    by_cases h3 : r = 0
    ·have e : Zer p (q + 1) = Zer p q + 1 := by rw [Zer,if_pos (by rw [← hr]; exact h3)]
     have hmod0 : (p : Int) % ((q + 1 : Nat) : Int) = 0 := by rw [hmod,← hr,h3]; rfl
     repeat (first|refine Yeb ?_|(refine X_id ?_;first|refine Yaf ?_|refine Yag ?_|refine Ybg ?_|refine Ydc ?_|refine Yaw ?_|refine Ycc ?_|refine Yb8 ?_)|refine Yef ?_|refine Yej ?_)
     refine Zae (q + 1) ⟨rfl,rfl,rfl,rfl,by rw [e]; rfl,by show some _ = some _; rw [← hw],trivial⟩ ⟨h2,by omega,hS⟩ (by omega)
    ·have e : Zer p (q + 1) = Zer p q := by rw [Zer,if_neg (by rw [← hr]; exact h3)]; rfl
     have hmod0 : ¬ (p : Int) % ((q + 1 : Nat) : Int) = 0 := by rw [hmod,← hr]; omega
     repeat (first|refine Yeb ?_|(refine X_id ?_;first|refine Yaf ?_|refine Yag ?_|refine Ybh ?_|refine Ydc ?_|refine Ycc ?_|refine Yb8 ?_)|refine Yei ?_|refine Yej ?_)
     refine Zae (q + 1) ⟨rfl,rfl,rfl,rfl,by rw [e]; rfl,by show some _ = some _; rw [← hw],trivial⟩ ⟨h2,by omega,hS⟩ (by omega)
   ·obtain rfl : q = p := by omega
    repeat (first|refine Yeb ?_|refine Yaf ?_|refine Ydt ?_|refine Yeo ?_|refine Yeh ?_)
    exact Zbw () ⟨rfl,rfl,rfl,rfl,rfl,trivial⟩ hS
  ·clear hS
   rintro _ w hS
   have hw : IntKind.u64.wrap ((p : Int) + 1) = ((2 + (m + 1) : Nat) : Int) := by simp only [IntKind.wrap,IntKind.bits,IntKind.signed]; simp; omega
   obtain ⟨dv,hdv⟩ : ∃ dv,dv = Zer p p := ⟨_,rfl⟩
   rw [← hdv] at hs1 hs2 ⊢;by_cases h3 : dv = 2
   ·rw [if_pos h3] at hs1 hs2
    by_cases h4 : n < 8
    ·rw [if_pos h4] at hs2
     repeat (first|refine Yeb ?_|refine Yaf ?_|refine Ybc ?_|refine Ya1 ?_|refine Yfi ?_|refine Yab ?_)
     refine Zac _ rfl rfl rfl rfl rfl hS (Z2l (p : Int) 2 _ (by omega) (by omega)) ?_
     rintro _ w rfl hS
     repeat (first|refine Yeb ?_|refine Yaf ?_|refine Yan ?_|refine Ycj ?_|refine Yck (fun _ hS => ?_)|refine Yec ?_|refine Yab ?_)
     rw [show (0 : Nat) + (n : Int).toNat * 1 = n by omega] at hS
     obtain ⟨T2,hT2⟩ : ∃ T2,T2 = T.set n (Zar (p : Int) 2) := ⟨_,rfl⟩
     have htl : T2.length = 72 := by rw [hT2]; simpa using htl
     rw [← hT2] at hS hs2;refine Zac _ rfl rfl rfl rfl rfl hS (Z2l (p : Int) 3 _ (by omega) (by omega)) ?_
     rintro _ w rfl hS
     repeat (first|refine Yeb ?_|(refine X_id ?_;first|refine Yaf ?_|refine Yag ?_|refine Yan ?_|refine Ycj ?_|refine Yaw ?_|refine Ycc ?_|refine Yck (fun _ hS => ?_))|refine Yad ?_|refine Yej ?_)
     rw [show (0 : Nat) + 8 + (n : Int).toNat * 1 = 8 + n by omega] at hS
     exact Zae (m + 1) ⟨rfl,rfl,by rw [hs1]; rfl,by show some _ = some _; rw [← hw],trivial⟩ ⟨h1,by rw [hs2]; exact hS⟩ (by omega)
    ·rw [if_neg h4] at hs2
     repeat (first|refine Yeb ?_|refine Yaf ?_|refine Ybc ?_|refine Yaz ?_|refine Yen ?_|refine Yab ?_)
     refine Zac _ rfl rfl rfl rfl rfl hS (Z2l (p : Int) 3 _ (by omega) (by omega)) ?_
     rintro _ w rfl hS
     repeat (first|refine Yeb ?_|(refine X_id ?_;first|refine Yaf ?_|refine Yag ?_|refine Yan ?_|refine Ycj ?_|refine Yaw ?_|refine Ycc ?_|refine Yck (fun _ hS => ?_))|refine Yad ?_|refine Yej ?_)
     rw [show (0 : Nat) + 8 + (n : Int).toNat * 1 = 8 + n by omega] at hS
     exact Zae (m + 1) ⟨rfl,rfl,by rw [hs1]; rfl,by show some _ = some _; rw [← hw],trivial⟩ ⟨h1,by rw [hs2]; exact hS⟩ (by omega)
   ·rw [if_neg h3] at hs1 hs2
    repeat (first|refine Yeb ?_|refine Yaf ?_|refine Yag ?_|refine Ybj ?_|refine Ycc ?_|refine Yae ?_|refine Yad ?_|refine Ya3 ?_|refine Yaj ?_|refine Yeh ?_)
    exact Zae (m + 1) ⟨rfl,rfl,by rw [hs1]; rfl,by show some _ = some _; rw [← hw],trivial⟩ ⟨h1,by rw [hs2]; exact hS⟩ (by omega)
 ·obtain rfl : m = 310 := by omega
  have h64 := Z25
  have hl72 : LenO (ints .i64 (Zd7 310)) 72 := ⟨by rw [ints_length]; exact Zc4 310⟩
  repeat (first|refine Yeb ?_|refine Yaf ?_|refine Yaz ?_|refine Ybi ?_|refine Yao (fun _ hS _ => ?_)|refine Yek ?_|refine Yel ?_)
  exact ⟨rfl,hS.drops⟩
end Cr
namespace Cr
open Go
set_option maxHeartbeats 64000000
def Zmq (x : Int) (n : Nat) : Int := IntKind.i64.wrap (ishr .i64 x n + ishl .i64 (x.tmod (ishl .i64 1 n)) (32 - n))
theorem Zsl : ∀ n,n ≤ 32 → ishl .i64 1 n = 2 ^ n := by
 intro n hn
 unfold ishl
 have e : (2 : Int) ^ n = ((2 ^ n : Nat) : Int) := by push_cast; rfl
 have : 2 ^ n ≤ 2 ^ 32 := Nat.pow_le_pow_right (by omega) hn
 rw [show min n IntKind.i64.bits = n from Nat.min_eq_left (Nat.le_trans hn (by decide)),Int.one_mul,e];generalize 2 ^ n = m at this ⊢;rw [IntKind.wrap_i64]; omega
abbrev iw (x : Int) : Int := IntKind.i64.wrap x
def w16 (b : List UInt8) (i : Nat) : Int :=
 iw (iw (iw (ishl .i64 (iw (b.getD (4 * i) 0).toNat) 24 + ishl .i64 (iw (b.getD (4 * i + 1) 0).toNat) 16) + ishl .i64 (iw (b.getD (4 * i + 2) 0).toNat) 8) + iw (b.getD (4 * i + 3) 0).toNat)
def sigI (x : Int) (p q r : Nat) : Int := ixor .i64 (ixor .i64 (Zmq x p) (Zmq x q)) (ishr .i64 x r)
def Z1d (L : List Int) (i : Nat) : Int := (iw (iw (iw (L.getD (i - 16) 0 + sigI (L.getD (i - 15) 0) 7 18 3) + L.getD (i - 7) 0) + sigI (L.getD (i - 2) 0) 17 19 10)).tmod 4294967296
def Zb0 (b : List UInt8) : Nat → List Int
 | 0 => List.replicate 64 0
 | i + 1 => (Zb0 b i).set i (if i < 16 then w16 b i else Z1d (Zb0 b i) i)
theorem Zec (b : List UInt8) : ∀ i,(Zb0 b i).length = 64
 | 0 => by simp [Zb0]
 | i + 1 => by simp [Zb0,Zec b i]
structure E8 where
 a : Int
 b : Int
 c : Int
 d : Int
 e : Int
 f : Int
 g : Int
 h : Int
def Zts (x : Int) (p q r : Nat) : Int := ixor .i64 (ixor .i64 (Zmq x p) (Zmq x q)) (Zmq x r)
def Z2d (T X : List Int) (i : Nat) (s : E8) : Int := iw (iw (iw (iw (s.h + Zts s.e 6 11 25) + iw (iand .i64 s.e s.f + iand .i64 (iw (4294967295 - s.e)) s.g)) + T.getD (8 + i) 0) + X.getD i 0)
def Z4j (s : E8) : Int := iw (Zts s.a 2 13 22 + ior .i64 (ior .i64 (iand .i64 s.a s.b) (iand .i64 s.a s.c)) (iand .i64 s.b s.c))
def Zmp (T X : List Int) (i : Nat) (s : E8) : E8 := ⟨(iw (Z2d T X i s + Z4j s)).tmod 4294967296,s.a,s.b,s.c,(iw (s.d + Z2d T X i s)).tmod 4294967296,s.e,s.f,s.g⟩
def E8.list (s : E8) : List Int := [s.a,s.b,s.c,s.d,s.e,s.f,s.g,s.h]
def sumI (L H : List Int) : Nat → List Int
 | 0 => L
 | i + 1 => (sumI L H i).set i ((iw ((sumI L H i).getD i 0 + H.getD i 0)).tmod 4294967296)
theorem Zj1 (L H : List Int) : ∀ i,(sumI L H i).length = L.length
 | 0 => rfl
 | i + 1 => by simp [sumI,Zj1 L H i]
def Zbx (T X H : List Int) : Nat → E8
 | 0 => ⟨H.getD 0 0,H.getD 1 0,H.getD 2 0,H.getD 3 0,H.getD 4 0,H.getD 5 0,H.getD 6 0,H.getD 7 0⟩
 | i + 1 => Zmp T X i (Zbx T X H i)
def Zy1 (T H : List Int) (b : List UInt8) : List Int := sumI (Zbx T (Zb0 b 64) H 64).list H 8
end Cr
