/-
  Package apply: where an archive is kept,a part's path,the way to a path.
  Package apply in plain words: a directory of files is cleared.
  Package apply in plain words: an archive is forgotten.
  Package apply in plain words: what an archive's parts say; nothing is left behind the last one.
  Package apply: Keep.
  Package apply: Kept.
  Package apply in plain words: some archives are forgotten,one behind the other.
  The library's slices.Concat of strings; what stands in a directory of files,as entries (package apply: Entries).
  Package apply: Entries of a directory of files.
  Package apply: Entries.
  A region that draws its order,inside a round of a range over a function: walked in one order of ours,too.
  Package apply: Clear of a directory of files.
  Package apply: Forget.
-/
import Derived.Test.YtjpjbgkjfdhjjaaGreatDoorAks13
import Derived.Test.YtjpjbgkjfdhjjaaGreatDoorAks11
import Derived.Test.YtjpjbgkjfdhjjaaGreatDoorAks10
import Derived.Test.YtjpjbgkjfdhjjaaGreatDoorAks1
import Derived.OrdersIn
import Derived.Test.YtjpjbgkjfdhjjaaGreatDoorAks3
namespace Cr
open Go Go.Proofs
set_option maxRecDepth 100000
set_option maxHeartbeats 64000000
attribute [local irreducible] Calls

theorem Z17 (W : World) : Calls Tryz.prog 74 #[] W (Ret fun v w => v = .agg (List.toArray [.int .i64 1,.int .i64 493,.int .i64 0,.int .i64 0,.slice none 0 0]) ∧ St W noF [] w) := by
 have hS := St.start W
 refine Zab Tryz.func74 rfl Tryz.ntmps74 rfl ?_
 repeat (first|refine Yd1 ?_|refine Ybo ?_|refine Yao (fun _ hS _ => ?_)|refine Yas (fun _ _ hS _ => ?_)|refine Yee ?_|refine Yab ?_|refine Ybx ?_)
 exact ⟨rfl,hS.drops⟩
def Za9 (pack : List UInt8) (no : Int) : Int := if ¬ nameOk pack then 10 else if no < 1 ∨ 999999 < no then 1 else 0
theorem Zla (c : Nat) (pack : List UInt8) (no : Int) (W : World) (hG : Lg W noF) :
  Calls Tryz.prog 29 #[.pointer (some ⟨c,0,none⟩),.string (str pack),.int .i64 no] W (Ret fun v w => (Za9 pack no ≠ 0 ∧ v = .tuple #[.slice none 0 0,.int .i64 (Za9 pack no)] ∧ St W noF [] w) ∨
   (RightA pack no ∧ ∃ b,v = .tuple #[.slice (some ⟨b,0,none⟩) 3 3,.int .i64 0] ∧ St W noF [own 9 1 (some ⟨b,0,none⟩) 3 (strV [varN,pack,rN no])] w)) := by
 have hS := St.start W
 have hN := fun W => Z3g pack W
 by_cases h1 : nameOk pack
 case neg =>
  simp only [decide_eq_false h1] at hN
  rw [show Za9 pack no = 10 from if_pos h1];refine Zab Tryz.func29 rfl Tryz.ntmps29 rfl ?_
  repeat (first|refine Yd1 ?_|refine Ye6 ?_|refine Yen ?_|refine Yab ?_)
  refine Zaa _ rfl rfl rfl rfl rfl (hN _) ?_
  rintro _ w ⟨rfl,hS'⟩
  replace hS := hS.plus hS';clear hS';repeat (first|refine Yd1 ?_|refine Yag ?_|refine Ybn ?_|refine Yei ?_|refine Ye7 ?_)
  exact .inl ⟨by decide,rfl,hS⟩
 simp only [decide_eq_true h1] at hN
 by_cases h2 : no < 1
 ·rw [show Za9 pack no = 1 by unfold Za9; rw [if_neg (fun e => e h1),if_pos (.inl h2)]]
  refine Zab Tryz.func29 rfl Tryz.ntmps29 rfl ?_
  repeat (first|refine Yd1 ?_|refine Ye6 ?_|refine Yen ?_|refine Yab ?_)
  refine Zaa _ rfl rfl rfl rfl rfl (hN _) ?_
  rintro _ w ⟨rfl,hS'⟩
  replace hS := hS.plus hS';clear hS';repeat (first|refine Yek ?_|(refine X_id ?_;first|refine Yaf ?_|refine Yag ?_|refine Yba ?_|refine Ybb ?_|refine Ya0 ?_)|refine Ye8 ?_|refine Ye7 ?_)
  exact .inl ⟨by decide,rfl,hS⟩
 by_cases h3 : 999999 < no
 ·rw [show Za9 pack no = 1 by unfold Za9; rw [if_neg (fun e => e h1),if_pos (.inr h3)]]
  refine Zab Tryz.func29 rfl Tryz.ntmps29 rfl ?_
  repeat (first|refine Yd1 ?_|refine Ye6 ?_|refine Yen ?_|refine Yab ?_)
  refine Zaa _ rfl rfl rfl rfl rfl (hN _) ?_
  rintro _ w ⟨rfl,hS'⟩
  replace hS := hS.plus hS';clear hS';repeat (first|refine Yeh ?_|(refine X_id ?_;first|refine Yaf ?_|refine Yag ?_|refine Ya3 ?_|refine Ybb ?_|refine Ya1 ?_|refine Ybv ?_)|refine Ye8 ?_|refine Ye7 ?_)
  exact .inl ⟨by decide,rfl,hS⟩
 have hi7 := Zc3 (n := no) (by omega) (by omega)
 refine Zab Tryz.func29 rfl Tryz.ntmps29 rfl ?_
 repeat (first|refine Yd1 ?_|refine Ye6 ?_|refine Yen ?_|refine Yab ?_)
 refine Zaa _ rfl rfl rfl rfl rfl (hN _) ?_
 rintro _ w ⟨rfl,hS'⟩
 replace hS := hS.plus hS';clear hS';repeat (first|refine Yeh ?_|(refine X_id ?_;first|(refine Zad 72 rfl rfl rfl rfl rfl hS (Zyi no _ _ (hG.at_ hS) (by omega) (by omega)) ?_;rintro _ _ rfl hS)|refine Yaf ?_|refine Yag ?_|refine Ya3 ?_|refine Ybb ?_|refine Ya1 ?_|refine Ybq ?_|refine Ybi (fun _ _ hS _ => ?_)|refine Yc3 ?_)|refine Yeq ?_|refine Yab ?_|refine Yau ?_|refine Ybr ?_)
 exact .inr ⟨⟨h1,by omega,by omega⟩,_,rfl,hS⟩
theorem Z25 (pa : Option Addr) (p : List (List UInt8)) (pc i : Nat) (hi : i ≤ 1000000) (W : World) (hG : Lg W noF) (hp : Ro W noF (row pa (strV p))) (hpl : p.length ≤ 100) :
  Calls Tryz.prog 32 #[.slice pa p.length pc,.int .i64 (i : Nat)] W (Ret fun v w => ∃ a q,v = .slice a (p.length + 1) q ∧ p.length + 1 ≤ q ∧ St W noF [own 9 1 a q (strV (p ++ [pN i]))] w) := by
 have hS := St.start W
 have hi7 := Zc3 (n := (i : Nat)) (by omega) (by omega)
 refine Zab Tryz.func32 rfl Tryz.ntmps32 rfl ?_
 repeat (first|refine Yd1 ?_|refine Yef ?_|refine Yd2 ?_|refine Yab ?_)
 refine Zaa _ rfl rfl rfl rfl rfl (Zp6 pa p pc _ (hp.rd hS) (by omega)) ?_
 rintro _ w ⟨a',c',rfl,hc',hS'⟩
 replace hS := hS.plus hS';clear hS';repeat (first|refine Yaa ?_|(refine X_id ?_;first|(refine Zad 72 rfl rfl rfl rfl rfl hS (Zyi (i : Nat) _ _ (hG.at_ hS) (by omega) (by omega)) ?_;rintro _ _ rfl hS)|refine Yaf ?_|refine Ybi (fun _ _ hS _ => ?_)|refine Yc3 ?_))
 have hnw := (hS.rd (List.mem_cons_self ..)).own_row
 refine Zar (T := 9) (a := a') (m := 1) rfl rfl rfl rfl rfl hS (by rw [Zep,Nat.mul_one]) hc' hnw rfl (by simp [Value.oneCell']) (by omega) (by simp only [maxLen]; omega) (fun b' q'' w hS hq'' _ => ?_)
 repeat (first|refine Yd1 ?_|refine Yag ?_|refine Yah ?_|refine Yd3 ?_)
 refine ⟨b',q'',rfl,hq'',?_⟩
 have e : strV (p ++ [pN i]) = strV p ++ [.string (str (pN i))] := List.map_append
 rw [e];exact hS.pick [0]
theorem Zuu (p : List (List UInt8)) (k : Nat) : (strV p).take k = strV (p.take k) := List.map_take.symm
theorem Z08 (p : List (List UInt8)) {i : Nat} (h : i < p.length) : (Zbw p).drop i = p.take (i + 1) :: (Zbw p).drop (i + 1) := by
 have hl : i < (Zbw p).length := by rw [Zbw,List.length_map,List.length_range]; exact h
 rw [List.drop_eq_getElem_cons hl]
 congr 1
 simp [Zbw]
section
variable {c f tp n : Nat} {b : Int} {T : Int → Option Nd} {t : Tn} {X : List RowD}
theorem way_ (ht : TreeOk n t) (pa : Option Addr) (p : List (List UInt8)) (pc : Nat) (W : World) (F : Nat → Prop) (hT : TreeRo W F f tp n b T) (hG : Lg W F) (hp : Ro W F (row pa (strV p))) (hpc : p.length ≤ pc) (hpl : p.length ≤ 100) (hS : St W F [chR c f b T (Nt t) X] W) :
  Calls Tryz.prog 31 #[.pointer (some ⟨c,0,none⟩),.slice pa p.length pc] W (Ret fun v w => ∃ X',(∀ x ∈ X,x ∈ X') ∧ v = .int .i64 (wayG n t (Zbw p)).1 ∧ St W F [chR c f b T (Nt (wayG n t (Zbw p)).2) X'] w) := by
 refine Zab Tryz.func31 rfl Tryz.ntmps31 rfl ?_
 repeat (first|refine Yd1 ?_|refine Ye1 ?_|refine Yd4 ?_|refine Yab ?_)
 refine Zak (α := Nat × Tn × List RowD) (fun z => [(0,.pointer (some ⟨c,0,none⟩)),(1,.slice pa p.length pc),(9,.int .i64 (p.length : Nat)),(10,.int .i64 (z.1 : Nat))])
  (fun z w => z.1 ≤ p.length ∧ TreeOk n z.2.1 ∧ (∀ x ∈ X,x ∈ z.2.2) ∧ wayG n t (Zbw p) = wayG n z.2.1 ((Zbw p).drop z.1) ∧ St W F [chR c f b T (Nt z.2.1) z.2.2] w) (fun z => p.length - z.1) (0,t,X) ⟨rfl,rfl,rfl,rfl,trivial⟩ ⟨Nat.zero_le _,ht,fun _ h => h,rfl,hS⟩ ?_
 clear hS;rintro ⟨i,t1,X1⟩ w ⟨hi,ht1,hX1,hway,hS⟩
 simp only at hi ht1 hX1 hway hS ⊢
 by_cases hlt : i < p.length
 case neg =>
  obtain rfl : i = p.length := by omega
  rw [List.drop_of_length_le (by rw [Zbw,List.length_map,List.length_range]; exact Nat.le_refl _),wayG] at hway
  rw [hway];repeat (first|refine Yd1 ?_|refine Yag ?_|refine Ya1 ?_|refine Yea ?_|refine Ye3 ?_)
  exact ⟨X1,hX1,rfl,hS.took⟩
 rw [Z08 p hlt,wayG] at hway;have hq : Ro W F (row pa (strV (p.take (i + 1)))) := hp.mono fun h hh => by rw [← Zuu]; exact Zi4 _ h hh
 have hql : (p.take (i + 1)).length = i + 1 := by rw [List.length_take]; omega
 generalize p.take (i + 1) = q at hway hq hql;repeat (first|refine Yd1 ?_|refine Yaf ?_|refine Yag ?_|refine Ya0 ?_|refine Yaw ?_|refine Yd5 ?_|refine Yab ?_)
 refine X_yl (Zam (l := 0) (h := i + 1) rfl rfl rfl rfl (.inr ⟨_,_,rfl,by omega,by omega,by omega⟩) (.inl ⟨rfl,rfl⟩)) rfl rfl ?_
 rw [sub_zero,Nat.sub_zero,Nat.sub_zero,← hql];repeat (first|refine Yaa ?_)
 obtain ⟨_,hcc,hr1,hw,hbk⟩ := hS.call [true]
 refine Zaa _ rfl rfl rfl rfl rfl (get_ ht1 pa q pc _ _ (hT.mono hw) (hG.mono hw) (hw _ hq) (by omega) hcc) ?_
 rintro v w ⟨X2,hX2,hS,hv⟩
 replace hS := hbk hS
 clear hbk hw hcc hr1;have hX12 : ∀ x ∈ X,x ∈ X2 := fun x hx => hX2 x (hX1 x hx)
 cases hg : getR t1 q with
 | ok nd =>
  rw [hg] at hv hway;obtain ⟨a1,q1,rfl,_,_⟩ := hv
  simp only at hway
  by_cases hk : nd.st.kind = 1
  ·rw [if_pos hk] at hway
   repeat (first|refine Yeh ?_|(refine X_id ?_;first|refine Yaf ?_|refine Yag ?_|refine Yan ?_|refine Yax ?_|refine Yba ?_|refine Ybf ?_|refine Ybg ?_|refine Ya5 ?_|refine Yaw ?_|refine Yaq ?_|refine Yao (fun _ hS _ => ?_)|refine Yas (fun _ _ hS _ => ?_))|refine Ye4 ?_|refine Yd9 ?_)
   exact Zaf (z := (i,t1,X1)) (i + 1,t1,X2) ⟨rfl,rfl,rfl,rfl,trivial⟩ ⟨hlt,ht1,hX12,hway,hS.took⟩ (by dsimp only; omega)
  ·rw [if_neg hk] at hway
   repeat (first|refine Yeh ?_|(refine X_id ?_;first|refine Yaf ?_|refine Yag ?_|refine Yan ?_|refine Yax ?_|refine Yba ?_|refine Ybf ?_|refine Ybg ?_|refine Ybj ?_|refine Yaq ?_|refine Yao (fun _ hS _ => ?_)|refine Yas (fun _ _ hS _ => ?_))|refine Yel ?_|refine Yab ?_|refine Yap ?_|refine Yau ?_|refine Ya9 ?_|refine Yam ?_)
   rw [hway];exact ⟨X2,hX12,rfl,hS.took⟩
 | error e =>
  rw [hg] at hv hway;obtain ⟨rfl,he⟩ := hv
  simp only at hway
  by_cases h7 : e = 7
  case neg =>
   rw [if_neg h7] at hway;repeat (first|refine Yek ?_|(refine X_id ?_;first|refine Yaf ?_|refine Yag ?_|refine Yax ?_|refine Ya3 ?_|refine Ybg ?_|refine Ybj ?_|refine Yao (fun _ hS _ => ?_)|refine Yas (fun _ _ hS _ => ?_))|refine Ye9 ?_|refine Yab ?_|refine Yap ?_|refine Yau ?_|refine Ya9 ?_|refine Yam ?_)
   rw [hway];exact ⟨X2,hX12,rfl,hS.took⟩
  rw [if_pos h7] at hway;subst h7
  repeat (first|refine Yd1 ?_|(refine X_id ?_;first|refine Yaf ?_|refine Yag ?_|refine Yax ?_|refine Ybf ?_|refine Yao (fun _ hS _ => ?_)|refine Yas (fun _ _ hS _ => ?_))|refine Yfa ?_|refine Yab ?_)
  refine Zaq (.s 0 (.s 2 (.s 3 (.s 4 (.s 5 (.h 1 (.h 6 (.s 7 .nil) .no) .no)))))) mixed (by kernel_rfl) rfl ?_
  have hS := hS.drew
  repeat (first|(refine Zae ?_;first|refine Ya4 ?_|refine Yco ?_))
  refine Zah rfl rfl (fun _ => Zam (l := 0) (h := i + 1) rfl rfl rfl rfl (.inr ⟨_,_,rfl,by omega,by omega,by omega⟩) (.inl ⟨rfl,rfl⟩)) rfl rfl ?_
  rw [sub_zero,Nat.sub_zero,Nat.sub_zero,← hql];repeat (first|(refine Zae ?_;first|refine Yay ?_))
  refine Zaa _ rfl rfl rfl rfl rfl (Z17 _) ?_
  rintro _ w ⟨rfl,hS'⟩
  replace hS := hS.plus hS';clear hS';repeat (first|(refine Zae ?_;first|refine Yay ?_)|(refine Zac ?_;first|refine Yaz ?_))
  obtain ⟨_,hcc,hr1,hw,hbk⟩ := hS.call [false,true]
  refine Zaa _ rfl rfl rfl rfl rfl (Zz5 ht1 dirA none 0 pa q pc _ _ (hT.mono hw) (hG.mono hw) (Zhv _ _ _) (hw _ hq) (by omega) (by omega) hcc) ?_
  rintro _ w ⟨X3,hX3,rfl,hS⟩
  replace hS := hbk hS
  clear hbk hw hcc hr1;have hX13 : ∀ x ∈ X,x ∈ X3 := fun x hx => hX3 x (hX12 x hx)
  have hmk := Zhe ht1 dirA q
  by_cases h0 : (Zbq n t1 dirA q).1 = 0
  ·rw [if_pos h0] at hway
   rw [h0];repeat (first|refine Yd1 ?_|refine Yaf ?_|refine Ya5 ?_|refine Yaw ?_|refine Yec ?_|refine Yd9 ?_|(refine Zae ?_;first|refine Ye0 ?_)|(refine Zac ?_;first|refine Yaz ?_))
   exact Zaf (z := (i,t1,X1)) (i + 1,(Zbq n t1 dirA q).2,X3) ⟨rfl,rfl,rfl,rfl,trivial⟩ ⟨hlt,hmk,hX13,hway,hS.took⟩ (by dsimp only; omega)
  ·rw [if_neg h0] at hway
   rw [hway];generalize Zbq n t1 dirA q = res at h0 hS ⊢;obtain ⟨e2,t2⟩ := res
   simp only at h0 hS ⊢
   repeat (first|refine Yd1 ?_|refine Yaf ?_|refine Yag ?_|refine Ybj ?_|refine Yei ?_|refine Yab ?_|refine Yap ?_|refine Yau ?_|refine Ya9 ?_|refine Yam ?_|(refine Zae ?_;first|refine Ye0 ?_)|(refine Zac ?_;first|refine Yaz ?_))
   exact ⟨X3,hX13,rfl,hS.took⟩
end
end Cr
namespace Cr
open Go
set_option maxRecDepth 10000
set_option maxHeartbeats 64000000

def Zbv (p : List (List UInt8)) : Tn → List (List UInt8) → Tn
 | t,[] => t
 | t,s :: l => Zbv p (Zcy t (p ++ [s])).2 l
def Zjy (p : List (List UInt8)) : Tn → List (List UInt8) → Prop
 | _,[] => True
 | t,s :: l => (Zcy t (p ++ [s])).1 = 0 ∧ Zjy p (Zcy t (p ++ [s])).2 l
theorem Zqe {n : Nat} {t u k : Tn} {p : List (List UInt8)} {s : List UInt8} (ht : TreeOk n t) (hr : Zav (p ++ [s])) (hg : goT t p = .ok u) (hu : u.st.kind = 1) (hk : kidT s u.kids = some k) (hkk : k.kids = []) :
  Zcy t (p ++ [s]) = (0,updT p (rmF s) t) ∧ TreeOk n (updT p (rmF s) t) ∧ goT (updT p (rmF s) t) p = .ok (rmF s u) := by
 have h1 : Zcy t (p ++ [s]) = (0,updT p (rmF s) t) := by
  unfold Zcy
  rw [Zh6 hr,hg];simp only
  rw [if_pos hu];simp only
  rw [show Zaz u s = .ok k by unfold Zaz; rw [if_pos hu,hk]]
  simp only
  rw [if_neg (fun h => h hkk),List.dropLast_concat]
 have h2 := Zry ht (p ++ [s])
 rw [h1] at h2;have h3 := Zf6 (Zli s) [] p t u hg
 rw [List.append_nil] at h3;exact ⟨h1,h2,h3⟩
theorem Zxx {L : List Tn} {x : Tn} (h : ∀ y ∈ L,y.nm ≠ x.nm) : rmT x.nm (L ++ [x]) = L := by
 unfold rmT
 rw [List.filter_append,List.filter_eq_self.2 (fun y hy => by simpa using h y hy)]
 simp
structure Clr (n : Nat) (p : List (List UInt8)) (t t' : Tn) : Prop where
 ok : TreeOk n t'
 off : ∀ q,¬ p <+: q → ¬ q <+: p → goT t' q = goT t q
 pre : ∀ q s r u,p = q ++ s :: r → goT t q = .ok u → ∃ u',goT t' q = .ok u' ∧ u'.st = u.st ∧ u'.kids.map Tn.nm = u.kids.map Tn.nm ∧ u'.kids.length = u.kids.length
theorem Zu1 (s : List UInt8) : ∀ u,(rmF s u).nm = u.nm ∧ (rmF s u).no = u.no := fun _ => ⟨rfl,rfl⟩
theorem Zo2 {n : Nat} {p : List (List UInt8)} (hr : ∀ s,nameOk s → Zav (p ++ [s])) : ∀ (k : Nat) (t u : Tn),TreeOk n t → goT t p = .ok u → u.st.kind = 1 → u.kids.length = k → (∀ x ∈ u.kids,x.kids = []) →
  Zjy p t (u.kids.map Tn.nm).reverse ∧ Clr n p t (Zbv p t (u.kids.map Tn.nm).reverse) ∧ ∃ u',goT (Zbv p t (u.kids.map Tn.nm).reverse) p = .ok u' ∧ u'.st = u.st ∧ u'.kids = []
 | 0,t,u,ht,hg,hu,hk,_ => by
  have h0 : u.kids = [] := List.eq_nil_of_length_eq_zero hk
  rw [h0];exact ⟨trivial,⟨ht,fun _ _ _ => rfl,fun q s r w _ hw => ⟨w,hw,rfl,rfl,rfl⟩⟩,u,hg,rfl,h0⟩
 | k + 1,t,u,ht,hg,hu,hk,hl => by
  rcases List.eq_nil_or_concat u.kids with h0 | ⟨L,x,h0⟩
  ·rw [h0] at hk; cases hk
  rw [List.concat_eq_append] at h0;have hok := ht.node u (Zba hg)
  have hne : ∀ y ∈ L,y.nm ≠ x.nm := fun y hy e => by
   have hrs := hok.rise
   rw [h0,List.pairwise_append] at hrs;exact Zr8 (hrs.2.2 y hy x (by simp)) e
  have hxm : x ∈ u.kids := by rw [h0]; simp
  have hkx : kidT x.nm u.kids = some x := by
   unfold kidT
   rw [h0,List.find?_append,List.find?_eq_none.2 (fun y hy => by simpa using hne y hy)]
   simp
  obtain ⟨h1,h2,h3⟩ := Zqe ht (hr x.nm (hok.nmk x hxm)) hg hu hkx (hl x hxm)
  have hkids : (rmF x.nm u).kids = L := by
   show rmT x.nm u.kids = L
   rw [h0]; exact Zxx hne
  have ih := Zo2 hr k _ _ h2 h3 hu (by rw [hkids]; rw [h0,List.length_append,List.length_singleton] at hk; omega) (fun y hy => hl y (by rw [hkids] at hy; rw [h0]; exact List.mem_append_left _ hy))
  rw [hkids] at ih;obtain ⟨i1,i2,u',i3,i4,i5⟩ := ih
  have hrev : (u.kids.map Tn.nm).reverse = x.nm :: (L.map Tn.nm).reverse := by rw [h0]; simp
  rw [hrev,Zjy,Zbv,h1];refine ⟨⟨rfl,i1⟩,⟨i2.ok,fun q ha hb => ?_,fun q s r w hp hw => ?_⟩,u',i3,i4,i5⟩
  ·rw [i2.off q ha hb,Zvs (Zli _) p q t ha hb]
  ·have hg2 : goT (updT p (rmF x.nm) t) q = .ok (updT (s :: r) (rmF x.nm) w) := by rw [hp]; exact Zf6 (Zli _) (s :: r) q t w hw
   obtain ⟨w',k1,k2,k3,k4⟩ := i2.pre q s r _ hp hg2
   obtain ⟨m1,m2⟩ := Zn0 (Zu1 x.nm) s r w
   exact ⟨w',k1,by rw [k2,(Zdg (Zu1 x.nm) s r w).2],by rw [k3,m1],by rw [k4,m2]⟩
structure ArcL (t : Tn) (pack : List UInt8) (L : List (Int × List (List UInt8))) : Prop where
 ok : TreeOk 80 t
 var : ∃ u,goT t [varN] = .ok u ∧ u.st.kind = 1
 pk : ∃ u,goT t [varN,pack] = .ok u ∧ u.st.kind = 1 ∧ ∀ s,s ∈ u.kids.map Tn.nm ↔ ∃ x ∈ L,s = rN x.1
 rev : ∀ x ∈ L,RevS t pack (rN x.1) x.2
 right : ∀ x ∈ L,RightA pack x.1
theorem Zu9 {α : Type} {R : α → α → Prop} : ∀ {l : List α} {x y : α},l.Pairwise R → x ∈ l → y ∈ l → x ≠ y → R x y ∨ R y x
 | [],_,_,_,hx,_,_ => by cases hx
 | a :: l,x,y,h,hx,hy,hn => by
  obtain ⟨h1,h2⟩ := List.pairwise_cons.1 h
  rcases List.mem_cons.1 hx with e1 | hx2
  ·rcases List.mem_cons.1 hy with e2 | hy2
   ·exact absurd (e1.trans e2.symm) hn
   ·rw [e1]; exact .inl (h1 y hy2)
  ·rcases List.mem_cons.1 hy with e2 | hy2
   ·rw [e2]; exact .inr (h1 x hx2)
   ·exact Zu9 h2 hx2 hy2 hn
theorem Zj7 {n : Nat} {u x : Tn} (hu : TnOk n u) (hx : x ∈ u.kids) : kidT x.nm u.kids = some x := by
 cases h : kidT x.nm u.kids with
 | none => exact absurd rfl (Zj8 h x hx)
 | some k =>
  obtain ⟨h1,h2⟩ := Zi5 h
  by_cases he : k = x
  ·rw [he]
  ·exfalso
   have := hu.rise
   rcases Zu9 this h1 hx he with h | h
   ·exact Zr8 h h2
   ·exact Zr8 h h2.symm
theorem RevS.leaf {t u : Tn} {pack r : List UInt8} {cs : List (List UInt8)} {n : Nat} (ht : TreeOk n t) (h : RevS t pack r cs) (hg : goT t [varN,pack,r] = .ok u) : ∀ x ∈ u.kids,x.kids = [] := fun x hx => by
 obtain ⟨u',hg',hu',_,hun⟩ := h.dir
 rw [hg] at hg';injection hg' with e
 subst e
 obtain ⟨i,hi,hxi⟩ := hun x hx
 obtain ⟨num,hp⟩ := h.part i _ (List.getElem?_eq_getElem hi)
 have h1 := Zcw [varN,pack,r] t (pN i)
 rw [hg] at h1;have h2 : Zaz u (pN i) = .ok x := by
  unfold Zaz
  rw [if_pos hu',← hxi,Zj7 (ht.node u (Zba hg)) hx]
 rw [show [varN,pack,r] ++ [pN i] = [varN,pack,r,pN i] from rfl,hp] at h1
 have h3 : Except.ok (Tn.mk (pN i) num ⟨0,384,0,0⟩ cs[i] []) = (.ok x : Except Int Tn) := h1.trans h2
 injection h3 with h3
 rw [← h3]; rfl
theorem Zwa {t : Tn} {pack : List UInt8} {L : List (Int × List (List UInt8))} (h : ArcL t pack L) {no : Int} {cs : List (List UInt8)} (hm : (no,cs) ∈ L) :
  ∃ u,goT t [varN,pack,rN no] = .ok u ∧ u.st.kind = 1 ∧ u.kids.length = cs.length ∧ Zjy [varN,pack,rN no] t (u.kids.map Tn.nm).reverse ∧ (Zcy (Zbv [varN,pack,rN no] t (u.kids.map Tn.nm).reverse) [varN,pack,rN no]).1 = 0 ∧
   ArcL (Zcy (Zbv [varN,pack,rN no] t (u.kids.map Tn.nm).reverse) [varN,pack,rN no]).2 pack (L.filter fun x => decide (x.1 ≠ no)) := by
 have hR := h.right _ hm
 have hV : RevS t pack (rN no) cs := h.rev _ hm
 have hrn := Zqf hR.2.1 hR.2.2
 obtain ⟨u,hg,hu,hul,hun⟩ := hV.dir
 have hleaf := hV.leaf h.ok hg
 obtain ⟨c1,c2,u',c3,c4,c5⟩ := Zo2 (p := [varN,pack,rN no]) (fun s hs => Zrx hR.1 hrn hs) u.kids.length t u h.ok hg hu rfl hleaf
 refine ⟨u,hg,hu,hul,c1,?_⟩
 generalize Zbv [varN,pack,rN no] t (u.kids.map Tn.nm).reverse = t1 at c2 c3;obtain ⟨w,hgw,hw,hws⟩ := h.pk
 obtain ⟨w',k1,k2,k3,_⟩ := c2.pre [varN,pack] (rN no) [] w rfl hgw
 have hgo := Zcw [varN,pack] t1 (rN no)
 rw [k1] at hgo;have hgo : goT t1 [varN,pack,rN no] = Zaz w' (rN no) := hgo
 rw [c3] at hgo;have hk : kidT (rN no) w'.kids = some u' := by
  have h2 := hgo.symm
  unfold Zaz at h2
  rw [if_pos (by rw [k2]; exact hw)] at h2
  cases hq : kidT (rN no) w'.kids with
  | none => rw [hq] at h2; cases h2
  | some k => rw [hq] at h2; injection h2 with h2; rw [h2]
 obtain ⟨r1,r2,r3⟩ := Zqe c2.ok (Zgh hR.1 hrn) k1 (by rw [k2]; exact hw) hk c5
 have r1' : Zcy t1 [varN,pack,rN no] = (0,updT [varN,pack] (rmF (rN no)) t1) := r1
 rw [r1'];refine ⟨rfl,r2,?_,⟨_,r3,by rw [← hw,← k2]; rfl,fun s => ?_⟩,fun x hx => ?_,fun x hx => h.right x (List.mem_filter.1 hx).1⟩
 ·obtain ⟨uv,hgv,huv⟩ := h.var
  obtain ⟨v',j1,j2,_⟩ := c2.pre [varN] pack [rN no] uv rfl hgv
  exact ⟨_,Zf6 (Zli _) [pack] [varN] t1 v' j1,by rw [(Zdg (Zu1 _) pack [] v').2,j2]; exact huv⟩
 ·show s ∈ (rmT (rN no) w'.kids).map Tn.nm ↔ _
  constructor
  ·intro hs
   obtain ⟨y,hy,hye⟩ := List.mem_map.1 hs
   unfold rmT at hy
   obtain ⟨hy1,hy2⟩ := List.mem_filter.1 hy
   have hys : s ∈ w.kids.map Tn.nm := by rw [← k3]; exact List.mem_map.2 ⟨y,hy1,hye⟩
   obtain ⟨x,hx,hxe⟩ := (hws s).1 hys
   refine ⟨x,List.mem_filter.2 ⟨hx,decide_eq_true fun e => ?_⟩,hxe⟩
   have hy3 : y.nm ≠ rN no := by simpa using hy2
   rw [hye,hxe,e] at hy3;exact hy3 rfl
  ·rintro ⟨x,hx,hxe⟩
   obtain ⟨hx1,hx2⟩ := List.mem_filter.1 hx
   have hx3 : x.1 ≠ no := by simpa using hx2
   have hys : s ∈ w'.kids.map Tn.nm := by rw [k3]; exact (hws s).2 ⟨x,hx1,hxe⟩
   obtain ⟨y,hy,hye⟩ := List.mem_map.1 hys
   refine List.mem_map.2 ⟨y,?_,hye⟩
   unfold rmT
   refine List.mem_filter.2 ⟨hy,decide_eq_true fun e => ?_⟩
   rw [hye,hxe] at e;exact hx3 (Zob (h.right x hx1).2.1 hR.2.1 e)
 ·obtain ⟨hx1,hx2⟩ := List.mem_filter.1 hx
  have hx3 : x.1 ≠ no := by simpa using hx2
  have hrx := h.right x hx1
  have hne : rN x.1 ≠ rN no := fun e => hx3 (Zob hrx.2.1 hR.2.1 e)
  have hvx := h.rev x hx1
  have off : ∀ q,goT (updT [varN,pack] (rmF (rN no)) t1) ([varN,pack] ++ rN x.1 :: q) = goT t ([varN,pack] ++ rN x.1 :: q) := fun q => by
   rw [(Zzq k1).2 _ _ hne];exact c2.off _ (fun hp => by
    have h1 := (List.cons_prefix_cons.1 hp).2
    have h2 := (List.cons_prefix_cons.1 h1).2
    exact hne (List.cons_prefix_cons.1 h2).1.symm) (fun hp => by
    have h1 := (List.cons_prefix_cons.1 hp).2
    have h2 := (List.cons_prefix_cons.1 h1).2
    exact hne (List.cons_prefix_cons.1 h2).1)
  refine ⟨?_,fun i c hc => ?_⟩
  ·obtain ⟨z,hz,hz2⟩ := hvx.dir
   exact ⟨z,(off []).trans hz,hz2⟩
  ·obtain ⟨num,hnum⟩ := hvx.part i c hc
   exact ⟨num,(off [pN i]).trans hnum⟩
theorem Zkl (b : List UInt8) : ∀ k,((List.range k).map fun i => (b.drop (512 * i)).take 512).flatten = b.take (512 * k)
 | 0 => by simp
 | k + 1 => by
  rw [List.range_succ,List.map_append,List.flatten_append,Zkl b k,List.map_singleton,List.flatten_singleton,show 512 * (k + 1) = 512 * k + 512 by omega,List.take_add]
theorem Zl5 (b : List UInt8) : (Zan b).flatten = b := by
 unfold Zan
 rw [Zkl,List.take_of_length_le (by omega)]
theorem Zwb (b : List UInt8) {i : Nat} {c : List UInt8} (h : (Zan b)[i]? = some c) : i < (Zan b).length ∧ c = (b.drop (512 * i)).take 512 := by
 have hi := (List.getElem?_eq_some_iff.1 h).1
 refine ⟨hi,?_⟩
 rw [Zcf] at hi;have := h
 simp only [Zan,List.getElem?_map,List.getElem?_range hi,Option.map_some] at this
 injection this with this
 exact this.symm
theorem Zq1 (b : List UInt8) {i : Nat} {c : List UInt8} (h : (Zan b)[i]? = some c) : (i + 1 < (Zan b).length → c.length = 512) ∧ (0 < i → c.length ≠ 0) := by
 obtain ⟨hi,rfl⟩ := Zwb b h
 rw [Zcf] at hi;rw [List.length_take,List.length_drop,Zcf];omega
theorem AppS.two {t : Tn} {m : Nat} {pack : List UInt8} {rs : List (List UInt8)} (h : AppS t m pack rs) (L : List (Int × List (List UInt8))) (hrs : rs = L.map fun x => rN x.1) (hv : ∀ x ∈ L,RevS t pack (rN x.1) x.2) (hr : ∀ x ∈ L,RightA pack x.1) : ArcL t pack L :=
 ⟨h.ok,h.var,by
  obtain ⟨u,h1,h2,_,h3⟩ := h.pk
  refine ⟨u,h1,h2,fun s => ?_⟩
  rw [h3 s,hrs,List.mem_map]
  constructor
  ·rintro ⟨x,hx,e⟩; exact ⟨x,hx,e.symm⟩
  ·rintro ⟨x,hx,e⟩; exact ⟨x,hx,e.symm⟩,hv,hr⟩
theorem ArcL.none {t : Tn} {pack : List UInt8} {L : List (Int × List (List UInt8))} (h : ArcL t pack L) {no : Int} (hr : RightA pack no) (hn : ∀ x ∈ L,x.1 ≠ no) : getR t [varN,pack,rN no] = .error 7 := by
 obtain ⟨u,hg,hu,hus⟩ := h.pk
 have hrn := Zqf hr.2.1 hr.2.2
 exact Zcp (Zgh hr.1 hrn) (p := [varN,pack]) hg hu (kidT_iff.2 fun hx => by
  obtain ⟨x,hx,e⟩ := (hus _).1 hx
  exact hn x hx (Zob (h.right x hx).2.1 hr.2.1 e.symm))
theorem ArcL.gone {t : Tn} {pack : List UInt8} (h : ArcL t pack []) (hp : nameOk pack) : (lstR t [varN,pack]).1 = [] ∧ (lstR t [varN,pack]).2 = 0 ∧ (Zcy t [varN,pack]).1 = 0 ∧ TreeOk 80 (Zcy t [varN,pack]).2 ∧ getR (Zcy t [varN,pack]).2 [varN,pack] = .error 7 ∧ ∀ r,∃ e,getR (Zcy t [varN,pack]).2 [varN,pack,r] = .error e := by
 obtain ⟨u,hg,hu,hus⟩ := h.pk
 have hk0 : u.kids = [] := by
  cases hk : u.kids with
  | nil => rfl
  | cons x l =>
   have := (hus x.nm).1 (by rw [hk]; simp)
   obtain ⟨_,hx,_⟩ := this
   cases hx
 obtain ⟨v,hgv,hv⟩ := h.var
 have hgo := Zcw [varN] t pack
 rw [hgv] at hgo;have hgo : goT t [varN,pack] = Zaz v pack := hgo
 rw [hg] at hgo;have hkid : kidT pack v.kids = some u := by
  have h2 := hgo.symm
  unfold Zaz at h2
  rw [if_pos hv] at h2;cases hq : kidT pack v.kids with
  | none => rw [hq] at h2; cases h2
  | some k => rw [hq] at h2; injection h2 with h2; rw [h2]
 obtain ⟨r1,r2,r3⟩ := Zqe h.ok (Zh1 hp) hgv hv hkid hk0
 have r1' : Zcy t [varN,pack] = (0,updT [varN] (rmF pack) t) := r1
 have hl : lstR t [varN,pack] = ([],0) := by
  unfold lstR goR
  rw [if_pos (show Zav [varN,pack] from Zh1 hp),hg]
  simp only
  rw [if_pos (show u.nd.st.kind = 1 from hu),(h.ok.rd (Zba hg) hu).2,Tn.names,hk0]
  rfl
 rw [hl,r1'];refine ⟨rfl,rfl,rfl,r2,Zcp (Zh1 hp) (p := [varN]) r3 hv (Zzx pack v.kids),fun r => ?_⟩
 obtain ⟨e,he⟩ := (Zzq (s := pack) hgv).1 [r]
 exact Zyt he
end Cr
namespace Cr
open Go Go.Proofs
set_option maxRecDepth 100000
set_option maxHeartbeats 64000000
attribute [local irreducible] Calls

theorem Zol {n : Nat} {t : Tn} {pack : List UInt8} {no : Int} {b : List UInt8} (h : Za9 pack no ≠ 0) : Zee n t pack no b = (Za9 pack no,t) := by
 unfold Za9 at h ⊢
 unfold Zee
 by_cases h1 : nameOk pack
 ·by_cases h2 : no < 1 ∨ 999999 < no
  ·simp only [h1,h2,not_true_eq_false,if_true,if_false]
  ·simp only [h1,h2,not_true_eq_false,if_false] at h
   exact absurd rfl h
 ·simp only [h1,not_false_eq_true,if_true]
theorem Zq2 (b : List UInt8) {i : Nat} (h : i < (Zan b).length) : (Zan b).drop i = (b.drop (512 * i)).take 512 :: (Zan b).drop (i + 1) := by
 rw [List.drop_eq_getElem_cons h]
 congr 1
 simp [Zan]
theorem Zpx {n : Nat} : ∀ (l : List (List (List UInt8))) (t : Tn),TreeOk n t → TreeOk n (wayG n t l).2
 | [],_,h => h
 | q :: l,t,h => by
  rw [wayG];cases hg : getR t q with
  | error e =>
   simp only
   have hm := Zhe h dirA q
   split
   ·split
    ·exact Zpx l _ hm
    ·exact hm
   ·exact h
  | ok nd =>
   simp only
   split
   ·exact Zpx l t h
   ·exact h
section
variable {c f tp n : Nat} {b : Int} {T : Int → Option Nd} {t : Tn} {X : List RowD}
theorem Zyg (ht : TreeOk n t) (pack : List UInt8) (no : Int) (ba : Option Addr) (bs : List UInt8) (bc : Nat) (hbc : bs.length ≤ bc) (hbl : bs.length ≤ 1048576) (W : World) (F : Nat → Prop) (hT : TreeRo W F f tp n b T) (hG : Lg W F) (hb : Ro W F (bytes ba bs)) (hS : St W F [chR c f b T (Nt t) X] W) :
  Calls Tryz.prog 6 #[.pointer (some ⟨c,0,none⟩),.string (str pack),.int .i64 no,.slice ba bs.length bc] W (Ret fun v w => ∃ X',(∀ x ∈ X,x ∈ X') ∧ v = .int .i64 (Zee n t pack no bs).1 ∧ St W F [chR c f b T (Nt (Zee n t pack no bs).2) X'] w) := by
 refine Zab Tryz.func6 rfl Tryz.ntmps6 rfl ?_
 repeat (first|refine Yd1 ?_|refine Yef ?_|refine Yd2 ?_|refine Yab ?_)
 refine Zaa _ rfl rfl rfl rfl rfl (Zla c pack no _ (hG.at_ hS)) ?_
 rintro _ w (⟨hne,rfl,hS'⟩ | ⟨hR,pb,rfl,hS'⟩)
 ·replace hS := hS.plus hS'
  clear hS';rw [Zol hne];generalize Za9 pack no = e at hne ⊢;repeat (first|refine Yd1 ?_|refine Yet ?_|refine Yei ?_|refine Yej ?_)
  exact ⟨X,fun _ h => h,rfl,hS.took⟩
 replace hS := hS.plus hS';clear hS';by_cases h16 : 16384 < bs.length
 ·have hk : Zee n t pack no bs = (2,t) := by
   unfold Zee
   obtain ⟨r1,r2,r3⟩ := hR
   rw [if_neg (fun e => e r1),if_neg (by omega),if_pos h16]
  rw [hk];repeat (first|refine Yd1 ?_|(refine X_id ?_;first|refine Yaf ?_|refine Yag ?_|refine Yax ?_|refine Yar ?_|refine Ya5 ?_|refine Ybv ?_)|refine Ye5 ?_|refine Yej ?_)
  exact ⟨X,fun _ h => h,rfl,hS.took⟩
 have hk := Zer (n := n) (t := t) hR (b := bs) (by omega)
 repeat (first|refine Yd1 ?_|(refine X_id ?_;first|refine Yaf ?_|refine Yag ?_|refine Yax ?_|refine Yar ?_|refine Ya5 ?_|refine Ybq ?_)|refine Yec ?_|refine Yab ?_)
 obtain ⟨_,hcc,hr1,hw,hbk⟩ := hS.call [false,true]
 refine Zaa _ rfl rfl rfl rfl rfl (get_ ht (some ⟨pb,0,none⟩) [varN,pack,rN no] 3 _ _ (hT.mono hw) (hG.mono hw) (hr1 (own 9 1 (some ⟨pb,0,none⟩) 3 (strV [varN,pack,rN no])) (by simp)).own_row (by simp) hcc) ?_
 rintro v w ⟨X2,hX2,hS,hv⟩
 replace hS := hbk hS
 clear hbk hw hcc hr1;cases hg : getR t [varN,pack,rN no] with
 | ok nd =>
  rw [hg] at hv hk;obtain ⟨a1,q1,rfl,_,_⟩ := hv
  simp only at hk
  rw [hk];repeat (first|refine Yd1 ?_|(refine X_id ?_;first|refine Yaf ?_|refine Yag ?_|refine Yax ?_|refine Ybf ?_|refine Yao (fun _ hS _ => ?_)|refine Yas (fun _ _ hS _ => ?_))|refine Yei ?_|refine Yej ?_)
  exact ⟨X2,hX2,rfl,hS.took⟩
 | error e =>
 rw [hg] at hv hk;obtain ⟨rfl,he⟩ := hv
 simp only at hk
 repeat (first|refine Yd1 ?_|(refine X_id ?_;first|refine Yaf ?_|refine Yag ?_|refine Yax ?_|refine Ybg ?_|refine Yao (fun _ hS _ => ?_)|refine Yas (fun _ _ hS _ => ?_))|refine Yec ?_|refine Yab ?_)
 have hS : St W F [chR c f b T (Nt t) X2,own 9 1 (some ⟨pb,0,none⟩) 3 (strV [varN,pack,rN no])] _ := hS.took
 obtain ⟨_,hcc,hr1,hw,hbk⟩ := hS.call [true]
 refine Zaa _ rfl rfl rfl rfl rfl (way_ ht (some ⟨pb,0,none⟩) [varN,pack,rN no] 3 _ _ (hT.mono hw) (hG.mono hw) (hr1 (own 9 1 (some ⟨pb,0,none⟩) 3 (strV [varN,pack,rN no])) (by simp)).own_row (by simp) (by simp) hcc) ?_
 rintro _ w ⟨X3,hX3,rfl,hS⟩
 replace hS := hbk hS
 clear hbk hw hcc hr1;have hX13 : ∀ x ∈ X,x ∈ X3 := fun x hx => hX3 x (hX2 x hx)
 have ht3 : TreeOk n (wayG n t (Zbw [varN,pack,rN no])).2 := Zpx _ t ht
 by_cases h0 : (wayG n t (Zbw [varN,pack,rN no])).1 = 0
 case neg =>
  rw [if_neg h0] at hk;rw [hk];generalize wayG n t (Zbw [varN,pack,rN no]) = res at h0 hS ⊢;obtain ⟨e2,t2⟩ := res
  simp only at h0 hS ⊢
  repeat (first|refine Yd1 ?_|refine Yaf ?_|refine Yag ?_|refine Ybj ?_|refine Yei ?_|refine Yej ?_)
  exact ⟨X3,hX13,rfl,hS.took⟩
 rw [if_pos h0] at hk;rw [h0];generalize (wayG n t (Zbw [varN,pack,rN no])).2 = t3 at hk hS ht3;have hcl := Zcf bs
 repeat (first|refine Yd1 ?_|refine Yaf ?_|refine Yag ?_|refine Ya5 ?_|refine Ye4 ?_|refine Yab ?_)
 refine Zak (α := Nat × Tn × List RowD) (fun z => [(0,.pointer (some ⟨c,0,none⟩)),(3,.slice ba bs.length bc),(9,.slice (some ⟨pb,0,none⟩) 3 3),(14,.int .i64 (z.1 : Nat))])
  (fun z w => z.1 ≤ (Zan bs).length ∧ TreeOk n z.2.1 ∧ (∀ x ∈ X,x ∈ z.2.2) ∧ Zee n t pack no bs = Zez n [varN,pack,rN no] z.1 z.2.1 ((Zan bs).drop z.1) ∧ St W F [chR c f b T (Nt z.2.1) z.2.2,own 9 1 (some ⟨pb,0,none⟩) 3 (strV [varN,pack,rN no])] w) (fun z => (Zan bs).length - z.1) (0,t3,X3) ⟨rfl,rfl,rfl,rfl,trivial⟩ ⟨Nat.zero_le _,ht3,hX13,hk,hS⟩ ?_
 clear hS hk;rintro ⟨i,t4,X4⟩ w ⟨hi,ht4,hX4,hkp,hS⟩
 simp only at hi ht4 hX4 hkp hS ⊢
 by_cases hlt : i < (Zan bs).length
 case neg =>
  rw [List.drop_of_length_le (by omega),Zez] at hkp;rw [hkp];have hi0 : ¬ i = 0 := by omega
  have hil : ¬ (512 : Int) * (i : Nat) < (bs.length : Nat) := by omega
  repeat (first|refine Yeh ?_|(refine X_id ?_;first|refine Yaf ?_|refine Yag ?_|refine Ya3 ?_|refine Yar ?_|refine Ybg ?_|refine Ya1 ?_|refine Yb7 ?_)|refine Yea ?_|refine Ye3 ?_)
  exact ⟨X4,hX4,rfl,hS.took⟩
 have hdrop := Zq2 bs hlt
 rw [hdrop,Zez] at hkp;obtain ⟨H,hH⟩ : ∃ H,H = min (512 * (i + 1)) bs.length := ⟨_,rfl⟩
 have hmin : min ((512 : Int) * (((i : Nat) : Int) + 1)) ((bs.length : Nat) : Int) = ((H : Nat) : Int) := by omega
 have hlo : 512 * i ≤ H := by omega
 have hil : i = 0 ∨ (512 : Int) * ((i : Nat) : Int) < ((bs.length : Nat) : Int) := by omega
 have hb2 := hb.subBytes (l := 512 * i) (h := H) (c := H) (Nat.le_refl _) hlo
 have hce : (bs.drop (512 * i)).take (H - 512 * i) = (bs.drop (512 * i)).take 512 := by
  rcases Nat.le_total (512 * (i + 1)) bs.length with h | h
  ·rw [show H - 512 * i = 512 by omega]
  ·rw [List.take_of_length_le (by rw [List.length_drop]; omega),List.take_of_length_le (by rw [List.length_drop]; omega)]
 rw [hce] at hb2;have hcl2 : ((bs.drop (512 * i)).take 512).length = H - 512 * i := by rw [List.length_take,List.length_drop]; omega
 generalize (bs.drop (512 * i)).take 512 = ch at hkp hb2 hcl2;by_cases hi0 : i = 0
 all_goals
  repeat (first|refine Yev ?_|(refine X_id ?_;first|refine Yaf ?_|refine Yba ?_|refine Ya3 ?_|refine Yar ?_|refine Ybf ?_|refine Ybg ?_|refine Ya0 ?_|refine Yaw ?_|refine Yb7 ?_)|refine Yd5 ?_|refine Yab ?_)
  refine X_yl (Zne rfl rfl rfl) rfl rfl ?_
  rw [hmin];repeat (first|refine Yaa ?_|refine Yaf ?_|refine Yar ?_|refine Yaw ?_|refine Yb7 ?_)
  refine X_yl (Zne rfl rfl rfl) rfl rfl ?_
  rw [hmin];repeat (first|refine Yaa ?_)
  refine X_yl (Zhn (l := 512 * i) (h := H) (k := H) rfl rfl rfl rfl rfl ⟨_,_,rfl,by omega,by omega,by omega⟩ ⟨_,_,rfl,by omega,by omega,Nat.le_refl _⟩ (.inr ⟨_,_,rfl,by omega,by omega,hlo⟩)) rfl rfl ?_
  rw [← hcl2];repeat (first|refine Yd1 ?_|refine Yaf ?_|refine Yag ?_|refine Ybo ?_|refine Yd2 ?_|refine Yab ?_)
  refine Zaa _ rfl rfl rfl rfl rfl (Z25 (some ⟨pb,0,none⟩) [varN,pack,rN no] 3 i (by omega) _ (hG.at_ hS) ((hS.rd (r := own 9 1 (some ⟨pb,0,none⟩) 3 (strV [varN,pack,rN no])) (by simp)).own_row.ro) (by simp)) ?_
  rintro _ w ⟨a5,q5,rfl,hq5,hS'⟩
  replace hS := hS.plus hS';clear hS';repeat (first|refine Yaa ?_)
  have hS : St W F [chR c f b T (Nt t4) X4,own 9 1 a5 q5 (strV ([varN,pack,rN no] ++ [pN i])),own 9 1 (some ⟨pb,0,none⟩) 3 (strV [varN,pack,rN no])] _ := hS.took
  obtain ⟨_,hcc,hr1,hw,hbk⟩ := hS.call [true]
  refine Zaa _ rfl rfl rfl rfl rfl (Zz5 ht4 (Zd9 ch) _ _ a5 ([varN,pack,rN no] ++ [pN i]) q5 _ _ (hT.mono hw) (hG.mono hw) (hw _ hb2) (hr1 (own 9 1 a5 q5 (strV ([varN,pack,rN no] ++ [pN i]))) (by simp)).own_row hq5 (by simp) hcc) ?_
  rintro _ w ⟨X5,hX5,rfl,hS⟩
  replace hS := hbk hS
  clear hbk hw hcc hr1;have hX15 : ∀ x ∈ X,x ∈ X5 := fun x hx => hX5 x (hX4 x hx)
  have hmk := Zhe ht4 (Zd9 ch) ([varN,pack,rN no] ++ [pN i])
  by_cases h1 : (Zbq n t4 (Zd9 ch) ([varN,pack,rN no] ++ [pN i])).1 = 0
  ·rw [if_pos h1] at hkp
   rw [h1];repeat (first|refine Yd1 ?_|refine Yaf ?_|refine Yag ?_|refine Ya5 ?_|refine Yaw ?_|refine Yec ?_|refine Yd9 ?_)
   exact Zaf (z := (i,t4,X4)) (i + 1,(Zbq n t4 (Zd9 ch) ([varN,pack,rN no] ++ [pN i])).2,X5) ⟨rfl,rfl,rfl,rfl,trivial⟩ ⟨hlt,hmk,hX15,hkp,hS.took⟩ (by dsimp only; omega)
  ·rw [if_neg h1] at hkp
   rw [hkp];generalize Zbq n t4 (Zd9 ch) ([varN,pack,rN no] ++ [pN i]) = res at h1 hS ⊢;obtain ⟨e2,t2⟩ := res
   simp only at h1 hS ⊢
   repeat (first|refine Yd1 ?_|refine Yaf ?_|refine Yag ?_|refine Ybj ?_|refine Yei ?_|refine Yem ?_)
   exact ⟨X5,hX15,rfl,hS.took⟩
end
theorem Zh5 {n : Nat} {t u : Tn} {p : List (List UInt8)} (ht : TreeOk n t) (hr : Zav p) (hg : goT t p = .ok u) (hu : u.st.kind = 1) : lstR t p = (u.kids.map Tn.nm,0) := by
 unfold lstR goR
 rw [if_pos hr,hg];simp only
 rw [if_pos (show u.nd.st.kind = 1 from hu),(ht.rd (Zba hg) hu).2,Tn.names,List.map_map]
 rfl
section
variable {c f tp n : Nat} {b : Int} {T : Int → Option Nd} {t : Tn} {X : List RowD}
theorem Zye (pack : List UInt8) (no : Int) (hne : Za9 pack no ≠ 0) (W : World) (F : Nat → Prop) (hG : Lg W F) (hS : St W F [chR c f b T (Nt t) X] W) :
  Calls Tryz.prog 8 #[.pointer (some ⟨c,0,none⟩),.string (str pack),.int .i64 no] W (Ret fun v w => v = .tuple #[.slice none 0 0,.int .i64 (Za9 pack no)] ∧ St W F [chR c f b T (Nt t) X] w) := by
 refine Zab Tryz.func8 rfl Tryz.ntmps8 rfl ?_
 repeat (first|refine Yd1 ?_|refine Yef ?_|refine Yd2 ?_|refine Yab ?_)
 refine Zaa _ rfl rfl rfl rfl rfl (Zla c pack no _ (hG.at_ hS)) ?_
 rintro _ w (⟨_,rfl,hS'⟩ | ⟨hR,_⟩)
 ·replace hS := hS.plus hS'
  clear hS';generalize Za9 pack no = e at hne ⊢;repeat (first|refine Yd1 ?_|refine Yet ?_|refine Yei ?_|refine Yab ?_|refine Yap ?_|refine Ybr ?_)
  exact ⟨rfl,hS.took⟩
 ·exfalso
  obtain ⟨r1,r2,r3⟩ := hR
  apply hne
  unfold Za9
  rw [if_neg (fun e => e r1),if_neg (by omega)]
theorem Zvp (ht : TreeOk n t) (pack : List UInt8) (no : Int) (hR : RightA pack no) {e : Int} (hg : getR t [varN,pack,rN no] = .error e) (W : World) (F : Nat → Prop) (hT : TreeRo W F f tp n b T) (hG : Lg W F) (hS : St W F [chR c f b T (Nt t) X] W) :
  Calls Tryz.prog 8 #[.pointer (some ⟨c,0,none⟩),.string (str pack),.int .i64 no] W (Ret fun v w => ∃ X',(∀ x ∈ X,x ∈ X') ∧ v = .tuple #[.slice none 0 0,.int .i64 7] ∧ St W F [chR c f b T (Nt t) X'] w) := by
 refine Zab Tryz.func8 rfl Tryz.ntmps8 rfl ?_
 repeat (first|refine Yd1 ?_|refine Yef ?_|refine Yd2 ?_|refine Yab ?_)
 refine Zaa _ rfl rfl rfl rfl rfl (Zla c pack no _ (hG.at_ hS)) ?_
 rintro _ w (⟨hne,_⟩ | ⟨_,pb,rfl,hS'⟩)
 ·exfalso
  obtain ⟨r1,r2,r3⟩ := hR
  apply hne
  unfold Za9
  rw [if_neg (fun e => e r1),if_neg (by omega)]
 replace hS := hS.plus hS';clear hS';repeat (first|refine Yd1 ?_|refine Yeu ?_|refine Yec ?_|refine Yab ?_)
 obtain ⟨_,hcc,hr1,hw,hbk⟩ := hS.call [false,true]
 refine Zaa _ rfl rfl rfl rfl rfl (get_ ht (some ⟨pb,0,none⟩) [varN,pack,rN no] 3 _ _ (hT.mono hw) (hG.mono hw) (hr1 (own 9 1 (some ⟨pb,0,none⟩) 3 (strV [varN,pack,rN no])) (by simp)).own_row (by simp) hcc) ?_
 rintro v w ⟨X2,hX2,hS,hv⟩
 replace hS := hbk hS
 clear hbk hw hcc hr1;rw [hg] at hv;obtain ⟨rfl,he⟩ := hv
 repeat (first|refine Yd1 ?_|refine Yet ?_|refine Yao (fun _ hS _ => ?_)|refine Yas (fun _ _ hS _ => ?_)|refine Yei ?_|refine Yab ?_|refine Yap ?_|refine Ybr ?_)
 exact ⟨X2,hX2,rfl,hS.took⟩
theorem Zqp (ht : TreeOk n t) (pack : List UInt8) (no : Int) (hR : RightA pack no) (bs : List UInt8) (hbl : bs.length ≤ 2000) (hV : RevS t pack (rN no) (Zan bs)) (W : World) (F : Nat → Prop) (hT : TreeRo W F f tp n b T) (hG : Lg W F) (hS : St W F [chR c f b T (Nt t) X] W) :
  Calls Tryz.prog 8 #[.pointer (some ⟨c,0,none⟩),.string (str pack),.int .i64 no] W (Ret fun v w => ∃ X' a q,(∀ x ∈ X,x ∈ X') ∧ v = .tuple #[.slice a bs.length q,.int .i64 0] ∧ bs.length ≤ q ∧ St W F [chR c f b T (Nt t) X',own 5 1 a q (bv bs)] w) := by
 have hrn := Zqf hR.2.1 hR.2.2
 obtain ⟨u,hgu,hu,hul,_⟩ := hV.dir
 have hl := Zh5 ht hR.three hgu hu
 have hcf := Zfx hbl
 obtain ⟨nd0,hnd⟩ := hV.get hR
 refine Zab Tryz.func8 rfl Tryz.ntmps8 rfl ?_
 repeat (first|refine Yd1 ?_|refine Yef ?_|refine Yd2 ?_|refine Yab ?_)
 refine Zaa _ rfl rfl rfl rfl rfl (Zla c pack no _ (hG.at_ hS)) ?_
 rintro _ w (⟨hne,_⟩ | ⟨_,pb,rfl,hS'⟩)
 ·exfalso
  obtain ⟨r1,r2,r3⟩ := hR
  apply hne
  unfold Za9
  rw [if_neg (fun e => e r1),if_neg (by omega)]
 replace hS := hS.plus hS';clear hS';repeat (first|refine Yd1 ?_|refine Yeu ?_|refine Yec ?_|refine Yab ?_)
 obtain ⟨_,hcc,hr1,hw,hbk⟩ := hS.call [false,true]
 refine Zaa _ rfl rfl rfl rfl rfl (get_ ht (some ⟨pb,0,none⟩) [varN,pack,rN no] 3 _ _ (hT.mono hw) (hG.mono hw) (hr1 (own 9 1 (some ⟨pb,0,none⟩) 3 (strV [varN,pack,rN no])) (by simp)).own_row (by simp) hcc) ?_
 rintro v w ⟨X2,hX2,hS,hv⟩
 replace hS := hbk hS
 clear hbk hw hcc hr1;rw [hnd] at hv;obtain ⟨a1,q1,rfl,_,_⟩ := hv
 repeat (first|refine Yd1 ?_|refine Yeu ?_|refine Yao (fun _ hS _ => ?_)|refine Yas (fun _ _ hS _ => ?_)|refine Yec ?_|refine Yab ?_)
 have hS : St W F [chR c f b T (Nt t) X2,own 9 1 (some ⟨pb,0,none⟩) 3 (strV [varN,pack,rN no])] _ := hS.took
 obtain ⟨_,hcc,hr1,hw,hbk⟩ := hS.call [true]
 refine Zaa _ rfl rfl rfl rfl rfl (Zoj ht (some ⟨pb,0,none⟩) [varN,pack,rN no] 3 _ _ (hT.mono hw) (hG.mono hw) (hr1 (own 9 1 (some ⟨pb,0,none⟩) 3 (strV [varN,pack,rN no])) (by simp)).own_row (by simp) hcc) ?_
 rintro _ w ⟨X3,la,lq,hX3,rfl,_,hS⟩
 replace hS := hbk hS
 clear hbk hw hcc hr1;have hX13 : ∀ x ∈ X,x ∈ X3 := fun x hx => hX3 x (hX2 x hx)
 rw [hl] at hS ⊢;simp only [List.length_map,hul] at hS ⊢
 repeat (first|refine Yd1 ?_|(refine X_id ?_;first|refine Yaf ?_|refine Yag ?_|refine Yax ?_|refine Yar ?_|refine Ya5 ?_|refine Ybi (fun _ _ hS _ => ?_))|refine Ye4 ?_|refine Yab ?_)
 rename_i sb _ _;refine Zak (α := Nat × Option Addr × Nat × List RowD) (fun z => [(0,.pointer (some ⟨c,0,none⟩)),(8,.slice (some ⟨pb,0,none⟩) 3 3),(12,.slice la (Zan bs).length lq),(13,.slice z.2.1 ((Zan bs).take z.1).flatten.length z.2.2.1),(46,.int .i64 ((Zan bs).length : Nat)),(47,.int .i64 (z.1 : Nat))])
  (fun z w => z.1 ≤ (Zan bs).length ∧ ((Zan bs).take z.1).flatten.length ≤ z.2.2.1 ∧ (∀ x ∈ X,x ∈ z.2.2.2) ∧ St W F [own 5 1 z.2.1 z.2.2.1 (bv ((Zan bs).take z.1).flatten),chR c f b T (Nt t) z.2.2.2,own 9 1 (some ⟨pb,0,none⟩) 3 (strV [varN,pack,rN no])] w) (fun z => (Zan bs).length - z.1) (0,some ⟨sb,0,none⟩,0,X3) ⟨rfl,rfl,rfl,rfl,rfl,rfl,trivial⟩ ⟨Nat.zero_le _,Nat.le_refl _,hX13,hS.pick [0,1,1]⟩ ?_
 clear hS;rintro ⟨i,a2,c2,X4⟩ w ⟨hi,hc2,hX4,hS⟩
 simp only at hi hc2 hX4 hS ⊢
 by_cases hlt : i < (Zan bs).length
 case neg =>
  rw [List.take_of_length_le (by omega),Zl5] at hc2 hS ⊢;repeat (first|refine Yeh ?_|(refine X_id ?_;first|refine Yaf ?_|refine Yag ?_|refine Ya3 ?_|refine Yar ?_|refine Ybg ?_|refine Ya1 ?_|refine Ybq ?_)|refine Yae ?_|refine Yad ?_|refine Yah ?_|refine Yak ?_|refine Ya6 ?_|refine Yai ?_|refine Yab ?_|refine Ya7 ?_|refine Ya8 ?_|refine Ybr ?_)
  exact ⟨X4,a2,c2,hX4,rfl,hc2,hS.took⟩
 have hx0 : (Zan bs)[i]? = some (Zan bs)[i] := List.getElem?_eq_getElem hlt
 have htk : (Zan bs).take (i + 1) = (Zan bs).take i ++ [(Zan bs)[i]] := List.take_succ_eq_append_getElem hlt
 generalize (Zan bs)[i] = ch at hx0 htk;obtain ⟨hf1,hf2⟩ := Zq1 bs hx0
 obtain ⟨num,hpart⟩ := hV.part i ch hx0
 have hgp : getR t ([varN,pack,rN no] ++ [pN i]) = .ok ⟨⟨0,384,0,0⟩,ch⟩ := Zkd (Zrx hR.1 hrn (Z29 (by omega))) hpart
 have hacc : ((Zan bs).take (i + 1)).flatten = ((Zan bs).take i).flatten ++ ch := by rw [htk]; simp
 have hle : (((Zan bs).take i).flatten ++ ch).length ≤ 2000 := by
  have h := congrArg List.length (congrArg List.flatten (List.take_append_drop (i + 1) (Zan bs)))
  rw [List.flatten_append,List.length_append,hacc,Zl5] at h;omega
 rw [List.length_append] at hle;generalize ((Zan bs).take i).flatten = acc at hacc hle hc2 hS ⊢;repeat (first|refine Yd1 ?_|refine Yaf ?_|refine Yag ?_|refine Ya0 ?_|refine Yd5 ?_|refine Yab ?_)
 refine Zaa _ rfl rfl rfl rfl rfl (Z25 (some ⟨pb,0,none⟩) [varN,pack,rN no] 3 i (by omega) _ (hG.at_ hS) ((hS.rd (r := own 9 1 (some ⟨pb,0,none⟩) 3 (strV [varN,pack,rN no])) (by repeat (first|exact List.mem_cons_self ..|refine Ycw ?_))).own_row.ro) (by simp)) ?_
 rintro _ w ⟨a5,q5,rfl,hq5,hS'⟩
 replace hS := hS.plus hS';clear hS';repeat (first|refine Yaa ?_)
 have hS : St W F [chR c f b T (Nt t) X4,own 9 1 a5 q5 (strV ([varN,pack,rN no] ++ [pN i])),own 5 1 a2 c2 (bv acc),own 9 1 (some ⟨pb,0,none⟩) 3 (strV [varN,pack,rN no])] _ := hS.took
 obtain ⟨_,hcc,hr1,hw,hbk⟩ := hS.call [true]
 refine Zaa _ rfl rfl rfl rfl rfl (get_ ht a5 ([varN,pack,rN no] ++ [pN i]) q5 _ _ (hT.mono hw) (hG.mono hw) (hr1 (own 9 1 a5 q5 (strV ([varN,pack,rN no] ++ [pN i]))) (by simp)).own_row (by simp) hcc) ?_
 rintro v w ⟨X5,hX5,hS,hv⟩
 replace hS := hbk hS
 clear hbk hw hcc hr1;have hX15 : ∀ x ∈ X,x ∈ X5 := fun x hx => hX5 x (hX4 x hx)
 rw [hgp] at hv;obtain ⟨a6,q6,rfl,hq6,hrow⟩ := hv
 by_cases hlast : i + 1 < (Zan bs).length
 ·have h5 : (⟨⟨0,384,0,0⟩,ch⟩ : Nd).data.length = 512 := hf1 hlast
  repeat (first|refine Yev ?_|(refine X_id ?_;first|refine Yaf ?_|refine Yag ?_|refine Yan ?_|refine Yax ?_|refine Yba ?_|refine Ya3 ?_|refine Ybn ?_|refine Yar ?_|refine Ybg ?_|refine Ya5 ?_|refine Yc4 ?_|refine Ybw ?_|refine Yaq ?_|refine Yao (fun _ hS _ => ?_)|refine Yas (fun _ _ hS _ => ?_))|refine Yec ?_|refine Yab ?_)
  refine Zar (T := 5) (bytes := 1) (a := a2) (m := ch.length) rfl rfl rfl rfl rfl hS (by rw [Zal,Nat.mul_one]) hc2 (hrow.rd (hS.rd (r := chR c f b T (Nt t) X5) (by repeat (first|exact List.mem_cons_self ..|refine Ycw ?_))).ch) (by rw [Zal,Nat.mul_one]) Zdw (by omega) (by simp only [maxLen];omega) (fun b' q'' w hS hq'' _ => ?_)
  repeat (first|refine Yd1 ?_|refine Yeg ?_|refine Yad ?_|refine Yd9 ?_)
  refine Zaf (z := (i,a2,c2,X4)) (i + 1,b',q'',X5) ⟨rfl,rfl,rfl,by dsimp only; rw [hacc,List.length_append]; rfl,rfl,rfl,trivial⟩ ⟨hlt,by dsimp only; rw [hacc,List.length_append]; exact hq'',hX15,?_⟩ (by dsimp only; omega)
  dsimp only
  rw [hacc,show bv (acc ++ ch) = bv acc ++ bv ch from List.map_append];exact hS.took
 ·by_cases hi0 : 0 < i
  ·have h5 : ¬ (⟨⟨0,384,0,0⟩,ch⟩ : Nd).data.length = 0 := hf2 hi0
   repeat (first|refine Yev ?_|(refine X_id ?_;first|refine Yaf ?_|refine Yag ?_|refine Yan ?_|refine Yax ?_|refine Yba ?_|refine Ya3 ?_|refine Ybb ?_|refine Yar ?_|refine Ybf ?_|refine Ybg ?_|refine Ya5 ?_|refine Ybv ?_|refine Yc4 ?_|refine Ybw ?_|refine Yaq ?_|refine Yao (fun _ hS _ => ?_)|refine Yas (fun _ _ hS _ => ?_))|refine Yec ?_|refine Yab ?_)
   refine Zar (T := 5) (bytes := 1) (a := a2) (m := ch.length) rfl rfl rfl rfl rfl hS (by rw [Zal,Nat.mul_one]) hc2 (hrow.rd (hS.rd (r := chR c f b T (Nt t) X5) (by repeat (first|exact List.mem_cons_self ..|refine Ycw ?_))).ch) (by rw [Zal,Nat.mul_one]) Zdw (by omega) (by simp only [maxLen];omega) (fun b' q'' w hS hq'' _ => ?_)
   repeat (first|refine Yd1 ?_|refine Yeg ?_|refine Yad ?_|refine Yd9 ?_)
   refine Zaf (z := (i,a2,c2,X4)) (i + 1,b',q'',X5) ⟨rfl,rfl,rfl,by dsimp only; rw [hacc,List.length_append]; rfl,rfl,rfl,trivial⟩ ⟨hlt,by dsimp only; rw [hacc,List.length_append]; exact hq'',hX15,?_⟩ (by dsimp only; omega)
   dsimp only
   rw [hacc,show bv (acc ++ ch) = bv acc ++ bv ch from List.map_append];exact hS.took
  ·have hi1 : i = 0 := by omega
   repeat (first|refine Yev ?_|(refine X_id ?_;first|refine Yaf ?_|refine Yag ?_|refine Yan ?_|refine Yax ?_|refine Yba ?_|refine Ya3 ?_|refine Ybb ?_|refine Yar ?_|refine Ybf ?_|refine Ya5 ?_|refine Ybq ?_|refine Yc4 ?_|refine Ybw ?_|refine Yaq ?_|refine Yao (fun _ hS _ => ?_)|refine Yas (fun _ _ hS _ => ?_))|refine Yec ?_|refine Yab ?_)
   refine Zar (T := 5) (bytes := 1) (a := a2) (m := ch.length) rfl rfl rfl rfl rfl hS (by rw [Zal,Nat.mul_one]) hc2 (hrow.rd (hS.rd (r := chR c f b T (Nt t) X5) (by repeat (first|exact List.mem_cons_self ..|refine Ycw ?_))).ch) (by rw [Zal,Nat.mul_one]) Zdw (by omega) (by simp only [maxLen];omega) (fun b' q'' w hS hq'' _ => ?_)
   repeat (first|refine Yd1 ?_|refine Yeg ?_|refine Yad ?_|refine Yd9 ?_)
   refine Zaf (z := (i,a2,c2,X4)) (i + 1,b',q'',X5) ⟨rfl,rfl,rfl,by dsimp only; rw [hacc,List.length_append]; rfl,rfl,rfl,trivial⟩ ⟨hlt,by dsimp only; rw [hacc,List.length_append]; exact hq'',hX15,?_⟩ (by dsimp only; omega)
   dsimp only
   rw [hacc,show bv (acc ++ ch) = bv acc ++ bv ch from List.map_append];exact hS.took
end
end Cr
namespace Cr
open Go
set_option maxRecDepth 10000
set_option maxHeartbeats 64000000

def Zgg (z : List (Int × List (List UInt8)) × Nat) (no : Int) : List (Int × List (List UInt8)) × Nat :=
 if z.1.any fun x => decide (x.1 = no) then (z.1.filter fun x => decide (x.1 ≠ no),z.2 + 1) else z
theorem Zi3 {z : List (Int × List (List UInt8)) × Nat} {no : Int} {cs : List (List UInt8)} (h : (no,cs) ∈ z.1) : Zgg z no = (z.1.filter fun x => decide (x.1 ≠ no),z.2 + 1) := by
 unfold Zgg
 rw [if_pos (List.any_eq_true.2 ⟨_,h,by simp⟩)]
theorem Zjp {z : List (Int × List (List UInt8)) × Nat} {no : Int} (h : ∀ x ∈ z.1,x.1 ≠ no) : Zgg z no = z := by
 unfold Zgg
 rw [if_neg];intro e
 obtain ⟨x,hx,e⟩ := List.any_eq_true.1 e
 exact h x hx (of_decide_eq_true e)
theorem Zxr (z : List (Int × List (List UInt8)) × Nat) (no : Int) : (∃ cs,(no,cs) ∈ z.1) ∨ ∀ x ∈ z.1,x.1 ≠ no := by
 by_cases h : z.1.any fun x => decide (x.1 = no)
 ·obtain ⟨x,hx,e⟩ := List.any_eq_true.1 h
  obtain ⟨k,cs⟩ := x
  obtain rfl : k = no := of_decide_eq_true e
  exact .inl ⟨cs,hx⟩
 ·exact .inr fun x hx e => h (List.any_eq_true.2 ⟨x,hx,decide_eq_true e⟩)
theorem Zn6 (n : Nat) (no : Int) : Zgg ([],n) no = ([],n) := rfl
theorem Zlv (no other : Int) (cs : List (List UInt8)) : [no,no,other,1000000].foldl Zgg ([(no,cs)],0) = ([],1) := by
 simp only [List.foldl_cons,List.foldl_nil]
 rw [Zi3 (z := ([(no,cs)],0)) (cs := cs) (by simp)]
 simp [Zn6]
theorem Ztw {no other : Int} (hne : other ≠ no) (h6 : other ≤ 999999) (cs ds : List (List UInt8)) : [no,no,other,1000000].foldl Zgg ([(other,ds),(no,cs)],0) = ([],2) := by
 simp only [List.foldl_cons,List.foldl_nil]
 rw [Zi3 (z := ([(other,ds),(no,cs)],0)) (cs := cs) (by simp)]
 have e : ([(other,ds),(no,cs)].filter fun x => decide (x.1 ≠ no)) = [(other,ds)] := by simp [hne]
 simp only [e]
 rw [Zjp (z := ([(other,ds)],0 + 1)) (no := no) (by simpa using hne),Zi3 (z := ([(other,ds)],0 + 1)) (cs := ds) (by simp)]
 simp [Zn6]
def clrT (t : Tn) (p : List (List UInt8)) (u : Tn) : Tn := (Zcy (Zbv p t (u.kids.map Tn.nm).reverse) p).2
theorem RevS.file {t u : Tn} {pack r : List UInt8} {cs : List (List UInt8)} {n : Nat} (ht : TreeOk n t) (h : RevS t pack r cs) (hg : goT t [varN,pack,r] = .ok u) : ∀ x ∈ u.kids,x.st.kind = 0 := fun x hx => by
 obtain ⟨u',hg',hu',_,hun⟩ := h.dir
 rw [hg] at hg';injection hg' with e
 subst e
 obtain ⟨i,hi,hxi⟩ := hun x hx
 obtain ⟨num,hp⟩ := h.part i _ (List.getElem?_eq_getElem hi)
 have h1 := Zcw [varN,pack,r] t (pN i)
 rw [hg] at h1;have h2 : Zaz u (pN i) = .ok x := by
  unfold Zaz
  rw [if_pos hu',← hxi,Zj7 (ht.node u (Zba hg)) hx]
 rw [show [varN,pack,r] ++ [pN i] = [varN,pack,r,pN i] from rfl,hp] at h1
 have h3 : Except.ok (Tn.mk (pN i) num ⟨0,384,0,0⟩ cs[i] []) = (.ok x : Except Int Tn) := h1.trans h2
 injection h3 with h3
 rw [← h3]; rfl
theorem Z3r {n : Nat} {t u x : Tn} {p : List (List UInt8)} (ht : TreeOk n t) (hg : goT t p = .ok u) (hu : u.st.kind = 1) (hx : x ∈ u.kids) : goT t (p ++ [x.nm]) = .ok x := by
 rw [Zcw,hg];show Zaz u x.nm = .ok x
 unfold Zaz
 rw [if_pos hu,Zj7 (ht.node u (Zba hg)) hx]
theorem Zj0 {n : Nat} {p : List (List UInt8)} : ∀ (l : List (List UInt8)) {t : Tn},TreeOk n t → TreeOk n (Zbv p t l)
 | [],_,h => h
 | s :: l,_,h => Zj0 l (Zry h _)
theorem Zjz (p : List (List UInt8)) (s : List UInt8) : ∀ (l : List (List UInt8)) (t : Tn),Zbv p t (l ++ [s]) = (Zcy (Zbv p t l) (p ++ [s])).2
 | [],_ => rfl
 | x :: l,t => by rw [List.cons_append,Zbv,Zjz p s l,Zbv]
theorem Zlj (p : List (List UInt8)) (s : List UInt8) : ∀ (l : List (List UInt8)) (t : Tn),Zjy p t (l ++ [s]) → Zjy p t l ∧ (Zcy (Zbv p t l) (p ++ [s])).1 = 0
 | [],_,h => ⟨trivial,h.1⟩
 | x :: l,t,h => by
  rw [List.cons_append,Zjy] at h;obtain ⟨h1,h2⟩ := h
  obtain ⟨h3,h4⟩ := Zlj p s l _ h2
  exact ⟨⟨h1,h3⟩,h4⟩
theorem Zx0 {p : List (List UInt8)} {t : Tn} {l : List (List UInt8)} (h : Zjy p t l.reverse) {k : Nat} (hk : k < l.length) : (Zcy (Zbv p t (l.drop (k + 1)).reverse) (p ++ [l[k]])).1 = 0 ∧ Zbv p t (l.drop k).reverse = (Zcy (Zbv p t (l.drop (k + 1)).reverse) (p ++ [l[k]])).2 := by
 have e : (l.drop k).reverse = (l.drop (k + 1)).reverse ++ [l[k]] := by rw [List.drop_eq_getElem_cons hk,List.reverse_cons]
 refine ⟨?_,by rw [e,Zjz]⟩
 have h2 : l.reverse = (l.drop (k + 1)).reverse ++ [l[k]] ++ (l.take k).reverse := by
  rw [← e,← List.reverse_append,List.take_append_drop]
 rw [h2] at h;have pre : ∀ (x y : List (List UInt8)) (t : Tn),Zjy p t (x ++ y) → Zjy p t x := fun x => by
  induction x with
  | nil => intro y t _; trivial
  | cons a x ih => intro y t h; exact ⟨h.1,ih y _ h.2⟩
 exact (Zlj p _ _ _ (pre _ _ _ h)).2
end Cr
namespace Cr
open Go Go.Proofs
set_option maxRecDepth 100000
set_option maxHeartbeats 64000000
attribute [local irreducible] Calls

theorem St.front (r : Res) {W : World} {F : Nat → Prop} {rs rest : List Res} {w : World} (hS : St W F rs w) [h : Take1 rs r rest] : St W F (r :: rest) w := hS.perm h.perm
theorem Z3p (n : Nat) (W : World) (hn : n ≤ 1048576) :
  Calls Tryz.prog 81 #[.slice none 0 0,.int .i64 (n : Nat)] W (Ret fun v w => ∃ a c,v = .slice a 0 c ∧ St W noF [own 9 1 a c []] w) := by
 have hS := (St.start W).own_none 9 1 none
 by_cases h0 : n = 0
 ·subst h0
  refine Zab Tryz.func81 rfl Tryz.ntmps81 rfl ?_
  repeat (first|refine Yd1 ?_|(refine X_id ?_;first|refine Yaf ?_|refine Yag ?_|refine Yar ?_|refine Ycx ?_|refine Ya1 ?_|refine Ybq ?_|refine Ybw ?_)|refine Yeq ?_|refine Yd3 ?_)
  exact ⟨none,0,rfl,hS⟩
 ·refine Zab Tryz.func81 rfl Tryz.ntmps81 rfl ?_
  repeat (first|refine Yd1 ?_|(refine X_id ?_;first|refine Yaf ?_|refine Yag ?_|refine Yar ?_|refine Ycx ?_|refine Ya1 ?_|refine Ybv ?_|refine Ybw ?_)|refine Yew ?_|refine Yab ?_)
  refine X_yl (Zam (l := 0) (h := 0) rfl rfl rfl rfl (.inr ⟨_,_,rfl,by omega,by omega,by omega⟩) (.inl ⟨rfl,rfl⟩)) rfl rfl ?_
  rw [sub_zero];repeat (first|refine Yaa ?_|refine Yaf ?_)
  have e0 : ((n : Int) - (((0 : Nat) : Int) - ((0 : Nat) : Int))) = (n : Nat) := by omega
  refine Zps (m := n) (n := 0) rfl rfl (by first | rfl | (rw [e0]; rfl) | (simp only [e0]; rfl)) rfl rfl rfl rfl hS rfl (by omega) (by omega) (by simp only [maxLen]; omega) (fun a c w hS hc _ => ?_)
  repeat (first|refine Yaa ?_|refine Yaf ?_|refine Yar ?_)
  refine X_yl (Zam (l := 0) (h := 0) rfl rfl rfl rfl (.inr ⟨_,_,rfl,by omega,by omega,by omega⟩) (.inl ⟨rfl,rfl⟩)) rfl rfl ?_
  rw [sub_zero];repeat (first|refine Yd1 ?_|refine Yef ?_|refine Yee ?_|refine Yd3 ?_)
  exact ⟨a,c,rfl,hS.head (own.shrink 0)⟩
structure Ps where
 a : Option Addr
 c : Nat
 p : List (List UInt8)
def Ps.val (x : Ps) : Value := .slice x.a x.p.length x.c
def Zc2 (l : List Ps) : List (List UInt8) := l.flatMap Ps.p
theorem Zls {l : List Ps} {i : Nat} {x : Ps} (h : l[i]? = some x) : Zc2 (l.take (i + 1)) = Zc2 (l.take i) ++ x.p := by
 obtain ⟨hi,hx⟩ := List.getElem?_eq_some_iff.1 h
 rw [List.take_succ_eq_append_getElem hi,hx];simp [Zc2]
theorem Zi6 (l : List Ps) (i : Nat) : (Zc2 (l.take i)).length ≤ (Zc2 l).length := by
 have e : Zc2 (l.take i ++ l.drop i) = Zc2 (l.take i) ++ Zc2 (l.drop i) := List.flatMap_append
 rw [List.take_append_drop] at e;rw [e,List.length_append]; omega
theorem Zxq (p q : List (List UInt8)) : strV (p ++ q) = strV p ++ strV q := List.map_append
theorem Zy6 (a : Option Addr) (c : Nat) (l : List Ps) (W : World) (hB : Ro W noF (row a (l.map Ps.val))) (hall : ∀ x ∈ l,Ro W noF (row x.a (strV x.p))) (hl : l.length ≤ 1048576) (hn : (Zc2 l).length ≤ 1048576) :
  Calls Tryz.prog 39 #[.slice a l.length c] W (Ret fun v w => ∃ a' c',v = .slice a' (Zc2 l).length c' ∧ (Zc2 l).length ≤ c' ∧ St W noF [own 9 1 a' c' (strV (Zc2 l))] w) := by
 have hS := St.start W
 have hBr := hB
 refine Zab Tryz.func39 rfl Tryz.ntmps39 rfl ?_
 repeat (first|refine Yd1 ?_|refine Ye1 ?_|refine Yd4 ?_|refine Yab ?_)
 refine Zcd (α := Unit) (fun _ => [(0,.slice a l.length c),(3,.int .i64 ((Zc2 l).length : Nat))]) (fun _ w => St W noF [] w) ?_ ?_
 ·refine Zak (α := Nat) (fun i => [(0,.slice a l.length c),(3,.int .i64 ((Zc2 (l.take i)).length : Nat)),(9,.slice a l.length c),(10,.int .i64 (l.length : Nat)),(11,.int .i64 (i : Nat))])
   (fun i w => i ≤ l.length ∧ St W noF [] w) (fun i => l.length - i) 0 ⟨rfl,rfl,rfl,rfl,rfl,trivial⟩ ⟨Nat.zero_le _,hS⟩ ?_
  clear hS;rintro i w ⟨hi,hS⟩
  have hle := Zi6 l i
  by_cases hlt : i < l.length
  ·have hx0 : l[i]? = some l[i] := List.getElem?_eq_getElem hlt
   generalize l[i] = x at hx0;have hj := Zls hx0
   have hle2 := Zi6 l (i + 1)
   have hjl : (Zc2 (l.take (i + 1))).length = (Zc2 (l.take i)).length + x.p.length := by rw [hj]; simp
   have hr := hBr
   have hx : (l.map Ps.val)[i]? = some (.slice x.a x.p.length x.c) := by simp [hx0,Ps.val]
   obtain ⟨xb,xo,rfl⟩ := (hr.rd hS).base (by intro e; rw [e] at hx; simp at hx)
   repeat (first|refine Yd1 ?_|(refine X_id ?_;first|refine Yaf ?_|refine Yag ?_|refine Yar ?_|refine Ya0 ?_|refine Ya1 ?_|refine Ybd ?_|refine Yaw ?_|refine Yb4 ?_)|refine Yd8 ?_|refine Yd9 ?_)
   refine Zaf (i + 1) ⟨rfl,?_,rfl,rfl,rfl,trivial⟩ ⟨by omega,hS⟩ (by omega)
   rw [hjl]; rfl
  ·obtain rfl : i = l.length := by omega
   rw [List.take_length];repeat (first|refine Yd1 ?_|refine Ya1 ?_|refine Yed ?_|refine Yd7 ?_)
   exact Zcb () ⟨rfl,rfl,trivial⟩ hS
 ·clear hS
  rintro _ w hS
  repeat (first|refine Yaa ?_|refine Yaf ?_|refine Yd2 ?_)
  refine Zaa _ rfl rfl rfl rfl rfl (Z3p (Zc2 l).length _ hn) ?_
  rintro _ w ⟨a1,c1,rfl,hS'⟩
  replace hS := hS.plus hS';clear hS';repeat (first|refine Yd1 ?_|refine Ye1 ?_|refine Yd4 ?_|refine Yab ?_)
  refine Zak (α := Nat × Option Addr × Nat) (fun z => [(6,.slice z.2.1 (Zc2 (l.take z.1)).length z.2.2),(25,.slice a l.length c),(26,.int .i64 (l.length : Nat)),(27,.int .i64 (z.1 : Nat))])
   (fun z w => z.1 ≤ l.length ∧ (Zc2 (l.take z.1)).length ≤ z.2.2 ∧ St W noF [own 9 1 z.2.1 z.2.2 (strV (Zc2 (l.take z.1)))] w) (fun z => l.length - z.1) (0,a1,c1) ⟨rfl,rfl,rfl,rfl,trivial⟩ ⟨Nat.zero_le _,by simp [Zc2],hS⟩ ?_
  clear hS;rintro ⟨i,a2,c2⟩ w ⟨hi,hc,hS⟩
  simp only at hi hc hS ⊢
  have hle := Zi6 l i
  by_cases hlt : i < l.length
  ·have hx0 : l[i]? = some l[i] := List.getElem?_eq_getElem hlt
   have hxm := List.getElem_mem hlt
   generalize l[i] = x at hx0 hxm;have hj := Zls hx0
   have hle2 := Zi6 l (i + 1)
   have hjl : (Zc2 (l.take (i + 1))).length = (Zc2 (l.take i)).length + x.p.length := by rw [hj]; simp
   have hr := hBr
   have hx : (l.map Ps.val)[i]? = some (.slice x.a x.p.length x.c) := by simp [hx0,Ps.val]
   obtain ⟨xb,xo,rfl⟩ := (hr.rd hS).base (by intro e; rw [e] at hx; simp at hx)
   have hbx := hall x hxm
   repeat (first|refine Yd1 ?_|refine Yey ?_|refine Yd5 ?_|refine Yab ?_)
   refine Zar (bytes := 16) rfl rfl rfl rfl rfl hS (by rw [Zep,Nat.mul_one]) hc (hbx.rd hS) (by rw [Zep,Nat.mul_one]) (Zrp x.p) (by omega) (by simp only [maxLen]; omega) (fun a' c' w hS hc' _ => ?_)
   repeat (first|refine Yd1 ?_|refine Yeg ?_|refine Yad ?_|refine Yd9 ?_)
   refine Zaf (z := (i,a2,c2)) (i + 1,a',c') ⟨?_,rfl,rfl,rfl,trivial⟩ ⟨by simp only; omega,by simp only; omega,?_⟩ (by simp only; omega)
   ·simp only
    rw [hjl]; rfl
   ·simp only
    rw [hj,Zxq];exact hS
  ·obtain rfl : i = l.length := by omega
   rw [List.take_length] at hS hc ⊢;repeat (first|refine Yd1 ?_|refine Ye2 ?_|refine Yea ?_|refine Ye3 ?_)
   exact ⟨a2,c2,rfl,hc,hS⟩
theorem Zm5 (a : Option Addr) (c : Nat) (pa qa : Option Addr) (pc qc : Nat) (p q : List (List UInt8)) (W : World) (hB : Rd W (row a [.slice pa p.length pc,.slice qa q.length qc])) (hp : Rd W (row pa (strV p))) (hq : Rd W (row qa (strV q))) (hl : p.length + q.length ≤ 1000) :
  Calls Tryz.prog 39 #[.slice a 2 c] W (Ret fun v w => ∃ a' c',v = .slice a' (p ++ q).length c' ∧ (p ++ q).length ≤ c' ∧ St W noF [own 9 1 a' c' (strV (p ++ q))] w) := by
 have h := Zy6 a c [⟨pa,pc,p⟩,⟨qa,qc,q⟩] W hB.ro (fun x hx => by
  simp only [List.mem_cons,List.not_mem_nil,or_false] at hx
  rcases hx with rfl | rfl
  ·exact hp.ro
  ·exact hq.ro) (by simp) (by simp [Zc2]; omega)
 have e : Zc2 [⟨pa,pc,p⟩,⟨qa,qc,q⟩] = p ++ q := by simp [Zc2]
 rw [e] at h;exact h
abbrev entV (pa : Option Addr) (pc : Nat) (k m : Int) (da : Option Addr) (dl dq : Nat) : List Value := [.slice pa 1 pc,.int .i64 k,.int .i64 m,.slice da dl dq]
def EntsRd (X : List RowD) (l : List (List UInt8)) (rows : List (List Value)) : Prop :=
 rows.length = l.length ∧ ∀ (i : Nat) (s : List UInt8),l[i]? = some s → ∃ pa pc k m da dl dq,rows[i]? = some (entV pa pc k m da dl dq) ∧ 1 ≤ pc ∧ RX X pa (strV [s])
theorem EntsRd.sub {X X' : List RowD} {l : List (List UInt8)} {rows : List (List Value)} (h : EntsRd X l rows) (hX : ∀ x ∈ X,x ∈ X') : EntsRd X' l rows := ⟨h.1,fun i s hs => by
 obtain ⟨pa,pc,k,m,da,dl,dq,h1,h2,h3⟩ := h.2 i s hs
 exact ⟨pa,pc,k,m,da,dl,dq,h1,h2,h3.sub hX⟩⟩
theorem EntsRd.four {X : List RowD} {l : List (List UInt8)} {rows : List (List Value)} (h : EntsRd X l rows) : ∀ r ∈ rows,r.length = 4 := fun r hr => by
 obtain ⟨i,hi,rfl⟩ := List.getElem_of_mem hr
 have hs : l[i]? = some (l[i]'(by rw [← h.1]; exact hi)) := List.getElem?_eq_getElem _
 obtain ⟨pa,pc,k,m,da,dl,dq,h1,_⟩ := h.2 i _ hs
 rw [List.getElem?_eq_getElem hi] at h1;injection h1 with h1
 rw [h1]; rfl
theorem EntsRd.flat {X : List RowD} {l : List (List UInt8)} {rows : List (List Value)} (h : EntsRd X l rows) : rows.flatten.length = l.length * 4 := by rw [Zfi h.four,h.1]
theorem EntsRd.snoc {X : List RowD} {l : List (List UInt8)} {rows : List (List Value)} (h : EntsRd X l rows) {s : List UInt8} {pa : Option Addr} {pc : Nat} {k m : Int} {da : Option Addr} {dl dq : Nat} (hp : 1 ≤ pc) (hr : RX X pa (strV [s])) : EntsRd X (l ++ [s]) (rows ++ [entV pa pc k m da dl dq]) := ⟨by simp [h.1],fun i s' hs => by
 by_cases hi : i < l.length
 ·rw [List.getElem?_append_left hi] at hs
  rw [List.getElem?_append_left (by rw [h.1]; exact hi)]
  exact h.2 i s' hs
 ·have hie : i = l.length := by
   have := (List.getElem?_eq_some_iff.1 hs).1
   rw [List.length_append,List.length_singleton] at this;omega
  subst hie
  have e : s = s' := by simpa using hs
  subst e
  refine ⟨pa,pc,k,m,da,dl,dq,?_,hp,hr⟩
  rw [← h.1];simp⟩
section
variable {c f tp n : Nat} {b : Int} {T : Int → Option Nd} {t : Tn} {X : List RowD}
theorem Z5a {u : Tn} {p : List (List UInt8)} (ht : TreeOk n t) (hr : Zav p) (hrk : ∀ s,nameOk s → Zav (p ++ [s])) (hg : goT t p = .ok u) (hu : u.st.kind = 1) (hfile : ∀ x ∈ u.kids,x.st.kind = 0) (hpl : p.length ≤ 8) (hkl : u.kids.length ≤ 1000) (pa : Option Addr) (pc bc bh bo bd : Nat) (W : World) (F : Nat → Prop) (hT : TreeRo W F f tp n b T) (hG : Lg W F) (hp : Ro W F (row pa (strV p)))
  (hS : St W F [chR c f b T (Nt t) X,pts bc (.cells (List.toArray [.pointer (some ⟨c,0,none⟩)]) 24 (0,0)),pts bh (.cells (List.toArray [.slice pa p.length pc]) 35 (0,0)),pts bo (.cells (List.toArray [.slice none 0 0]) 44 (0,0))] W) :
  Calls Tryz.prog 38 #[.slice none 0 0,.pointer (some ⟨bc,0,none⟩),.pointer (some ⟨bh,0,none⟩),.pointer (some ⟨bo,0,none⟩),.pointer (some ⟨bd,0,none⟩)] W (Ret fun v w => v = .tuple #[] ∧ ∃ X' ea eq rows,(∀ x ∈ X,x ∈ X') ∧ EntsRd X' (u.kids.map Tn.nm) rows ∧ u.kids.length ≤ eq ∧
   St W F [chR c f b T (Nt t) X',own 100 4 ea eq rows.flatten,pts bo (.cells (List.toArray [.slice ea u.kids.length eq]) 44 (0,0))] w) := by
 have hl := Zh5 ht hr hg hu
 refine Zab Tryz.func38 rfl Tryz.ntmps38 rfl ?_
 repeat (first|refine Yae ?_)
 refine Zaq (.s 0 (.s 1 (.s 2 (.h 3 (.h 4 (.h 5 (.s 6 (.s 7 (.s 8 (.s 9 (.s 10 .nil))))) .no) .no) .no)))) mixed (by kernel_rfl) rfl ?_
 have hS := hS.drew
 repeat (first|refine Ybi (fun _ _ hS _ => ?_)|(refine Zae ?_;first|refine Ya4 ?_|refine Ybm ?_|refine Yay ?_)|(refine Zac ?_;first|refine Yaz ?_))
 refine Zaa _ rfl rfl rfl rfl rfl (Zm5 _ _ pa none pc 0 p [] _ (hS.rd (List.mem_cons_self ..)).own_row (hp.rd hS) (Zk1 _ _) (by simp; omega)) ?_
 rintro _ w ⟨a1,q1,rfl,hq1,hS'⟩
 replace hS := hS.plus hS';clear hS';rw [List.append_nil] at hq1 hS ⊢;repeat (first|(refine Zae ?_;first|refine Yay ?_)|(refine Zac ?_;first|refine Yaz ?_))
 replace hS := hS.front (chR c f b T (Nt t) X)
 obtain ⟨_,hcc,hr1,hw,hbk⟩ := hS.call [true]
 refine Zaa _ rfl rfl rfl rfl rfl (Zoj ht a1 p q1 _ _ (hT.mono hw) (hG.mono hw) (hr1 (own 9 1 a1 q1 (strV p)) (by simp)).own_row (by omega) hcc) ?_
 rintro _ w ⟨X3,la,lq,hX3,rfl,_,hS⟩
 replace hS := hbk hS
 clear hbk hw hcc hr1;rw [hl] at hS ⊢;have hnl : (u.kids.map Tn.nm).length = u.kids.length := List.length_map ..
 simp only at hS ⊢
 repeat (first|refine Yd1 ?_|refine Yaf ?_|refine Yar ?_|refine Yd4 ?_|refine Yab ?_|(refine Zae ?_;first|refine Ya2 ?_|refine Ya4 ?_|refine Ybl ?_|refine Ydn ?_)|(refine Zac ?_;first|refine Yaz ?_))
 have hS : St W F [own 9 1 la lq (strV (u.kids.map Tn.nm)),chR c f b T (Nt t) X3,pts bc (.cells (List.toArray [.pointer (some ⟨c,0,none⟩)]) 24 (0,0)),pts bh (.cells (List.toArray [.slice pa p.length pc]) 35 (0,0)),pts bo (.cells (List.toArray [.slice none 0 0]) 44 (0,0))] _ := hS.took
 refine Zak (α := Nat × Option Addr × Nat × List (List Value) × List RowD) (fun z => [(0,.slice none 0 0),(1,.pointer (some ⟨bc,0,none⟩)),(2,.pointer (some ⟨bh,0,none⟩)),(3,.pointer (some ⟨bo,0,none⟩)),(4,.pointer (some ⟨bd,0,none⟩)),(22,.slice la (u.kids.map Tn.nm).length lq),(23,.int .i64 ((u.kids.map Tn.nm).length : Nat)),(24,.int .i64 (z.1 : Nat))])
  (fun z w => z.1 ≤ u.kids.length ∧ z.1 ≤ z.2.2.1 ∧ (∀ x ∈ X,x ∈ z.2.2.2.2) ∧ EntsRd z.2.2.2.2 ((u.kids.map Tn.nm).take z.1) z.2.2.2.1 ∧ St W F [own 100 4 z.2.1 z.2.2.1 z.2.2.2.1.flatten,own 9 1 la lq (strV (u.kids.map Tn.nm)),chR c f b T (Nt t) z.2.2.2.2,pts bc (.cells (List.toArray [.pointer (some ⟨c,0,none⟩)]) 24 (0,0)),pts bh (.cells (List.toArray [.slice pa p.length pc]) 35 (0,0)),pts bo (.cells (List.toArray [.slice z.2.1 z.1 z.2.2.1]) 44 (0,0))] w) (fun z => u.kids.length - z.1) (0,none,0,[],X3) ⟨rfl,rfl,rfl,rfl,rfl,rfl,rfl,rfl,trivial⟩ ⟨Nat.zero_le _,Nat.le_refl _,hX3,⟨rfl,fun i s h => by simp at h⟩,hS.own_none _ _ _⟩ ?_
 clear hS;rintro ⟨i,ea,eq,rows,X4⟩ w ⟨hi,hie,hX4,hE,hS⟩
 simp only at hi hie hX4 hE hS ⊢
 by_cases hlt : i < u.kids.length
 case neg =>
  obtain rfl : i = u.kids.length := by omega
  rw [List.take_of_length_le (by omega)] at hE;repeat (first|refine Yd1 ?_|refine Ya1 ?_|refine Yed ?_|refine Yab ?_|refine Ya7 ?_|refine Ya8 ?_|refine Ybs ?_)
  exact ⟨rfl,X4,ea,eq,rows,hX4,hE,hie,hS.took⟩
 have hx0 : u.kids[i]? = some u.kids[i] := List.getElem?_eq_getElem hlt
 have hxm : u.kids[i] ∈ u.kids := List.getElem_mem hlt
 have htk : (u.kids.map Tn.nm).take (i + 1) = (u.kids.map Tn.nm).take i ++ [u.kids[i].nm] := by
  rw [← List.map_take,List.take_succ_eq_append_getElem hlt,List.map_append,List.map_take]; rfl
 generalize u.kids[i] = x at hx0 hxm htk;have hxn : nameOk x.nm := (ht.node u (Zba hg)).nmk x hxm
 have hxk := hfile x hxm
 have hgx : getR t (p ++ [x.nm]) = .ok (shN x.nd) := Zkd (hrk _ hxn) (Z3r ht hg hu hxm)
 have hsx : (shN x.nd).st = x.st := Zxs x.nd
 obtain ⟨s,hs⟩ : ∃ s,s = x.nm := ⟨_,rfl⟩
 rw [← hs] at hxn htk hgx;have hcell : (strV (u.kids.map Tn.nm))[i]? = some (.string (str s)) := by simp [strV,hx0,hs]
 have hfl := hE.flat
 rw [List.length_take,hnl,Nat.min_eq_left hi] at hfl;generalize shN x.nd = nd at hgx hsx;have hr := (hS.rd (r := own 9 1 la lq (strV (u.kids.map Tn.nm))) (by simp)).own_row
 obtain ⟨lb,lo,rfl⟩ := hr.base (by intro e; rw [e] at hcell; simp at hcell)
 have hx := hcell
 repeat (first|refine Yd1 ?_|refine Yey ?_|refine Yd5 ?_|refine Yab ?_)
 refine Zaa _ rfl rfl rfl rfl rfl (Zp6 none [] 0 _ (Zk1 _ _) (by simp)) ?_
 rintro _ w ⟨a2,q2,rfl,hq2,hS'⟩
 replace hS := hS.plus hS';clear hS';repeat (first|refine Yaa ?_|refine Yaf ?_|refine Ybi (fun _ _ hS _ => ?_))
 have hnw := (hS.rd (List.mem_cons_self ..)).own_row
 refine Zar (T := 9) (a := a2) (m := 1) rfl rfl rfl rfl rfl hS (by rfl) hq2 hnw rfl (by simp [Value.oneCell']) (by simp) (by simp only [maxLen]; simp) (fun b' q3 w hS hq3 _ => ?_)
 repeat (first|refine Yd1 ?_|refine Yag ?_|refine Yae ?_|refine Yab ?_)
 replace hS := hS.front (chR c f b T (Nt t) X4)
 replace hS := hS.front (own 9 1 b' q3 (strV [] ++ [.string (str s)]))
 have hS := (hS.toBag (a := b') (cs := strV [s]) fun _ h => h.row).chAdd
 have hX5 : ∀ x ∈ X,x ∈ [(b',strV [s])] ++ X4 := fun x hx => List.mem_append_right _ (hX4 x hx)
 have hE5 := hE.sub (X' := [(b',strV [s])] ++ X4) fun x hx => List.mem_append_right _ hx
 have hqr : RX ([(b',strV [s])] ++ X4) b' (strV [s]) := .mem (by simp)
 generalize [(b',strV [s])] ++ X4 = X5 at hS hX5 hE5 hqr;have hS : St W F [chR c f b T (Nt t) X5,own 100 4 ea eq rows.flatten,own 9 1 (some ⟨lb,lo,none⟩) lq (strV (u.kids.map Tn.nm)),pts bc (.cells (List.toArray [.pointer (some ⟨c,0,none⟩)]) 24 (0,0)),pts bh (.cells (List.toArray [.slice pa p.length pc]) 35 (0,0)),pts bo (.cells (List.toArray [.slice ea i eq]) 44 (0,0))] _ := hS.took
 clear hX4 hE hr hx;refine Zs7 (α := Nat × List RowD × Option Addr × Nat) (fun z => [(0,.slice none 0 0),(1,.pointer (some ⟨bc,0,none⟩)),(2,.pointer (some ⟨bh,0,none⟩)),(3,.pointer (some ⟨bo,0,none⟩)),(4,.pointer (some ⟨bd,0,none⟩)),(10,.slice b' 1 q3),(11,.pointer (some ⟨z.1,0,none⟩)),(22,.slice (some ⟨lb,lo,none⟩) (u.kids.map Tn.nm).length lq),(23,.int .i64 ((u.kids.map Tn.nm).length : Nat)),(24,.int .i64 (i : Nat))])
  (fun z w => (∀ x ∈ X5,x ∈ z.2.1) ∧ St W F [pts z.1 (.cells (List.toArray (ndV nd z.2.2.1 z.2.2.2)) 53 (0,0)),chR c f b T (Nt t) z.2.1,own 100 4 ea eq rows.flatten,own 9 1 (some ⟨lb,lo,none⟩) lq (strV (u.kids.map Tn.nm)),pts bc (.cells (List.toArray [.pointer (some ⟨c,0,none⟩)]) 24 (0,0)),pts bh (.cells (List.toArray [.slice pa p.length pc]) 35 (0,0)),pts bo (.cells (List.toArray [.slice ea i eq]) 44 (0,0))] w) ?_ ?_
 ·repeat (first|fail)
  refine Zaq (.s 0 (.s 1 (.s 2 (.h 3 (.h 4 (.h 5 (.s 6 (.s 7 (.s 8 (.h 9 (.h 10 (.s 11 .nil) .no) .no)))) (.h 9 (.h 5 (.s 6 (.s 7 (.s 8 (.h 10 (.s 11 .nil) .no)))) .no) .no)) (.h 9 (.h 4 (.h 5 (.s 6 (.s 7 (.s 8 (.h 10 (.s 11 .nil) .no)))) .no) .no) .no)) (.h 9 (.h 3 (.h 4 (.h 5 (.s 6 (.s 7 (.s 8 (.h 10 (.s 11 .nil) .no)))) .no) .no) .no) .no))))) mixed (by kernel_rfl) rfl ?_
  have hS := hS.drew
  repeat' (first|(refine Zaa 39 rfl rfl rfl rfl rfl (Zm5 _ _ pa b' pc q3 p [s] _ (by first|exact (hS.rd (List.mem_cons_self ..)).own_row|exact (hS.rd (List.mem_cons_of_mem _ (List.mem_cons_self ..))).own_row) (hp.rd hS) (hqr.rd (hS.rd (r := chR c f b T (Nt t) X5) (by repeat (first|exact List.mem_cons_self ..|refine List.mem_cons_of_mem _ ?_))).ch) (by simp;omega)) ?_;rintro _ w ⟨a5,q5,rfl,hq5,hS'⟩;replace hS := hS.plus hS';clear hS')|(replace hS := hS.front (chR c f b T (Nt t) X5);obtain ⟨_,hcc,hr1,hw,hbk⟩ := hS.call [true];refine Zaa 30 rfl rfl rfl rfl rfl (get_ ht a5 (p ++ [s]) q5 _ _ (hT.mono hw) (hG.mono hw) (hr1 (own 9 1 a5 q5 (strV (p ++ [s]))) (by simp)).own_row (by simp;omega) hcc) ?_;rintro v w ⟨X6,hX6,hS,hv⟩;replace hS := hbk hS;clear hbk hw hcc hr1;rw [hgx] at hv;obtain ⟨a6,q6,rfl,hq6,hrow⟩ := hv)|refine Zk2 ?_ ?_|refine Yao (fun _ hS _ => ?_)|refine Yas (fun _ _ hS _ => ?_)|refine Ybi (fun _ _ hS _ => ?_)|(refine Zae ?_;first|refine Ya2 ?_|refine Ya4 ?_|refine Ybl ?_|refine Ydn ?_|refine Ybm ?_|refine Yay ?_)|(refine Zac ?_;first|refine Yaz ?_))
  all_goals exact Zcb (_,X6,a6,q6) ⟨rfl,rfl,rfl,rfl,rfl,rfl,rfl,rfl,rfl,rfl,trivial⟩ ⟨hX6,hS.took⟩
 ·clear hS
  rintro ⟨nb,X6,a6,q6⟩ w ⟨hX6,hS⟩
  simp only at hX6 hS ⊢
  have hk0 : ¬ nd.st.kind = 1 := by rw [hsx,hxk]; decide
  repeat (first|refine Yaa ?_|(refine X_id ?_;first|refine Yaf ?_|refine Yan ?_|refine Ybo ?_|refine Yaq ?_|refine Ybi (fun _ _ hS _ => ?_))|refine Yd2 ?_)
  have hnw := (hS.rd (List.mem_cons_self ..)).own_row
  refine Zar (T := 100) (bytes := 64) (a := ea) (m := 1) rfl rfl rfl rfl rfl hS hfl hie hnw rfl (by simp [Value.oneCell']) (by omega) (by simp only [maxLen]; omega) (fun b2 q7 w hS hq7 _ => ?_)
  repeat (first|refine Yd1 ?_|(refine X_id ?_;first|refine Yaf ?_|refine Yan ?_|refine Ybg ?_|refine Yaw ?_|refine Yaq ?_|refine Yao (fun _ hS _ => ?_))|refine Yec ?_|refine Yd9 ?_)
  refine Zaf (z := (i,ea,eq,rows,X4)) (i + 1,b2,q7,rows ++ [entV b' q3 nd.st.kind nd.st.mode a6 nd.data.length q6],X6) ⟨rfl,rfl,rfl,rfl,rfl,rfl,rfl,rfl,trivial⟩ ⟨hlt,hq7,fun x hx => hX6 x (hX5 x hx),?_,?_⟩ (by dsimp only; omega)
  ·dsimp only
   rw [htk];exact (hE5.sub hX6).snoc (by simpa using hq3) (hqr.sub hX6)
  ·dsimp only
   rw [List.flatten_append,show [entV b' q3 nd.st.kind nd.st.mode a6 nd.data.length q6].flatten = entV b' q3 nd.st.kind nd.st.mode a6 nd.data.length q6 by simp]
   exact hS.took
end
section
variable {c f tp n : Nat} {b : Int} {T : Int → Option Nd} {t : Tn} {X : List RowD}
theorem Zyx {u : Tn} {p : List (List UInt8)} (ht : TreeOk n t) (hr : Zav p) (hrk : ∀ s,nameOk s → Zav (p ++ [s])) (hg : goT t p = .ok u) (hu : u.st.kind = 1) (hfile : ∀ x ∈ u.kids,x.st.kind = 0) (hpl : p.length ≤ 8) (hkl : u.kids.length ≤ 1000) (pa : Option Addr) (pc : Nat) (W : World) (F : Nat → Prop) (hT : TreeRo W F f tp n b T) (hG : Lg W F) (hp : Ro W F (row pa (strV p))) (hS : St W F [chR c f b T (Nt t) X] W) :
  Calls Tryz.prog 15 #[.pointer (some ⟨c,0,none⟩),.slice pa p.length pc] W (Ret fun v w => ∃ X' ea eq rows,(∀ x ∈ X,x ∈ X') ∧ EntsRd X' (u.kids.map Tn.nm) rows ∧ u.kids.length ≤ eq ∧ v = .tuple #[.slice ea u.kids.length eq,.int .i64 0] ∧
   St W F [chR c f b T (Nt t) X',own 100 4 ea eq rows.flatten] w) := by
 have hl := Zh5 ht hr hg hu
 refine Zab Tryz.func15 rfl Tryz.ntmps15 rfl ?_
 repeat (first|refine Yd1 ?_|refine Yag ?_|refine Ybt ?_|refine Yaq ?_|refine Ybc (fun _ _ hS _ => ?_)|refine Yec ?_|refine Yab ?_)
 rename_i bc _ _ _ bh _ _;replace hS := hS.front (chR c f b T (Nt t) X)
 obtain ⟨_,hcc,hr1,hw,hbk⟩ := hS.call [true]
 refine Zaa _ rfl rfl rfl rfl rfl (Zoj ht pa p pc _ _ (hT.mono hw) (hG.mono hw) (hw _ hp) (by omega) hcc) ?_
 rintro _ w ⟨X3,la,lq,hX3,rfl,_,hS⟩
 replace hS := hbk hS
 clear hbk hw hcc hr1;rw [hl] at hS ⊢;simp only at hS ⊢
 repeat (first|refine Yd1 ?_|(refine X_id ?_;first|refine Yaf ?_|refine Yag ?_|refine Yax ?_|refine Ycd ?_|refine Ya5 ?_|refine Yaq ?_|refine Yao (fun _ hS _ => ?_)|refine Yas (fun _ _ hS _ => ?_))|refine Yec ?_|refine Yab ?_)
 rename_i bo _ _ _ bd _ _ _ _ _;have hS : St W F [chR c f b T (Nt t) X3,pts bc (.cells (List.toArray [.pointer (some ⟨c,0,none⟩)]) 24 (0,0)),pts bh (.cells (List.toArray [.slice pa p.length pc]) 35 (0,0)),pts bo (.cells (List.toArray [.slice none 0 0]) 44 (0,0))] _ := hS.took
 obtain ⟨_,hcc,hr1,hw,hbk⟩ := hS.call [true,true,true,true]
 refine Zca (first := []) (captured := [.pointer (some ⟨bc,0,none⟩),.pointer (some ⟨bh,0,none⟩),.pointer (some ⟨bo,0,none⟩),.pointer (some ⟨bd,0,none⟩)]) rfl rfl rfl rfl rfl (Z5a ht hr hrk hg hu hfile hpl hkl pa pc bc bh bo bd _ _ (hT.mono hw) (hG.mono hw) (hw _ hp) hcc) ?_
 rintro _ w ⟨rfl,X4,ea,eq,rows,hX4,hE,heq,hS⟩
 replace hS := hbk hS
 clear hbk hw hcc hr1;repeat (first|refine Yd1 ?_|refine Yag ?_|refine Yaq ?_|refine Yee ?_|refine Yep ?_)
 exact ⟨X4,ea,eq,rows,fun x hx => hX4 x (hX3 x hx),hE,heq,rfl,hS.took⟩
end
end Cr
namespace Cr
open Go
set_option maxHeartbeats 64000000
section
variable {P : Program} {ops : Array Oper} {Q : Exit → Act → World → Prop} {N : Nat} {ds : Md} {σ : Env} {w : World}
theorem Z0k {i : Nat} {K K' : Act → World → Prop} {a : Act} {w : World} (hnd : ∀ o,ops[i]? = some o → Ztn o.op = true) (hq : ∀ e a w,Zgj K e a w → Q e a w) (h : wpOp P ops (Zgj K) i K' a w) : wpOpIn (Fc ds) 0 P ops Q i K' a w := by
 unfold wpOp at h
 unfold wpOpIn
 split
 ·rename_i ho; simpa [ho] using h
 ·rename_i o ho
  simp only [ho] at h
  split
  ·rename_i hw
   simp only [hw,if_true] at h
   rcases h with h | ⟨_,_,_,h⟩
   ·exact Z1a (hnd o ho) (Zjl hq h)
   ·exact h.elim
  ·rename_i hw
   simp only [hw] at h
   exact ⟨fun _ _ => trivial,h⟩
theorem Zrj {K : Act → World → Prop} (hnd : ∀ (i : Nat) o,ops[i]? = some o → Ztn o.op = true) (hq : ∀ e a w,Zgj K e a w → Q e a w) : ∀ (fuel : Nat) (listed : Array Bool) (a : Act) (w : World),wpAny P .any ops (Zgj K) fuel listed a w → wpAnyIn (Fc ds) 0 P .any ops Q fuel listed a w
 | 0,_,_,_,h => ⟨h.1,hq _ _ _ h.2⟩
 | fuel + 1,_,_,_,h => ⟨fun h0 => hq _ _ _ (h.1 h0),fun i hi => wpOpIn_mono (fun a' w' => Zrj hnd hq fuel _ a' w') (Z0k (hnd i) hq (h.2 i hi))⟩
theorem Z4r {id : Nat} {l : List Oper} (ord : OT) (hm : P.follows .mixedOrders = true)
  (hB : (Region.noSelect l.toArray && ordT l.toArray ord true l.toArray.size (Array.replicate l.toArray.size false)) = true)
  (hnd : l.all (fun o => Ztn o.op) = true) (h : GO P l.toArray (Q .normal) ord [] N ds σ w.drew) : C P (.region id l.toArray true) Q N ds σ w := ⟨fun a ha => by
 simp only [Bool.and_eq_true] at hB
 obtain ⟨hsel,hB⟩ := hB
 have hc : Closed l.toArray (Array.replicate l.toArray.size false) := fun j oj _ hl => (by rw [getD_replicate_false] at hl; cases hl)
 refine wpIn_region_any hm ?_
 have h1 := Zhx _ _ _ _ ((Zgx (Region.noSelect_spec hsel) ord).1 _ _ [] a w.drew hc hB (h.run a ha [] fun _ hp => by cases hp))
 refine Zrj (fun i o ho => ?_) (fun e a w hq => by cases e <;> first | exact hq | exact hq.elim) _ _ _ _ h1
 have hm : o ∈ l := by
  have : l[i]? = some o := by simpa using ho
  exact List.mem_of_getElem? this
 exact List.all_eq_true.1 hnd o hm⟩
end
end Cr
namespace Cr
open Go Go.Proofs
set_option maxRecDepth 100000
set_option maxHeartbeats 64000000
attribute [local irreducible] Calls

theorem Znb (l bx n c : Nat) (a : Option Addr) (cs : List Value) (w : World) (T : TypeId) (hn : n ≤ 4611686018427387904) (hcs : cs.length = n * 4) (Inv : Nat → World → Prop)
  (hbx : ∀ k w,Inv k w → w.heap[bx]? = some (.cells #[.slice a n c] T)) (hrow : ∀ k w,Inv k w → Rd w (row a cs)) (hl : ∀ k w,Inv k w → ∃ r : Loop,r.params.size = 2 ∧ w.heap[l]? = some (.loop r) ∧ (k ≠ 0 →
   RoundIn Fence.wide 0 Tryz.prog l r.fn ((r.params.zip #[.int .i64 ((k - 1 : Nat) : Int),.agg ((cs.drop ((k - 1) * 4)).take 4).toArray]).foldl (fun tmps (t,a) => tmps.setIfInBounds t a) r.tmps) r.assign r.body w
    (Ret fun v w' => v = .bool true ∧ Inv (k - 1) w'))) (h0 : Inv n w) :
  CallsIn Fence.wide 0 Tryz.prog 87 #[.func (.yield l) #[] #[],.pointer (some ⟨bx,0,none⟩)] w (Ret fun _ w' => Inv 0 w') := by
 refine callsIn_wide.2 ?_
 have hb := hbx _ _ h0
 refine Zab Tryz.func87 rfl Tryz.ntmps87 rfl ?_
 repeat (first|refine Yd1 ?_|refine Yag ?_|refine Yar ?_|refine Ybw ?_|refine Yb2 ?_|refine Yd4 ?_|refine Yab ?_)
 refine Zak (α := Nat) (fun k => [(0,.func (.yield l) #[] #[]),(1,.pointer (some ⟨bx,0,none⟩)),(3,.int .i64 ((k : Int) - 1))]) (fun k w => k ≤ n ∧ Inv k w) (fun k => k) n ⟨rfl,rfl,rfl,trivial⟩ ⟨Nat.le_refl _,h0⟩ ?_
 clear hb h0;rintro k w ⟨hk,hi⟩
 have hb := hbx _ _ hi
 by_cases h0 : k = 0
 ·subst h0
  repeat (first|refine Yd1 ?_|refine Yaf ?_|refine Yb9 ?_|refine Yed ?_|refine Yab ?_|refine Ya7 ?_|refine Ya8 ?_|refine Ybs ?_)
  exact hi
 ·obtain ⟨r,hp,hlr,hr⟩ := hl _ _ hi
  have hr := hr h0
  have hcs0 : cs ≠ [] := by intro e; rw [e] at hcs; simp at hcs; omega
  have ha := (hrow _ _ hi).base hcs0
  have hseg := (hrow _ _ hi).seg ((k - 1) * 4) 4
  have e1 : ((k : Int) - 1).toNat = k - 1 := by omega
  have e2 : ((k - 1 : Nat) : Int) = (k : Int) - 1 := by omega
  rw [e2] at hr;repeat (first|refine Yd1 ?_|refine Yaf ?_|refine Yb6 ?_|refine Ybd ?_|refine Yb2 ?_|refine Yd5 ?_|refine Yab ?_)
  rw [e1];refine X_yl (Zcg rfl rfl hseg (by simp; omega)) rfl rfl ?_
  refine Zre rfl rfl rfl rfl rfl rfl hlr (by rw [hp]; rfl) hr ?_
  rintro v w' ⟨rfl,hi'⟩
  repeat (first|refine Yd1 ?_|refine Yaf ?_|refine Yag ?_|refine Ybb ?_|refine Ybw ?_|refine Yes ?_|refine Yd9 ?_)
  refine Zaf (k - 1) ⟨rfl,rfl,?_,trivial⟩ ⟨by omega,hi'⟩ (by omega)
  rw [e2]; rfl
theorem Zzb (a : Option Addr) (n c : Nat) (W : World) : Calls Tryz.prog 44 #[.slice a n c] W
  (Ret fun v w => ∃ bx,v = .func (.func 87) #[] #[.pointer (some ⟨bx,0,none⟩)] ∧ St W noF [pts bx (.cells #[.slice a n c] 44)] w) := by
 have hS := St.start W
 refine Zab Tryz.func44 rfl Tryz.ntmps44 rfl ?_
 repeat (first|refine Yd1 ?_|refine Yag ?_|refine Ycd ?_|refine Ybc (fun _ _ hS _ => ?_)|refine Yee ?_|refine Yd3 ?_)
 exact ⟨_,rfl,hS⟩
section
variable {c f tp n : Nat} {b : Int} {T : Int → Option Nd} {t : Tn} {X : List RowD}
theorem Z2a {u : Tn} {p : List (List UInt8)} (ht : TreeOk n t) (hr : Zav p) (hrk : ∀ s,nameOk s → Zav (p ++ [s])) (hg : goT t p = .ok u) (hu : u.st.kind = 1) (hfile : ∀ x ∈ u.kids,x.st.kind = 0) (hpl : p.length ≤ 8) (hkl : u.kids.length ≤ 1000) (hro : Zjy p t (u.kids.map Tn.nm).reverse) (hrm : (Zcy (Zbv p t (u.kids.map Tn.nm).reverse) p).1 = 0)
  (pa : Option Addr) (pc : Nat) (hpc : p.length ≤ pc) (W : World) (F : Nat → Prop) (hT : TreeRo W F f tp n b T) (hG : Lg W F) (hp : Ro W F (row pa (strV p))) (hS : St W F [chR c f b T (Nt t) X] W) :
  Calls Tryz.prog 17 #[.pointer (some ⟨c,0,none⟩),.slice pa p.length pc] W (Ret fun v w => ∃ X' k,(∀ x ∈ X,x ∈ X') ∧ v = .tuple #[.int .i64 k,.int .i64 0] ∧ St W F [chR c f b T (Nt (clrT t p u)) X'] w) := by
 have hnl : (u.kids.map Tn.nm).length = u.kids.length := List.length_map ..
 refine Zab Tryz.func17 rfl Tryz.ntmps17 rfl ?_
 repeat (first|refine Yd1 ?_|refine Yaq ?_|refine Ybc (fun _ _ hS _ => ?_)|refine Yas (fun _ _ hS _ => ?_)|refine Yd2 ?_|refine Yab ?_)
 rename_i bc _ _ _ bh _ _ _ b4 _ _ _ b5 _ _;replace hS := hS.front (chR c f b T (Nt t) X)
 obtain ⟨_,hcc,hr1,hw,hbk⟩ := hS.call [true]
 refine Zaa _ rfl rfl rfl rfl rfl (Zyx ht hr hrk hg hu hfile hpl hkl pa pc _ _ (hT.mono hw) (hG.mono hw) (hw _ hp) hcc) ?_
 rintro _ w ⟨X1,ea,eq,rows,hX1,hE,heq,rfl,hS⟩
 replace hS := hbk hS
 clear hbk hw hcc hr1;have hfl := hE.flat
 rw [hnl] at hfl;repeat (first|refine Yd1 ?_|refine Yeu ?_|refine Yao (fun _ hS _ => ?_)|refine Yas (fun _ _ hS _ => ?_)|refine Yec ?_|refine Yab ?_)
 refine Zaa _ rfl rfl rfl rfl rfl (Zzb _ _ _ _) ?_
 rintro _ w ⟨bx,rfl,hS'⟩
 replace hS := hS.plus hS';clear hS';repeat (first|refine Yac ?_|refine Yal ?_|refine Yab ?_)
 rename_i b8 _ _ _ _ _;obtain ⟨names,hnm⟩ : ∃ l,l = u.kids.map Tn.nm := ⟨_,rfl⟩
 rw [← hnm] at hE hnl hro hrm;have hS : St W F [pts bx (.cells #[.slice ea u.kids.length eq] 44),pts b8 (.cells (List.toArray [.int .i64 0]) 3 (0,0)),chR c f b T (Nt t) X1,own 100 4 ea eq rows.flatten,pts b5 (.cells (List.toArray [.int .i64 0]) 28 (0,0)),pts b4 (.cells (List.toArray [.int .i64 0]) 3 (0,0)),pts bh (.cells (List.toArray [.slice pa p.length pc]) 35 (0,0)),pts bc (.cells (List.toArray [.pointer (some ⟨c,0,none⟩)]) 24 (0,0))] _ := hS.took
 refine Zgu (first := []) (captured := [.pointer (some ⟨bx,0,none⟩)])
  (fun lp r j w => j = none ∧ ∃ X' lo,(∀ x ∈ X,x ∈ X') ∧ St W F [pts lp lo,pts r (.deferred (some [])),pts b8 (.cells (List.toArray [.int .i64 (u.kids.length : Nat)]) 3 (0,0)),chR c f b T (Nt (Zbv p t names.reverse)) X',pts b5 (.cells (List.toArray [.int .i64 0]) 28 (0,0)),pts b4 (.cells (List.toArray [.int .i64 0]) 3 (0,0)),pts bh (.cells (List.toArray [.slice pa p.length pc]) 35 (0,0)),pts bc (.cells (List.toArray [.pointer (some ⟨c,0,none⟩)]) 24 (0,0))] w) rfl rfl hS ?_ ?_ ?_
 ·intro A B hA hB fn tm lp r w1 htm hlook hS
  refine Zfl (Znb lp bx u.kids.length eq ea rows.flatten w1 44 (by omega) hfl
   (fun k w => k ≤ u.kids.length ∧ ∃ X' j,(∀ x ∈ X1,x ∈ X') ∧ j = u.kids.length - k ∧ St W F [pts lp (.loop (recd fn tm #[24,25] A B r .ready none)),pts r (.deferred (some [])),pts bx (.cells #[.slice ea u.kids.length eq] 44),pts b8 (.cells (List.toArray [.int .i64 (j : Nat)]) 3 (0,0)),chR c f b T (Nt (Zbv p t (names.drop k).reverse)) X',own 100 4 ea eq rows.flatten,pts b5 (.cells (List.toArray [.int .i64 0]) 28 (0,0)),pts b4 (.cells (List.toArray [.int .i64 0]) 3 (0,0)),pts bh (.cells (List.toArray [.slice pa p.length pc]) 35 (0,0)),pts bc (.cells (List.toArray [.pointer (some ⟨c,0,none⟩)]) 24 (0,0))] w)
   (fun k w h => (h.2.choose_spec.choose_spec.2.2).has) (fun k w h => ((h.2.choose_spec.choose_spec.2.2).rd (r := own 100 4 ea eq rows.flatten) (by simp)).own_row) ?_ ⟨Nat.le_refl _,X1,0,fun _ h => h,by omega,by rw [show names.drop u.kids.length = [] from List.drop_of_length_le (by omega)]; exact hS⟩) ?_
  ·rintro k w ⟨hkl,X',j,hX',hj,hS⟩
   refine ⟨_,rfl,hS.has,fun hk => ?_⟩
   have hk1 : k - 1 < names.length := by omega
   obtain ⟨ho1,ho2⟩ := Zx0 hro hk1
   have hs0 : names[k - 1]? = some names[k - 1] := List.getElem?_eq_getElem hk1
   rw [show k - 1 + 1 = k by omega] at ho1 ho2
   generalize names[k - 1] = s at hs0 ho1 ho2;have htr := Zj0 (p := p) (names.drop k).reverse ht
   generalize Zbv p t (names.drop k).reverse = t1 at ho1 ho2 htr hS;have hE' := hE.sub hX'
   obtain ⟨qa,qc,ek,em,da,dl,dq,hrow,hqc,hqr⟩ := hE'.2 (k - 1) s hs0
   have hseg : (rows.flatten.drop ((k - 1) * 4)).take 4 = entV qa qc ek em da dl dq := Zmz hE.four hrow
   rw [hseg];show RoundIn Fence.wide 0 Tryz.prog lp fn ((#[24,25].zip _).foldl _ tm) A B w _
   refine Zqb (Fr.round2 htm hlook lp (.int .i64 ((k - 1 : Nat) : Int)) (.agg (entV qa qc ek em da dl dq).toArray) (by decide) (by decide)) ?_
   refine C_eq hA ?_
   repeat (first|refine Yd1 ?_|refine Yao (fun _ hS _ => ?_)|refine Yas (fun _ _ hS _ => ?_)|refine Yad ?_)
   refine Znr hS.has (fun w hset => ?_)
   replace hS := hS.upd hset
   refine C_eq hB ?_
   repeat (first|refine Yae ?_|refine Yal ?_)
   refine Z4r (.s 0 (.s 1 (.s 2 (.s 3 (.h 4 (.h 5 (.h 6 (.s 7 .nil) .no) .no) .no))))) mixed (by kernel_rfl) (by kernel_rfl) ?_
   have hS := hS.drew
   repeat (first|refine Ybi (fun _ _ hS _ => ?_)|(refine Zae ?_;first|refine Ybk ?_|refine Ybm ?_|refine Yay ?_)|(refine Zac ?_;first|refine Yaz ?_))
   refine Zaa _ rfl rfl rfl rfl rfl (Zm5 _ _ pa qa pc qc p [s] _ (hS.rd (List.mem_cons_self ..)).own_row (hp.rd hS) (hqr.rd (hS.rd (r := chR c f b T (Nt t1) X') (by repeat (first|exact List.mem_cons_self ..|refine Ycw ?_))).ch) (by simp;omega)) ?_
   rintro _ w ⟨a5,q5,rfl,hq5,hS'⟩
   replace hS := hS.plus hS';clear hS';repeat (first|(refine Zae ?_;first|refine Yay ?_)|(refine Zac ?_;first|refine Yaz ?_))
   replace hS := hS.front (chR c f b T (Nt t1) X')
   obtain ⟨_,hcc,hr1,hw,hbk⟩ := hS.call [true]
   refine Zaa _ rfl rfl rfl rfl rfl (Z1x htr a5 (p ++ [s]) q5 _ _ (hT.mono hw) (hG.mono hw) (hr1 (own 9 1 a5 q5 (strV (p ++ [s]))) (by simp)).own_row hq5 (by simp; omega) hcc) ?_
   rintro _ w ⟨X2,hX2,rfl,hS⟩
   replace hS := hbk hS
   clear hbk hw hcc hr1;rw [ho1];rw [← ho2] at hS;repeat (first|refine Yd1 ?_|(refine X_id ?_;first|refine Yaf ?_|refine Ya5 ?_|refine Yaw ?_|refine Yaq ?_|refine Yao (fun _ hS _ => ?_))|refine Yec ?_|refine Yd9 ?_|(refine Zae ?_;first|refine Ye0 ?_)|(refine Zac ?_;first|refine Yaz ?_))
   refine Zk3 (hS.has (b := lp)) (fun w hset => ⟨_,rfl,rfl,by omega,X2,j + 1,fun x hx => hX2 x (hX' x hx),by omega,?_⟩)
   rw [show ((j + 1 : Nat) : Int) = (j : Int) + 1 by omega]
   exact (hS.upd hset).took
  ·rintro _ w3 ⟨_,X',j,hX',hj,hS⟩
   rw [List.drop_zero] at hS;obtain rfl : j = u.kids.length := by omega
   exact ⟨_,_,by simp,hS.has,fun w4 hset => ⟨rfl,X',.loop (recd fn tm #[24,25] A B r .exhausted none),fun x hx => hX' x (hX1 x hx),(hS.upd hset).took⟩⟩
 ·rintro lp r w4 ⟨_,X',lo,hX',hS⟩
  have htr := Zj0 (p := p) names.reverse ht
  have hcl : clrT t p u = (Zcy (Zbv p t names.reverse) p).2 := by rw [clrT,hnm]
  rw [hcl];generalize Zbv p t names.reverse = t1 at htr hS hrm ⊢;refine Zrh ?_
  repeat (first|refine Yaa ?_|refine Yaq ?_|refine Yd2 ?_|refine Zk4 rfl ?_)
  replace hS := hS.front (chR c f b T (Nt t1) X')
  obtain ⟨_,hcc,hr1,hw,hbk⟩ := hS.call [true]
  refine Zaa _ rfl rfl rfl rfl rfl (Z1x htr pa p pc _ _ (hT.mono hw) (hG.mono hw) (hw _ hp) hpc (by omega) hcc) ?_
  rintro _ w ⟨X2,hX2,rfl,hS⟩
  replace hS := hbk hS
  clear hbk hw hcc hr1;rw [hrm];repeat (first|refine Yd1 ?_|(refine X_id ?_;first|refine Yaf ?_|refine Yag ?_|refine Ya5 ?_|refine Yaw ?_|refine Yaq ?_|refine Yao (fun _ hS _ => ?_))|refine Yeq ?_|refine Yab ?_)
  refine Zs6 (.inl rfl) (hS.has (b := r)) (fun w hset => ?_)
  replace hS := hS.upd hset
  repeat (first|refine Ybz ?_)
  exact ⟨X2,_,fun x hx => hX2 x (hX' x hx),rfl,hS.took⟩
 ·rintro lp r cc w4 ⟨h,_⟩
  cases h
end
theorem Zik {pack : List UInt8} {no : Int} (h : RightA pack no) : Za9 pack no = 0 := by
 obtain ⟨r1,r2,r3⟩ := h
 unfold Za9
 rw [if_neg (fun e => e r1),if_neg (by omega)]
theorem Zta {pack : List UInt8} {no : Int} (h : ¬ RightA pack no) : Za9 pack no ≠ 0 := by
 unfold Za9
 by_cases h1 : nameOk pack
 ·rw [if_neg (fun e => e h1)]
  by_cases h2 : no < 1 ∨ 999999 < no
  ·rw [if_pos h2]; decide
  ·exact absurd ⟨h1,by omega,by omega⟩ h
 ·rw [if_pos h1]; decide
section
variable {c f tp : Nat} {b : Int} {T : Int → Option Nd} {t : Tn} {X : List RowD}
theorem Zya {p : List (List UInt8)} {e : Int} (h : getR t p = .error e) : ∃ e',lstR t p = ([],e') ∧ e' ≠ 0 := by
 unfold getR at h
 unfold lstR
 cases hg : goR t p with
 | ok x => rw [hg] at h; cases h
 | error e' =>
  exact ⟨e',rfl,fun h0 => by
   have := Z1q hg
   omega⟩
theorem Z1s (pack : List UInt8) (hp : nameOk pack) (L : List (Int × List (List UInt8))) (hA : ArcL t pack L) (hLs : ∀ x ∈ L,x.2.length ≤ 1000) (a : Option Addr) (nos : List Int) (q : Nat) (hnl : nos.length ≤ 1000) (hend : (nos.foldl Zgg (L,0)).1 = []) (hcnt : 0 < (nos.foldl Zgg (L,0)).2) (W : World) (F : Nat → Prop) (hT : TreeRo W F f tp 80 b T) (hG : Lg W F) (hn : Ro W F (row a (ints .i64 nos))) (hS : St W F [chR c f b T (Nt t) X] W) :
  Calls Tryz.prog 13 #[.pointer (some ⟨c,0,none⟩),.string (str pack),.slice a nos.length q] W (Ret fun v w => ∃ X' t',(∀ x ∈ X,x ∈ X') ∧ v = .tuple #[.int .i64 ((nos.foldl Zgg (L,0)).2 : Nat),.int .i64 0] ∧ TreeOk 80 t' ∧ getR t' [varN,pack] = .error 7 ∧ (∀ r,∃ e,getR t' [varN,pack,r] = .error e) ∧ St W F [chR c f b T (Nt t') X'] w) := by
 obtain ⟨res,hres⟩ : ∃ res,res = nos.foldl Zgg (L,0) := ⟨_,rfl⟩
 rw [← hres] at hend hcnt ⊢;refine Zab Tryz.func13 rfl Tryz.ntmps13 rfl ?_
 repeat (first|refine Yd1 ?_|refine Yef ?_|refine Yae ?_|refine Yce ?_|refine Yad ?_|refine Yab ?_)
 refine Zaa _ rfl rfl rfl rfl rfl (Zla c pack 1 _ (hG.at_ hS)) ?_
 rintro _ w (⟨hne,_⟩ | ⟨_,pb,rfl,hS'⟩)
 ·exact absurd (Zik ⟨hp,by omega,by omega⟩) hne
 replace hS := hS.plus hS';clear hS';repeat (first|refine Yd1 ?_|(refine X_id ?_;first|refine Yaf ?_|refine Yag ?_|refine Yax ?_|refine Yar ?_|refine Ya5 ?_)|refine Yae ?_|refine Zgv ?_|refine Yad ?_|refine Yal ?_|refine Yak ?_|refine Yai ?_|refine Yab ?_)
 have hS : St W F [chR c f b T (Nt t) X,own 9 1 (some ⟨pb,0,none⟩) 3 (strV [varN,pack,rN 1])] _ := hS.took
 refine Zak (α := Nat × Tn × List (Int × List (List UInt8)) × Nat × List RowD) (fun z => [(0,.pointer (some ⟨c,0,none⟩)),(1,.string (str pack)),(8,.slice (some ⟨pb,0,none⟩) 3 3),(10,.int .i64 (z.2.2.2.1 : Nat)),(30,.slice a nos.length q),(31,.int .i64 (nos.length : Nat)),(32,.int .i64 (z.1 : Nat))])
  (fun z w => z.1 ≤ nos.length ∧ z.2.2.2.1 ≤ z.1 ∧ ArcL z.2.1 pack z.2.2.1 ∧ (∀ x ∈ z.2.2.1,x.2.length ≤ 1000) ∧ (∀ x ∈ X,x ∈ z.2.2.2.2) ∧ res = (nos.drop z.1).foldl Zgg (z.2.2.1,z.2.2.2.1) ∧ St W F [chR c f b T (Nt z.2.1) z.2.2.2.2,own 9 1 (some ⟨pb,0,none⟩) 3 (strV [varN,pack,rN 1])] w) (fun z => nos.length - z.1) (0,t,L,0,X) ⟨rfl,rfl,rfl,rfl,rfl,rfl,rfl,trivial⟩ ⟨Nat.zero_le _,Nat.le_refl _,hA,hLs,fun _ h => h,hres,hS⟩ ?_
 clear hS hA hLs hres;rintro ⟨i,t1,L1,k,X1⟩ w ⟨hi,hki,hA,hLs,hX1,hres,hS⟩
 simp only at hi hki hA hLs hX1 hres hS ⊢
 by_cases hlt : i < nos.length
 case neg =>
  rw [List.drop_of_length_le (by omega),List.foldl_nil] at hres;subst hres
  simp only at hend hcnt ⊢
  subst hend
  obtain ⟨g1,g2,g3,g4,g5,g6⟩ := hA.gone hp
  repeat (first|refine Yd1 ?_|refine Yaf ?_|refine Ya1 ?_|refine Yed ?_|refine Yd7 ?_)
  refine X_yl (Zam (l := 0) (h := 2) rfl rfl rfl rfl (.inr ⟨_,_,rfl,by omega,by omega,by omega⟩) (.inl ⟨rfl,rfl⟩)) rfl rfl ?_
  rw [sub_zero,Nat.sub_zero,Nat.sub_zero];repeat (first|refine Yaa ?_)
  obtain ⟨_,hcc,hr1,hw,hbk⟩ := hS.call [true]
  have hq2 := ((hr1 (own 9 1 (some ⟨pb,0,none⟩) 3 (strV [varN,pack,rN 1])) (by simp)).own_row).mono (r' := row (some ⟨pb,0,none⟩) (strV [varN,pack])) fun h hh => Zi4 2 h hh
  refine Zaa _ rfl rfl rfl rfl rfl (Zoj hA.ok (some ⟨pb,0,none⟩) [varN,pack] 3 _ _ (hT.mono hw) (hG.mono hw) hq2 (by simp) hcc) ?_
  rintro _ w ⟨X3,la,lq,hX3,rfl,_,hS⟩
  replace hS := hbk hS
  clear hbk hw hcc hr1 hq2;rw [show lstR t1 [varN,pack] = ([],0) from Prod.ext g1 g2] at hS ⊢
  simp only [List.length_nil] at hS ⊢
  repeat (first|refine Yeh ?_|(refine X_id ?_;first|refine Yaf ?_|refine Yag ?_|refine Yax ?_|refine Yba ?_|refine Yar ?_|refine Ybf ?_|refine Ybv ?_)|refine Yeb ?_|refine Yab ?_)
  refine X_yl (Zam (l := 0) (h := 2) rfl rfl rfl rfl (.inr ⟨_,_,rfl,by omega,by omega,by omega⟩) (.inl ⟨rfl,rfl⟩)) rfl rfl ?_
  rw [sub_zero,Nat.sub_zero,Nat.sub_zero];repeat (first|refine Yaa ?_)
  replace hS := hS.front (chR c f b T (Nt t1) X3)
  obtain ⟨_,hcc,hr1,hw,hbk⟩ := hS.call [true]
  have hq2 := ((hr1 (own 9 1 (some ⟨pb,0,none⟩) 3 (strV [varN,pack,rN 1])) (by simp)).own_row).mono (r' := row (some ⟨pb,0,none⟩) (strV [varN,pack])) fun h hh => Zi4 2 h hh
  refine Zaa _ rfl rfl rfl rfl rfl (Z1x hA.ok (some ⟨pb,0,none⟩) [varN,pack] 3 _ _ (hT.mono hw) (hG.mono hw) hq2 (by simp) (by simp) hcc) ?_
  rintro _ w ⟨X4,hX4,rfl,hS⟩
  replace hS := hbk hS
  clear hbk hw hcc hr1 hq2;rw [g3];repeat (first|refine Yd1 ?_|refine Yag ?_|refine Yah ?_|refine Yab ?_|refine Yap ?_|refine Yb3 ?_|refine Ybr ?_)
  exact ⟨X4,_,fun x hx => hX4 x (hX3 x (hX1 x hx)),rfl,g4,g5,g6,hS.took⟩
 have hdr : nos.drop i = nos[i] :: nos.drop (i + 1) := List.drop_eq_getElem_cons hlt
 have hx0 : nos[i]? = some nos[i] := List.getElem?_eq_getElem hlt
 generalize nos[i] = no at hdr hx0;rw [hdr,List.foldl_cons] at hres;have hx : (ints .i64 nos)[i]? = some (.int .i64 no) := by simp [ints,hx0]
 have hr := hn
 obtain ⟨ab,ao,rfl⟩ := (hn.rd hS).base (by intro e; rw [e] at hx; simp at hx)
 repeat (first|refine Yd1 ?_|refine Yey ?_|refine Yd5 ?_|refine Yab ?_)
 clear hr;refine Zaa _ rfl rfl rfl rfl rfl (Zla c pack no _ (hG.at_ hS)) ?_
 rintro _ w (⟨hne,rfl,hS'⟩ | ⟨hR,pb2,rfl,hS'⟩)
 ·replace hS := hS.plus hS'
  clear hS';have hnr : ¬ RightA pack no := fun h => hne (Zik h)
  rw [Zjp (z := (L1,k)) (no := no) fun x hx e => hnr (e ▸ hA.right x hx)] at hres;generalize Za9 pack no = e at hne ⊢;repeat (first|refine Yd1 ?_|(refine X_id ?_;first|refine Yaf ?_|refine Yag ?_|refine Yax ?_|refine Ybj ?_|refine Yaw ?_)|refine Yez ?_|refine Yd7 ?_)
  exact Zaf (z := (i,t1,L1,k,X1)) (i + 1,t1,L1,k,X1) ⟨rfl,rfl,rfl,rfl,rfl,rfl,rfl,trivial⟩ ⟨hlt,by dsimp only; omega,hA,hLs,hX1,hres,hS.took⟩ (by dsimp only; omega)
 replace hS := hS.plus hS';clear hS';repeat (first|refine Yd1 ?_|refine Yeu ?_|refine Yec ?_|refine Yab ?_)
 rcases Zxr (L1,k) no with ⟨cs,hm⟩ | hout
 ·obtain ⟨u,hg,hu,hul,c1,c2,c3⟩ := Zwa hA hm
  have hV := hA.rev _ hm
  have hfile := hV.file hA.ok hg
  have hl := Zh5 hA.ok hR.three hg hu
  have hcl := hLs _ hm
  simp only at hV hcl
  rw [Zi3 (z := (L1,k)) hm] at hres;have hA3 : ArcL (clrT t1 [varN,pack,rN no] u) pack (L1.filter fun x => decide (x.1 ≠ no)) := c3
  have hLs3 : ∀ x ∈ L1.filter fun x => decide (x.1 ≠ no),x.2.length ≤ 1000 := fun x hx => hLs x (List.mem_filter.1 hx).1
  simp only at hres
  generalize (L1.filter fun x => decide (x.1 ≠ no)) = L2 at hres hA3 hLs3;replace hS := hS.front (chR c f b T (Nt t1) X1)
  obtain ⟨_,hcc,hr1,hw,hbk⟩ := hS.call [true]
  refine Zaa _ rfl rfl rfl rfl rfl (Zoj hA.ok (some ⟨pb2,0,none⟩) [varN,pack,rN no] 3 _ _ (hT.mono hw) (hG.mono hw) (hr1 (own 9 1 (some ⟨pb2,0,none⟩) 3 (strV [varN,pack,rN no])) (by simp)).own_row (by simp) hcc) ?_
  rintro _ w ⟨X3,la,lq,hX3,rfl,_,hS⟩
  replace hS := hbk hS
  clear hbk hw hcc hr1;rw [hl] at hS ⊢;simp only at hS ⊢
  repeat (first|refine Yd1 ?_|refine Yeu ?_|refine Yec ?_|refine Yab ?_)
  replace hS := hS.front (chR c f b T (Nt t1) X3)
  obtain ⟨_,hcc,hr1,hw,hbk⟩ := hS.call [true]
  refine Zaa _ rfl rfl rfl rfl rfl (Z2a hA.ok hR.three (fun s hs => Zrx hR.1 (Zqf hR.2.1 hR.2.2) hs) hg hu hfile (by simp) (by omega) c1 c2 (some ⟨pb2,0,none⟩) 3 (by simp) _ _ (hT.mono hw) (hG.mono hw) (hr1 (own 9 1 (some ⟨pb2,0,none⟩) 3 (strV [varN,pack,rN no])) (by simp)).own_row hcc) ?_
  rintro _ w ⟨X4,n2,hX4,rfl,hS⟩
  replace hS := hbk hS
  clear hbk hw hcc hr1;repeat (first|refine Yd1 ?_|(refine X_id ?_;first|refine Yaf ?_|refine Yag ?_|refine Yax ?_|refine Ya5 ?_|refine Yaw ?_)|refine Yec ?_|refine Yd9 ?_)
  exact Zaf (z := (i,t1,L1,k,X1)) (i + 1,clrT t1 [varN,pack,rN no] u,L2,k + 1,X4) ⟨rfl,rfl,rfl,rfl,rfl,rfl,rfl,trivial⟩ ⟨hlt,by dsimp only; omega,hA3,hLs3,fun x hx => hX4 x (hX3 x (hX1 x hx)),hres,hS.took⟩ (by dsimp only; omega)
 ·obtain ⟨e',hl,he'⟩ := Zya (hA.none hR hout)
  rw [Zjp (z := (L1,k)) hout] at hres;replace hS := hS.front (chR c f b T (Nt t1) X1)
  obtain ⟨_,hcc,hr1,hw,hbk⟩ := hS.call [true]
  refine Zaa _ rfl rfl rfl rfl rfl (Zoj hA.ok (some ⟨pb2,0,none⟩) [varN,pack,rN no] 3 _ _ (hT.mono hw) (hG.mono hw) (hr1 (own 9 1 (some ⟨pb2,0,none⟩) 3 (strV [varN,pack,rN no])) (by simp)).own_row (by simp) hcc) ?_
  rintro _ w ⟨X3,la,lq,hX3,rfl,_,hS⟩
  replace hS := hbk hS
  clear hbk hw hcc hr1;rw [hl] at hS ⊢;simp only at hS ⊢
  repeat (first|refine Yd1 ?_|(refine X_id ?_;first|refine Yaf ?_|refine Yag ?_|refine Yax ?_|refine Ybj ?_|refine Yaw ?_)|refine Yez ?_|refine Yd7 ?_)
  exact Zaf (z := (i,t1,L1,k,X1)) (i + 1,t1,L1,k,X3) ⟨rfl,rfl,rfl,rfl,rfl,rfl,rfl,trivial⟩ ⟨hlt,by dsimp only; omega,hA,hLs,fun x hx => hX3 x (hX1 x hx),hres,hS.took⟩ (by dsimp only; omega)
end
end Cr
