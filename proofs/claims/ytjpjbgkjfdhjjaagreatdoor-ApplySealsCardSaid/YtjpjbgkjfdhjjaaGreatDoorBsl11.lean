/-
  Layer 8 (tree): a name enters a directory.
  Layer 8 (tree): a name taken out of a directory.
  Layer 8 (tree) in plain words,4: a tree with another one at a path; which nodes it has. No program is in sight.
  Layer 8 (tree) in plain words,5: a node made,turned,taken out. No program is in sight.
  Layer 8 (tree): a directory left; a free node; what is wrong with a node to be made.
  Layer 8 (tree): Make.
  Layer 8 (tree) in plain words,6: other bytes,a node taken out. No program is in sight.
  Layer 8 (tree): Put,Remove.
  Layer 9 (table): a table of a change; what stands at a path; a key's value.
  Layer 9 (table): the directories that are still to be made.
  Layer 9 (table): one more node of a value's way; what was made is taken away again.
  Layer 9 (table): what was made is taken away again.
  Layer 9 (table): Put.
  Layer 9 (table) in plain words: what a put and a drop change of the keys' values. No program is in sight.
  Trees in plain words,for archives that are kept: a node is made; nodes are numbered without a gap; what stands ahead of and beside a place that is turned.
  Package apply in plain words: the ways to a path,an archive's parts; what a tree of archives has.
  A tree of archives: what it has,what comes of a way and of parts that are made.
  Layer 7 (inode): the free blocks of nodes; does a block stand in two Zhd?
  Layer 7 (inode): what is wrong with changes.
-/
import Derived.Test.YtjpjbgkjfdhjjaaGreatDoorBsl10
import Derived.Test.YtjpjbgkjfdhjjaaGreatDoorBsl6
import Derived.Test.YtjpjbgkjfdhjjaaGreatDoorBsl3
import Derived.Test.YtjpjbgkjfdhjjaaGreatDoorBsl8
import Derived.Test.YtjpjbgkjfdhjjaaGreatDoorBsl7
namespace Cr
open Go Go.Proofs
set_option maxRecDepth 100000
set_option maxHeartbeats 64000000
attribute [local irreducible] Calls

section
variable {c f n : Nat} {b : Int} {T N : Int → Option Nd} {X : List RowD}
theorem Z60 (no : Int) (nd : Nd) (a : Option Addr) (q : Nat) (nb : Option Addr) (l : List Nm) (nc : Nat) (s : List UInt8) (m : Int) (W : World) (F : Nat → Prop) (hG : Lg W F) (hl : RX X nb (nmV l)) (hok : NmOk l) (hll : l.length + 1 ≤ 1024) (hy : s.length ≤ 64 ∧ 0 ≤ m ∧ m ≤ 1000000) (hm : l.Pairwise fun x y => ltS x.1 y.1) (hS : St W F [chR c f b T N X] W) :
  Calls Tryz.prog 50 #[.pointer (some ⟨c,0,none⟩),.agg (List.toArray [.int .i64 no,.int .i64 nd.st.kind,.int .i64 nd.st.mode,.int .i64 nd.st.owner,.int .i64 nd.st.group,.slice a nd.data.length q]),.slice nb l.length nc,.string (str s),.int .i64 m] W (Ret fun v w =>
   ∃ X',(∀ x ∈ X,x ∈ X') ∧ ((512 < (wrD (insN (s,m) l)).length ∧ v = .bool false ∧ St W F [chR c f b T N X'] w) ∨ ((wrD (insN (s,m) l)).length ≤ 512 ∧ v = .bool true ∧ St W F [chR c f b T (fun k => if k = no then some ⟨nd.st,wrD (insN (s,m) l)⟩ else N k) X'] w))) := by
 have hok2 : NmOk (insN (s,m) l) := Z3g hok hll hy
 refine Zab Tryz.func50 rfl Tryz.ntmps50 rfl ?_
 repeat (first|refine Yeb ?_|refine Yeq ?_|refine Yba (fun _ _ hS _ => ?_)|refine Yec ?_|refine Yab ?_)
 refine Zaa _ rfl rfl rfl rfl rfl (Z0q nb l nc s _ (hl.rd (hS.rd (r := chR c f b T N X) (by simp)).ch) (by omega) hm) ?_
 rintro _ w ⟨⟨i,fb,rfl,hp⟩,hS'⟩
 replace hS := hS.plus hS';clear hS';have hil := hp.1
 have hins := Zso (y := (s,m)) hp.1 hp.2.1 hp.2.2
 repeat (first|refine Yeb ?_|refine Ye5 ?_|refine Yec ?_|refine Yab ?_)
 refine Zaa _ rfl rfl rfl rfl rfl (Z24 nb l nc _ (hl.rd (hS.rd (r := chR c f b T N X) (by simp)).ch) (by omega)) ?_
 rintro _ w ⟨a',c',rfl,hc',hS'⟩
 replace hS := hS.plus hS';clear hS';repeat (first|refine Yaa ?_|refine Yaf ?_|refine Ybm ?_|refine Ybe (fun _ _ hS _ => ?_))
 have hS := hS.pick [1,0,0,0]
 obtain ⟨_,hc,_,hw,hbk⟩ := hS.call [true,true]
 refine Zaa _ rfl rfl rfl rfl rfl (Z3f a' c' l i (s,m) _ _ _ hil hc' (by omega) hc) ?_
 rintro _ w ⟨a2,c2,rfl,hc2,hS⟩
 replace hS := hbk hS
 clear hbk hw hc;rw [hins] at hS;have hlen : (insN (s,m) l).length = l.length + 1 := by rw [(Zfo (s,m) l).length_eq]; rfl
 generalize insN (s,m) l = l2 at hS hlen hok2 ⊢;rw [← hlen];repeat (first|refine Yaa ?_)
 refine Zaa _ rfl rfl rfl rfl rfl (Zmn a2 l2 c2 _ (hS.rd (List.mem_cons_self ..)).own_row.ro hok2 (hG.at_ hS)) ?_
 rintro _ w ⟨b3,q3,rfl,hq3,hS'⟩
 replace hS := hS.plus hS';clear hS';have hwl := Zu5 hok2
 by_cases h512 : 512 < (wrD l2).length
 ·repeat (first|refine Yeb ?_|refine Yaf ?_|refine Yag ?_|refine Yat ?_|refine Ybx ?_|refine Yet ?_|refine Yeu ?_)
  exact ⟨X,fun _ h => h,.inl ⟨h512,rfl,hS.took⟩⟩
 ·repeat (first|refine Yeb ?_|(refine X_id ?_;first|refine Yaf ?_|refine Yag ?_|refine Yan ?_|refine Yby ?_|refine Yat ?_|refine Ybr ?_|refine Ybm ?_|refine Yaq ?_|refine Ybi ?_)|refine Yen ?_|refine Yab ?_)
  obtain ⟨_,hc,hr,hw,hbk⟩ := hS.call [false,false,false,true]
  refine Zaa _ rfl rfl rfl rfl rfl (set_ no ⟨nd.st,wrD l2⟩ b3 q3 _ _ (.inl (hr _ (List.mem_cons_self ..)).own_row) (by simp only; omega) hc) ?_
  rintro _ w ⟨rfl,X',hX',hS⟩
  replace hS := hbk hS
  clear hbk hw hc hr;repeat (first|refine Yeb ?_|refine Yag ?_|refine Yep ?_|refine Yed ?_)
  exact ⟨X',hX',.inr ⟨by omega,rfl,hS.took⟩⟩
end
section
variable {P : Program} {o : Oper} {σ : Env} {w : World} {N : Nat} {ds : Md} {K : Env → World → Prop} {x y : Operand} {t : TypeId}
end
end Cr
namespace Cr
open Go
set_option maxHeartbeats 64000000

def updT : List (List UInt8) → (Tn → Tn) → Tn → Tn
 | [],f,t => f t
 | s :: p,f,.mk nm no st data kids => .mk nm no st data (kids.map fun k => if k.nm = s then updT p f k else k)
theorem Zgn : ∀ l m : List Tn,subL (l ++ m) = subL l ++ subL m
 | [],m => rfl
 | x :: l,m => by rw [List.cons_append,subL,subL,Zgn l m,List.append_assoc]
theorem Zoh {l m : List Tn} (h : l.Perm m) : (subL l).Perm (subL m) := by
 induction h with
 | nil => exact .refl _
 | cons x _ ih => rw [subL,subL]; exact ih.append_left _
 | swap x y l => rw [subL,subL,subL,subL,← List.append_assoc,← List.append_assoc]; exact List.perm_append_comm.append_right _
 | trans _ _ h1 h2 => exact h1.trans h2
theorem Zkj : ∀ l m : List Tn,hgtL (l ++ m) = max (hgtL l) (hgtL m)
 | [],m => by rw [List.nil_append,hgtL]; omega
 | x :: l,m => by rw [List.cons_append,hgtL,hgtL,Zkj l m]; omega
theorem hgtL_le {l : List Tn} {d : Nat} : hgtL l ≤ d ↔ ∀ x ∈ l,1 + hgtT x ≤ d := by
 induction l with
 | nil => simp [hgtL]
 | cons x l ih => rw [hgtL]; simp only [List.mem_cons,forall_eq_or_imp,← ih]; omega
theorem Zf5 {n : Nat} {t k : Tn} {s : List UInt8} (h : TnOk n t) (hs : Zcc t s = .ok k) : t.st.kind = 1 ∧ k.nm = s ∧ ∃ l1 l2,t.kids = l1 ++ k :: l2 ∧ (∀ x ∈ l1,x.nm ≠ s) ∧ ∀ x ∈ l2,x.nm ≠ s := by
 obtain ⟨hk,_,hn⟩ := Znb hs
 refine ⟨hk,hn,?_⟩
 unfold Zcc at hs
 rw [if_pos hk] at hs;cases hq : kidT s t.kids with
 | none => rw [hq] at hs; cases hs
 | some x =>
  rw [hq] at hs;simp only [Except.ok.injEq] at hs
  subst hs
  obtain ⟨_,l1,l2,he,h1⟩ := List.find?_eq_some_iff_append.1 hq
  refine ⟨l1,l2,he,fun y hy => by simpa using h1 y hy,fun y hy => ?_⟩
  have hr := h.rise
  rw [he,List.pairwise_append,List.pairwise_cons] at hr;have := Z6j (hr.2.1.1 y hy)
  rw [hn] at this;exact fun e => this e.symm
theorem Zg6 {t k : Tn} {s : List UInt8} {p : List (List UInt8)} {f : Tn → Tn} {l1 l2 : List Tn} (he : t.kids = l1 ++ k :: l2) (hn : k.nm = s) (h1 : ∀ x ∈ l1,x.nm ≠ s) (h2 : ∀ x ∈ l2,x.nm ≠ s) : updT (s :: p) f t = .mk t.nm t.no t.st t.data (l1 ++ updT p f k :: l2) := by
 obtain ⟨nm,no,st,data,kids⟩ := t
 have he : kids = l1 ++ k :: l2 := he
 subst he
 rw [updT]
 congr 1
 rw [List.map_append,List.map_cons,if_pos hn]
 congr 1
 ·conv => rhs; rw [← List.map_id l1]
  exact List.map_congr_left fun x hx => by rw [if_neg (h1 x hx)]; rfl
 ·congr 1
  conv => rhs; rw [← List.map_id l2]
  exact List.map_congr_left fun x hx => by rw [if_neg (h2 x hx)]; rfl
def Zyj (f : Tn → Tn) (u : Tn) : Prop := (f u).nm = u.nm ∧ (f u).no = u.no
theorem Zh9 {f : Tn → Tn} {u : Tn} (hf : Zyj f u) : ∀ {p : List (List UInt8)} {t : Tn},goT t p = .ok u → (updT p f t).nm = t.nm ∧ (updT p f t).no = t.no
 | [],t,h => by rw [goT] at h; injection h with h; subst h; exact hf
 | s :: p,.mk nm no st data kids,_ => ⟨rfl,rfl⟩
theorem Zhr {t u : Tn} {s : List UInt8} {p : List (List UInt8)} (h : goT t (s :: p) = .ok u) : ∃ k,Zcc t s = .ok k ∧ goT k p = .ok u := by
 rw [goT] at h;cases hs : Zcc t s with
 | error e => rw [hs] at h; cases h
 | ok k => rw [hs] at h; exact ⟨k,rfl,h⟩
theorem Zkq (t : Tn) : Zda t = ent t :: Zd4 t.kids := by unfold Zda Zd4; rw [Zgm]; rfl
theorem Zkr (l1 l2 : List Tn) (k : Tn) : Zd4 (l1 ++ k :: l2) = Zd4 l1 ++ (Zda k ++ Zd4 l2) := by
 unfold Zd4 Zda
 rw [Zgn,subL]; simp
theorem Z53 {α : Type} (e : α) (A L1 R L2 : List α) : (e :: (L1 ++ (A ++ (R ++ L2)))).Perm (A ++ (e :: (L1 ++ (L2 ++ R)))) :=
 (((List.perm_append_comm_assoc L1 A (R ++ L2)).trans ((List.perm_append_comm.append_left L1).append_left A)).cons e).trans List.perm_middle.symm
theorem Zor {t k k' : Tn} {l1 l2 : List Tn} (he : t.kids = l1 ++ k :: l2) (e1 : k'.nm = k.nm) (e2 : k'.no = k.no) : (Tn.mk t.nm t.no t.st t.data (l1 ++ k' :: l2)).names = t.names := by
 unfold Tn.names
 rw [he];show (l1 ++ k' :: l2).map _ = _
 rw [List.map_append,List.map_append,List.map_cons,List.map_cons,e1,e2]
section
variable {n : Nat} {f : Tn → Tn} {u : Tn}
theorem Zrs (hf : Zyj f u) : ∀ {p : List (List UInt8)} {t : Tn},(∀ v ∈ subT t,TnOk n v) → goT t p = .ok u → ∃ rest,(Zda t).Perm (Zda u ++ rest) ∧ (Zda (updT p f t)).Perm (Zda (f u) ++ rest)
 | [],t,_,h => by
  rw [goT] at h; injection h with h; subst h
  exact ⟨[],by simp,by rw [updT]; simp⟩
 | s :: p,t,ht,h => by
  obtain ⟨k,hs,hg⟩ := Zhr h
  obtain ⟨hk,hn,l1,l2,he,h1,h2⟩ := Zf5 (ht t (Ze1 t)) hs
  have hkm : k ∈ t.kids := by rw [he]; simp
  obtain ⟨rest,r1,r2⟩ := Zrs hf (fun v hv => ht v (Zgl hkm hv)) hg
  obtain ⟨e1,e2⟩ := Zh9 hf hg
  have hu := Zg6 (p := p) (f := f) he hn h1 h2
  have hent : ent (updT (s :: p) f t) = ent t := by
   rw [hu];show ((t.no,(⟨t.st,if t.st.kind = 1 then wrD (Tn.mk t.nm t.no t.st t.data (l1 ++ updT p f k :: l2)).names else t.data⟩ : Nd)) : Int × Nd) = _
   rw [Zor he e1 e2]; rfl
  refine ⟨ent t :: (Zd4 l1 ++ (Zd4 l2 ++ rest)),?_,?_⟩
  ·rw [Zkq t,he,Zkr]
   have : (Zda k ++ Zd4 l2).Perm (Zda u ++ (rest ++ Zd4 l2)) := by rw [← List.append_assoc]; exact r1.append_right _
   exact ((this.append_left (Zd4 l1)).cons (ent t)).trans (Z53 _ _ _ _ _)
  ·rw [Zkq (updT (s :: p) f t),hent,hu]
   show (ent t :: Zd4 (l1 ++ updT p f k :: l2)).Perm _
   rw [Zkr];have : (Zda (updT p f k) ++ Zd4 l2).Perm (Zda (f u) ++ (rest ++ Zd4 l2)) := by rw [← List.append_assoc]; exact r2.append_right _
   exact ((this.append_left (Zd4 l1)).cons (ent t)).trans (Z53 _ _ _ _ _)
theorem Z01 (hf : Zyj f u) : ∀ {p : List (List UInt8)} {t : Tn},(∀ v ∈ subT t,TnOk n v) → goT t p = .ok u → (∀ v ∈ subT (f u),TnOk n v) → ∀ v ∈ subT (updT p f t),TnOk n v
 | [],t,_,h,hv => by rw [goT] at h; injection h with h; subst h; rw [updT]; exact hv
 | s :: p,t,ht,h,hfu => by
  obtain ⟨k,hs,hg⟩ := Zhr h
  have h0 := ht t (Ze1 t)
  obtain ⟨hk,hn,l1,l2,he,h1,h2⟩ := Zf5 h0 hs
  have hkm : k ∈ t.kids := by rw [he]; simp
  have ih := Z01 hf (fun v hv => ht v (Zgl hkm hv)) hg hfu
  obtain ⟨e1,e2⟩ := Zh9 hf hg
  rw [Zg6 (p := p) (f := f) he hn h1 h2];intro v hv
  rw [Zgm] at hv;rcases List.mem_cons.1 hv with rfl | hv
  ·have hnames := Zor (k' := updT p f k) he e1 e2
   refine ⟨h0.chk,h0.low,fun q => ?_,?_,?_,fun q => absurd hk q⟩
   ·rw [hnames]; exact h0.dir q
   ·have := h0.rise
    rw [he] at this;have h3 : ((l1 ++ k :: l2).map Tn.nm).Pairwise ltS := List.pairwise_map.2 this
    have h4 : ((l1 ++ updT p f k :: l2).map Tn.nm).Pairwise ltS := ?_
    ·exact List.pairwise_map.1 h4
    rw [List.map_append,List.map_cons] at h3 ⊢;rw [e1]; exact h3
   ·intro x hx
    replace hx : x ∈ l1 ++ updT p f k :: l2 := hx
    simp only [List.mem_append,List.mem_cons] at hx
    rcases hx with hx | rfl | hx
    ·exact h0.nmk x (by rw [he]; simp [hx])
    ·rw [e1]; exact h0.nmk k hkm
    ·exact h0.nmk x (by rw [he]; simp [hx])
  ·replace hv : v ∈ subL (l1 ++ updT p f k :: l2) := hv
   rw [Zgn,subL] at hv;rcases List.mem_append.1 hv with hv | hv
   ·obtain ⟨x,hx,hv⟩ := mem_subL.1 hv
    exact ht v (Zgl (by rw [he]; simp [hx]) hv)
   ·rcases List.mem_append.1 hv with hv | hv
    ·exact ih v hv
    ·obtain ⟨x,hx,hv⟩ := mem_subL.1 hv
     exact ht v (Zgl (by rw [he]; simp [hx]) hv)
theorem Zvd (hf : Zyj f u) : ∀ {p : List (List UInt8)} {t : Tn},(∀ v ∈ subT t,TnOk n v) → goT t p = .ok u → hgtT (updT p f t) ≤ max (hgtT t) (p.length + hgtT (f u))
 | [],t,_,h => by rw [goT] at h; injection h with h; subst h; rw [updT]; simp only [List.length_nil]; omega
 | s :: p,t,ht,h => by
  obtain ⟨k,hs,hg⟩ := Zhr h
  obtain ⟨hk,hn,l1,l2,he,h1,h2⟩ := Zf5 (ht t (Ze1 t)) hs
  have hkm : k ∈ t.kids := by rw [he]; simp
  have ih := Zvd hf (fun v hv => ht v (Zgl hkm hv)) hg
  rw [Zg6 (p := p) (f := f) he hn h1 h2,Zin (Tn.mk _ _ _ _ _),Zin t,he];simp only [Tn.kids,Zkj,hgtL,List.length_cons]
  omega
end
theorem Zww : ∀ {p : List (List UInt8)} {t u : Tn},goT t p = .ok u → p.length + hgtT u ≤ hgtT t
 | [],t,u,h => by rw [goT] at h; injection h with h; subst h; simp
 | s :: p,t,u,h => by
  obtain ⟨k,hs,hg⟩ := Zhr h
  have h1 := Zww hg
  have h2 := Zm8 (Znb hs).2.1
  rw [← Zin] at h2;simp only [List.length_cons]; omega
theorem Zw2 {β : Type} {l m : List (Int × β)} (h : l.Perm m) (hn : (Zav l).Nodup) (k : Int) : getA k l = getA k m := by
 have hn' : (Zav m).Nodup := (h.map (fun x : Int × β => x.1)).nodup_iff.1 hn
 cases hq : getA k l with
 | none =>
  refine (getA_none.2 fun hm => getA_none.1 hq ?_).symm
  exact (h.map (fun x : Int × β => x.1)).mem_iff.2 hm
 | some v => exact (Zd1 hn' (h.mem_iff.1 (Zjj hq))).symm
theorem Zo4 {β : Type} {k : Int} {x : Int × β} {l : List (Int × β)} : getA k (x :: l) = if k = x.1 then some x.2 else getA k l := rfl
def addF (k u : Tn) : Tn := .mk u.nm u.no u.st u.data (insT k u.kids)
theorem Zsh (k u : Tn) : Zyj (addF k) u := ⟨rfl,rfl⟩
theorem Zui {l m : List Tn} (h : l.Perm m) : (Zd4 l).Perm (Zd4 m) := (Zoh h).map ent
theorem Zuj (k : Tn) (l : List Tn) : Zd4 (k :: l) = Zda k ++ Zd4 l := by unfold Zd4 Zda; rw [subL]; simp
theorem Zxf {k : Tn} (h : k.kids = []) : Zda k = [ent k] := by rw [Zkq,h]; rfl
section
variable {n : Nat} {t u k : Tn} {p : List (List UInt8)} {s : List UInt8}
theorem Zyh {L : List (Int × Nd)} (h : (Zda t).Perm L) (hn : ((Zda t).map (·.1)).Nodup) (no : Int) : Nt t no = getA no L := Zw2 h hn no
theorem Nt_none {no : Int} : Nt t no = none ↔ no ∉ (Zda t).map (·.1) := getA_none
/-! ### one more -/
theorem Zs5 (ht : TreeOk n t) (hg : goT t p = .ok u) (hk : k.kids = []) : ∃ rest,(Zda t).Perm (ent u :: rest) ∧ (Zda (updT p (addF k) t)).Perm (ent k :: ent (addF k u) :: rest) := by
 obtain ⟨r,h1,h2⟩ := Zrs (Zsh k u) ht.node hg
 rw [Zkq u] at h1;refine ⟨Zd4 u.kids ++ r,h1,h2.trans ?_⟩
 rw [Zkq (addF k u)];have h3 : (Zd4 (insT k u.kids)).Perm (ent k :: Zd4 u.kids) := by
  have := Zui (Zen k u.kids)
  rwa [Zuj,Zxf hk] at this
 exact ((h3.append_right r).cons (ent (addF k u))).trans (.swap _ _ _)
theorem Zpl (ht : TreeOk n t) (hg : goT t p = .ok u) (hk : k.kids = []) (hnew : Nt t k.no = none) : ((Zda (updT p (addF k) t)).map (·.1)).Nodup := by
 obtain ⟨r,h1,h2⟩ := Zs5 ht hg hk
 have k1 := (h1.map (fun x : Int × Nd => x.1)).nodup_iff.1 ht.nodup
 refine (h2.map (fun x : Int × Nd => x.1)).nodup_iff.2 ?_
 have hm : k.no ∉ (ent u :: r).map (fun x : Int × Nd => x.1) := fun h => Nt_none.1 hnew ((h1.map (fun x : Int × Nd => x.1)).mem_iff.2 h)
 exact List.nodup_cons.2 ⟨hm,k1⟩
theorem Z1u (ht : TreeOk n t) (hg : goT t p = .ok u) (hk : k.kids = []) (hnew : Nt t k.no = none) (no : Int) : Nt (updT p (addF k) t) no = if no = k.no then some k.nd else if no = u.no then some (addF k u).nd else Nt t no := by
 obtain ⟨r,h1,h2⟩ := Zs5 ht hg hk
 rw [Zyh h2 (Zpl ht hg hk hnew),Zyh h1 ht.nodup];simp only [Zo4]
 show (if no = k.no then some k.nd else if no = (addF k u).no then some (addF k u).nd else getA no r) = if no = k.no then some k.nd else if no = u.no then some (addF k u).nd else if no = u.no then some u.nd else getA no r
 rw [show (addF k u).no = u.no from rfl];by_cases h : no = u.no <;> simp [h]
theorem Z3z (hu : u.st.kind = 1) : (addF k u).nd = ⟨u.st,wrD (insN (k.nm,k.no) u.names)⟩ := by
 unfold Tn.nd
 show (⟨u.st,if u.st.kind = 1 then wrD ((insT k u.kids).map fun k => (k.nm,k.no)) else u.data⟩ : Nd) = _
 rw [if_pos hu,Zim]; rfl
theorem Zov {l : List Tn} (h : kidT s l = none) : ∀ x ∈ l,x.nm ≠ s := fun x hx => by
 have := List.find?_eq_none.1 h x hx
 simpa using this
theorem Z7f (ht : TreeOk n t) (hg : goT t p = .ok u) (hu : u.st.kind = 1) (hk : k.kids = []) (hko : TnOk n k) (hnew : Nt t k.no = none) (hnm : nameOk k.nm) (hkid : kidT k.nm u.kids = none) (h512 : (wrD (insN (k.nm,k.no) u.names)).length ≤ 512) (hp : p.length < 8) : TreeOk n (updT p (addF k) t) := by
 have hu0 := ht.node u (Zcs hg)
 have hr := ht.root
 obtain ⟨e1,e2⟩ := Zh9 (Zsh k u) hg
 have hnames : (addF k u).names = insN (k.nm,k.no) u.names := Zim k u.kids
 refine ⟨Z01 (Zsh k u) ht.node hg ?_,Zpl ht hg hk hnew,⟨e2.trans hr.1,?_⟩,?_,ht.small⟩
 ·intro v hv
  rw [Zgm] at hv;rcases List.mem_cons.1 hv with rfl | hv
  ·refine ⟨hu0.chk,hu0.low,fun q => ⟨(hu0.dir hu).1,by rw [hnames]; exact h512⟩,Zoz hu0.rise (Zov hkid),fun x hx => ?_,fun q => absurd hu q⟩
   rcases List.mem_cons.1 ((Zen k u.kids).mem_iff.1 hx) with rfl | hx
   ·exact hnm
   ·exact hu0.nmk x hx
  ·rcases List.mem_append.1 ((Zoh (Zen k u.kids)).mem_iff.1 (show v ∈ subL (insT k u.kids) from hv) |> fun h => by rw [subL] at h; exact h) with hv | hv
   ·rw [Zgm,hk] at hv
    rcases List.mem_cons.1 hv with rfl | hv
    ·exact hko
    ·cases hv
   ·obtain ⟨x,hx,hv⟩ := mem_subL.1 hv
    exact ht.node v (Zel (Zcs hg) (Zgl hx hv))
 ·cases p with
  | nil => rw [goT] at hg; injection hg with hg; subst hg; exact hr.2
  | cons s p =>
   obtain ⟨x,hs,hg'⟩ := Zhr hg
   obtain ⟨_,hn,l1,l2,he,h1,h2⟩ := Zf5 (ht.node t (Ze1 t)) hs
   rw [Zg6 (p := p) (f := addF k) he hn h1 h2]; exact hr.2
 ·have h1 := Zvd (Zsh k u) ht.node hg
  have h2 := Zww hg
  have h3 : hgtT (addF k u) ≤ max 1 (hgtT u) := by
   rw [Zin,Zin u];refine hgtL_le.2 fun x hx => ?_
   rcases List.mem_cons.1 ((Zen k u.kids).mem_iff.1 (show x ∈ insT k u.kids from hx)) with rfl | hx
   ·rw [Zin,hk,hgtL]; omega
   ·have := Zm8 hx; omega
  have := ht.high
  omega
end
end Cr
namespace Cr
open Go Go.Proofs
set_option maxRecDepth 100000
set_option maxHeartbeats 64000000
attribute [local irreducible] Calls

def Zkn (n : Nat) (N : Int → Option Nd) : Option Nat := (List.range n).find? fun (i : Nat) => (N (i : Int)).isNone
theorem Zuc {n : Nat} {N : Int → Option Nd} (h : ∀ (j : Nat),j < n → N j ≠ none) : Zkn n N = none :=
 List.find?_eq_none.2 fun x hx => by simpa [Option.isNone_iff_eq_none] using h x (List.mem_range.1 hx)
theorem Zl3 {n : Nat} {N : Int → Option Nd} {i : Nat} (hi : i < n) (h0 : N i = none) (h : ∀ (j : Nat),j < i → N j ≠ none) : Zkn n N = some i := by
 unfold Zkn
 rw [List.find?_eq_some_iff_getElem];refine ⟨by simp [h0],i,by simpa using hi,by simp,fun j hj => ?_⟩
 have := h j hj
 cases hN : N (j : Int) with
 | none => exact absurd hN this
 | some y => simp [hN]
def Zho (nd : Nd) : Int := if (nd.st.kind ≠ 0 ∧ nd.st.kind ≠ 1 ∧ nd.st.kind ≠ 2) ∨ (nd.st.kind = 1 ∧ nd.data ≠ []) then 17 else if nd.st.check ≠ 0 then nd.st.check else if 512 < nd.data.length then 2 else 0
theorem Z8x (nd : Nd) (a : Option Addr) (q : Nat) (W : World) :
  Calls Tryz.prog 46 #[.agg (List.toArray [.int .i64 nd.st.kind,.int .i64 nd.st.mode,.int .i64 nd.st.owner,.int .i64 nd.st.group,.slice a nd.data.length q])] W (Ret fun v w => v = .int .i64 (Zho nd) ∧ St W noF [] w) := by
 have hS := St.start W
 have hck := fun W => Zqo nd.st W
 unfold StatM.val at hck
 obtain ⟨e,he⟩ : ∃ e,e = nd.st.check := ⟨_,rfl⟩
 unfold Zho
 rw [← he] at hck ⊢;by_cases h1 : nd.st.kind = 1
 ·by_cases hd : nd.data.length = 0
  ·have hd' : nd.data = [] := List.eq_nil_of_length_eq_zero hd
   rw [if_neg (by rintro (⟨_,h,_⟩ | ⟨_,h⟩); exact h h1; exact h hd')];by_cases h0 : e = 0
   ·subst h0
    refine Zab Tryz.func46 rfl Tryz.ntmps46 rfl ?_
    repeat (first|refine Yfb ?_|(refine X_id ?_;first|(refine Zac 88 rfl rfl rfl rfl rfl hS (hck _) ?_;rintro _ _ rfl hS)|refine Yaf ?_|refine Yag ?_|refine Yan ?_|refine Ya9 ?_|refine Ya7 ?_|refine Yat ?_|refine Ybg ?_|refine Ybj ?_|refine Ybc ?_|refine Ybr ?_|refine Yaq ?_|refine Ybi ?_|refine Yba (fun _ _ hS _ => ?_))|refine Ye2 ?_|refine Yab ?_|refine Yas ?_|refine Yam ?_)
    exact ⟨by simp [hd'],hS.drops⟩
   ·rw [if_pos h0]
    refine Zab Tryz.func46 rfl Tryz.ntmps46 rfl ?_
    repeat (first|refine Yfb ?_|(refine X_id ?_;first|(refine Zac 88 rfl rfl rfl rfl rfl hS (hck _) ?_;rintro _ _ rfl hS)|refine Yaf ?_|refine Yag ?_|refine Yan ?_|refine Ya9 ?_|refine Ya7 ?_|refine Yat ?_|refine Ybg ?_|refine Ybj ?_|refine Ybc ?_|refine Ybr ?_|refine Yaq ?_|refine Ybi ?_|refine Yba (fun _ _ hS _ => ?_))|refine Yew ?_|refine Yex ?_)
    exact ⟨rfl,hS.drops⟩
  ·rw [if_pos (.inr ⟨h1,fun e => hd (by rw [e]; rfl)⟩)]
   refine Zab Tryz.func46 rfl Tryz.ntmps46 rfl ?_
   repeat (first|refine Yfb ?_|(refine X_id ?_;first|refine Yaf ?_|refine Yag ?_|refine Yan ?_|refine Ya9 ?_|refine Ya7 ?_|refine Yat ?_|refine Ybg ?_|refine Ybj ?_|refine Ybc ?_|refine Ybx ?_|refine Yaq ?_|refine Yba (fun _ _ hS _ => ?_))|refine Yez ?_|refine Yex ?_)
   exact ⟨rfl,hS.drops⟩
 ·by_cases h02 : nd.st.kind = 0 ∨ nd.st.kind = 2
  ·rw [if_neg (by rintro (⟨h,_,h'⟩ | ⟨h,_⟩); rcases h02 with q | q; exact h q; exact h' q; exact h1 h)]
   have hor : nd.st.kind ≠ 0 → nd.st.kind = 2 := fun h => h02.resolve_left h
   by_cases hk0 : nd.st.kind = 0
   case' neg => have hk2 := hor hk0
   all_goals
    by_cases h0 : e = 0
    ·subst h0
     by_cases h5 : 512 < nd.data.length
     ·refine Zab Tryz.func46 rfl Tryz.ntmps46 rfl ?_
      repeat (first|refine Yfb ?_|(refine X_id ?_;first|(refine Zac 88 rfl rfl rfl rfl rfl hS (hck _) ?_;rintro _ _ rfl hS)|refine Yaf ?_|refine Yag ?_|refine Yan ?_|refine Ya9 ?_|refine Ya7 ?_|refine Yat ?_|refine Ybh ?_|refine Ybj ?_|refine Ybc ?_|refine Ybx ?_|refine Yaq ?_|refine Ybi ?_|refine Yba (fun _ _ hS _ => ?_))|refine Yew ?_|refine Yex ?_)
      exact ⟨by simp [h5],hS.drops⟩
     ·refine Zab Tryz.func46 rfl Tryz.ntmps46 rfl ?_
      repeat (first|refine Yfb ?_|(refine X_id ?_;first|(refine Zac 88 rfl rfl rfl rfl rfl hS (hck _) ?_;rintro _ _ rfl hS)|refine Yaf ?_|refine Yag ?_|refine Yan ?_|refine Ya9 ?_|refine Ya7 ?_|refine Yat ?_|refine Ybh ?_|refine Ybj ?_|refine Ybc ?_|refine Ybr ?_|refine Yaq ?_|refine Ybi ?_|refine Yba (fun _ _ hS _ => ?_))|refine Ye2 ?_|refine Yab ?_|refine Yas ?_|refine Yam ?_)
      exact ⟨by simp [h5],hS.drops⟩
    ·rw [if_pos h0]
     refine Zab Tryz.func46 rfl Tryz.ntmps46 rfl ?_
     repeat (first|refine Yfb ?_|(refine X_id ?_;first|(refine Zac 88 rfl rfl rfl rfl rfl hS (hck _) ?_;rintro _ _ rfl hS)|refine Yaf ?_|refine Yag ?_|refine Yan ?_|refine Ya9 ?_|refine Ya7 ?_|refine Ybh ?_|refine Ybj ?_|refine Ybc ?_|refine Yaq ?_|refine Ybi ?_|refine Yba (fun _ _ hS _ => ?_))|refine Yew ?_|refine Yex ?_)
     exact ⟨rfl,hS.drops⟩
  ·have hk0 : ¬ nd.st.kind = 0 := fun h => h02 (.inl h)
   have hk2 : ¬ nd.st.kind = 2 := fun h => h02 (.inr h)
   rw [if_pos (.inl ⟨hk0,h1,hk2⟩)];refine Zab Tryz.func46 rfl Tryz.ntmps46 rfl ?_
   repeat (first|refine Yac ?_|refine Yaa ?_|refine Yav ?_|refine Ybf ?_|refine Yc1 ?_|(refine X_id ?_;first|refine Yaf ?_|refine Yag ?_|refine Yan ?_|refine Ya9 ?_|refine Ybj ?_|refine Yaq ?_|refine Yba (fun _ _ hS _ => ?_))|refine Yez ?_|refine Yex ?_)
   exact ⟨rfl,hS.drops⟩
section
variable {c f tp n : Nat} {b : Int} {T N : Int → Option Nd} {X : List RowD}
theorem Z68 (hn : n ≤ 1048576) (W : World) (F : Nat → Prop) (hT : TreeRo W F f tp n b T) (hS : St W F [chR c f b T N X] W) :
  Calls Tryz.prog 49 #[.pointer (some ⟨c,0,none⟩)] W (Ret fun v w => ∃ X',(∀ x ∈ X,x ∈ X') ∧ St W F [chR c f b T N X'] w ∧ v = match Zkn n N with
   | some i => .tuple #[.int .i64 (i : Nat),.bool true]
   | none => .tuple #[.int .i64 0,.bool false]) := by
 obtain ⟨P,D,pm,dm,hq,hS⟩ := hS.openCh
 have hc := hT.blk
 refine Zab Tryz.func49 rfl Tryz.ntmps49 rfl ?_
 repeat (first|refine Yeb ?_|(refine X_id ?_;first|refine Yaf ?_|refine Yag ?_|refine Yau ?_|refine Yan ?_|refine Yaq ?_|refine Ycv ?_)|refine Yec ?_|refine Yab ?_)
 refine Zaa _ rfl rfl rfl rfl rfl (hT.tab.nodes _ (fun r h => h.rd hS)) ?_
 rintro _ _ ⟨rfl,rfl⟩
 replace hS := hS.shutCh hq
 clear hc;repeat (first|refine Yeb ?_|refine Yaf ?_|refine Yak ?_|refine Yab ?_)
 refine Zaj (α := Nat) (fun i => [(0,.pointer (some ⟨c,0,none⟩)),(14,.int .i64 (n : Nat)),(15,.int .i64 (i : Nat))])
  (fun i w => i ≤ n ∧ (∀ j : Nat,j < i → N j ≠ none) ∧ ∃ X',(∀ x ∈ X,x ∈ X') ∧ St W F [chR c f b T N X'] w) (fun i => n - i) 0 ⟨rfl,rfl,rfl,trivial⟩ ⟨Nat.zero_le _,fun j hj => absurd hj (by omega),X,fun _ h => h,hS⟩ ?_
 clear hS;rintro i w ⟨hi,hne,X',hX',hS⟩
 by_cases hlt : i < n
 ·repeat (first|refine Yeb ?_|refine Yaf ?_|refine Yag ?_|refine Ya1 ?_|refine Yef ?_|refine Yab ?_)
  obtain ⟨_,hc,_,hw,hbk⟩ := hS.call [true]
  refine Zaa _ rfl rfl rfl rfl rfl (Z22 (i : Nat) _ _ (hT.mono hw) hc) ?_
  rintro v w ⟨X2,hX2,hS,nd,a',q',rfl,hy⟩
  replace hS := hbk hS
  clear hbk hw hc;cases hN : N (i : Int) with
  | none =>
   simp only [Option.isSome_none]
   rw [Zl3 hlt hN hne];repeat (first|refine Yeb ?_|(refine X_id ?_;first|refine Yaf ?_|refine Yag ?_|refine Ya0 ?_|refine Ybo ?_|refine Yao (fun _ hS _ => ?_)|refine Yar (fun _ _ hS _ => ?_))|refine Yet ?_|refine Ye6 ?_)
   exact ⟨X2,fun x hx => hX2 x (hX' x hx),hS.took,rfl⟩
  | some y =>
   simp only [Option.isSome_some]
   repeat (first|refine Yeb ?_|(refine X_id ?_;first|refine Yaf ?_|refine Yag ?_|refine Ya0 ?_|refine Ybb ?_|refine Yaw ?_|refine Yao (fun _ hS _ => ?_)|refine Yar (fun _ _ hS _ => ?_))|refine Yen ?_|refine Yej ?_)
   exact Zae (i + 1) ⟨rfl,rfl,rfl,trivial⟩ ⟨hlt,fun j hj => by
    by_cases hji : j = i
    ·subst hji; rw [hN]; simp
    ·exact hne j (by omega),X2,fun x hx => hX2 x (hX' x hx),hS.took⟩ (by omega)
 ·obtain rfl : i = n := by omega
  rw [Zuc hne];repeat (first|refine Yeb ?_|refine Yag ?_|refine Yaz ?_|refine Yek ?_|refine Yab ?_|refine Ya4 ?_|refine Ya5 ?_|refine Ybp ?_)
  exact ⟨X',hX',hS,rfl⟩
end
def Zbf (n : Nat) (t : Tn) (nd : Nd) (p : List (List UInt8)) : Int × Tn :=
 if ¬ Za4 p ∨ p = [] then (10,t) else
 if Zho nd ≠ 0 then (Zho nd,t) else
 match Zhq t p with
 | .error e => (e,t)
 | .ok x => if (kidT x.2 x.1.kids).isSome = true then (8,t) else
  match Zkn n (Nt t) with
  | none => (6,t)
  | some i => if 512 < (wrD (insN (x.2,(i : Int)) x.1.names)).length then (6,t) else (0,updT p.dropLast (addF (.mk x.2 i nd.st nd.data [])) t)
theorem Zm2 {t u : Tn} {p : List (List UInt8)} {s : List UInt8} (h : Zhq t p = .ok (u,s)) : Za4 p ∧ goT t p.dropLast = .ok u ∧ u.st.kind = 1 ∧ p = p.dropLast ++ [s] ∧ nameOk s := by
 unfold Zhq at h
 split at h
 ·rename_i hr
  split at h
  ·cases h
  ·rename_i s' hs'
   split at h
   ·cases h
   ·rename_i u' hu'
    split at h
    ·rename_i hk
     simp only [Except.ok.injEq,Prod.mk.injEq] at h
     obtain ⟨rfl,rfl⟩ := h
     have hne : p ≠ [] := fun e => by rw [e] at hs'; cases hs'
     have hp : p = p.dropLast ++ [s'] := by
      have := List.dropLast_concat_getLast hne
      rw [List.getLast?_eq_some_getLast hne] at hs';injection hs' with hs'
      rw [hs'] at this; exact this.symm
     exact ⟨hr,hu',hk,hp,hr.2 s' (List.mem_of_getLast? hs')⟩
    ·cases h
 ·cases h
theorem Zl2 {n i : Nat} {N : Int → Option Nd} (h : Zkn n N = some i) : i < n ∧ N i = none := by
 unfold Zkn at h
 have h1 := List.mem_of_find?_eq_some h
 have h2 := List.find?_some h
 exact ⟨List.mem_range.1 h1,by simpa [Option.isNone_iff_eq_none] using h2⟩
theorem Zlw {nd : Nd} (h : Zho nd = 0) : (nd.st.kind = 0 ∨ nd.st.kind = 1 ∨ nd.st.kind = 2) ∧ (nd.st.kind = 1 → nd.data = []) ∧ nd.st.check = 0 ∧ nd.data.length ≤ 512 := by
 unfold Zho at h
 split at h
 ·cases h
 ·rename_i h1
  split at h
  ·exact absurd h (by assumption)
  ·rename_i h2
   split at h
   ·cases h
   ·rename_i h3
    refine ⟨?_,fun q => Decidable.byContradiction fun q2 => h1 (.inr ⟨q,q2⟩),Decidable.not_not.1 h2,by omega⟩
    have := fun q => h1 (.inl q)
    omega
theorem kidT_ix {u : Tn} {s : List UInt8} : 0 ≤ ixN s u.names ↔ (kidT s u.kids).isSome = true := by
 have hf := Zlv u s
 rcases Zm4 (s := s) (l := u.names) with ⟨h1,h2⟩ | ⟨k,x,h1,_,h3⟩
 ·rw [h2] at hf
  have : kidT s u.kids = none := by cases hq : kidT s u.kids with | none => rfl | some y => rw [hq] at hf; cases hf
  rw [this]; simp; omega
 ·rw [h3] at hf
  have : (kidT s u.kids).isSome = true := by cases hq : kidT s u.kids with | none => rw [hq] at hf; cases hf | some y => rfl
  rw [this]; simp; omega
theorem Zp6 : wrD [] = [40,41] := by simp [wrD,dirM,Zbz,Za3]
theorem Z6f {n i : Nat} {nd : Nd} {s : List UInt8} (hm : Zho nd = 0) (hi : i < n) : TnOk n (.mk s i nd.st nd.data []) := by
 obtain ⟨h1,h2,h3,h4⟩ := Zlw hm
 refine ⟨h3,⟨Int.natCast_nonneg i,by show (i : Int) < n; omega⟩,fun q => ⟨h2 q,?_⟩,List.Pairwise.nil,fun _ h => (by cases h),fun _ => ⟨rfl,h4⟩⟩
 show (wrD []).length ≤ 512
 rw [Zp6]; decide
section
variable {n : Nat} {t : Tn}
theorem Zhn (ht : TreeOk n t) (nd : Nd) (p : List (List UInt8)) : TreeOk n (Zbf n t nd p).2 := by
 unfold Zbf
 split
 ·exact ht
 ·split
  ·exact ht
  ·rename_i hm
   replace hm := Decidable.not_not.1 hm
   cases hl : Zhq t p with
   | error e => exact ht
   | ok x =>
    obtain ⟨u,s⟩ := x
    obtain ⟨hr,hg,hu,hp,hs⟩ := Zm2 hl
    simp only
    split
    ·exact ht
    ·rename_i hkid
     have hkid' : kidT s u.kids = none := by cases hq : kidT s u.kids with | none => rfl | some y => rw [hq] at hkid; exact absurd rfl hkid
     cases hf : Zkn n (Nt t) with
     | none => exact ht
     | some i =>
      obtain ⟨hi,hnew⟩ := Zl2 hf
      simp only
      split
      ·exact ht
      ·rename_i h5
       have hpl : p.dropLast.length < 8 := by
        have h8 := hr.1
        have := congrArg List.length hp
        rw [List.length_append,List.length_singleton] at this; omega
       exact Z7f ht hg hu rfl (Z6f hm hi) hnew hs hkid' (by simp only [Tn.nm,Tn.no] at h5 ⊢; omega) hpl
end
section
variable {c f tp n : Nat} {b : Int} {T : Int → Option Nd} {t : Tn} {X : List RowD}
theorem Zxj (ht : TreeOk n t) (nd : Nd) (a : Option Addr) (q : Nat) (pa : Option Addr) (p : List (List UInt8)) (pc : Nat) (W : World) (F : Nat → Prop) (hT : TreeRo W F f tp n b T) (hG : Lg W F) (ha : Ro W F (bytes a nd.data)) (hp : Ro W F (row pa (strV p))) (hpc : p.length ≤ pc) (hpl : p.length ≤ 1048576) (hS : St W F [chR c f b T (Nt t) X] W) :
  Calls Tryz.prog 18 #[.pointer (some ⟨c,0,none⟩),.agg (List.toArray [.int .i64 nd.st.kind,.int .i64 nd.st.mode,.int .i64 nd.st.owner,.int .i64 nd.st.group,.slice a nd.data.length q]),.slice pa p.length pc] W (Ret fun v w => ∃ X',(∀ x ∈ X,x ∈ X') ∧ v = .int .i64 (Zbf n t nd p).1 ∧ St W F [chR c f b T (Nt (Zbf n t nd p).2) X'] w) := by
 unfold Zbf
 refine Zab Tryz.func18 rfl Tryz.ntmps18 rfl ?_
 repeat (first|refine Yeb ?_|refine Yfe ?_|refine Yba (fun _ _ hS _ => ?_)|refine Yen ?_|refine Yab ?_)
 refine Zaa _ rfl rfl rfl rfl rfl (Z03 pa p pc _ (hp.rd hS) hpc hpl) ?_
 rintro _ w (⟨hr,q0,s0,a',c',hpq,rfl,hc',hS'⟩ | ⟨hbad,rfl,hS'⟩)
 case inr =>
  replace hS := hS.plus hS';clear hS';rw [if_pos hbad];repeat (first|refine Yeb ?_|refine Ye8 ?_|refine Yet ?_|refine Yeu ?_)
  exact ⟨X,fun _ h => h,rfl,hS.took⟩
 replace hS := hS.plus hS';clear hS';rw [if_neg (by rintro (h | h); exact h hr; rw [h] at hpq; simp at hpq)]
 obtain ⟨e,he⟩ : ∃ e,e = Zho nd := ⟨_,rfl⟩
 have hmd := fun W => Z8x nd a q W
 rw [← he] at hmd ⊢;by_cases h0 : e = 0
 case neg =>
  rw [if_pos h0];repeat (first|refine Yeb ?_|(refine X_id ?_;first|(refine Zac 46 rfl rfl rfl rfl rfl hS (hmd _) ?_;rintro _ _ rfl hS)|refine Yaf ?_|refine Yag ?_|refine Ya0 ?_|refine Ybj ?_|refine Ybc ?_|refine Ybi ?_)|refine Yfc ?_|refine Yeu ?_)
  exact ⟨X,fun _ h => h,rfl,hS.took⟩
 subst h0
 rw [if_neg (by simp)];obtain ⟨hmk,hmd1,hmc,hm5⟩ := Zlw he.symm
 repeat (first|refine Yeb ?_|(refine X_id ?_;first|(refine Zac 46 rfl rfl rfl rfl rfl hS (hmd _) ?_;rintro _ _ rfl hS)|refine Yaf ?_|refine Yag ?_|refine Ya0 ?_|refine Ybc ?_|refine Ybi ?_)|refine Yen ?_|refine Yab ?_)
 obtain ⟨_,hc,_,hw,hbk⟩ := hS.call [false,false,true]
 refine Zaa _ rfl rfl rfl rfl rfl (Z8z ht pa p pc _ _ (hT.mono hw) (hG.mono hw) (hw _ hp) hpc hpl hc) ?_
 rintro v w ⟨X1,hX1,hS,hv⟩
 replace hS := hbk hS
 clear hbk hw hc;cases hl : Zhq t p with
 | error e =>
  rw [hl] at hv;obtain ⟨he0,no',nd',a',q',b',m',k',s',rfl⟩ := hv
  simp only
  repeat (first|refine Yeb ?_|refine Ye8 ?_|refine Yao (fun _ hS _ => ?_)|refine Yar (fun _ _ hS _ => ?_)|refine Yez ?_|refine Yex ?_)
  exact ⟨X1,hX1,rfl,hS.took⟩
 | ok x =>
  obtain ⟨u,s⟩ := x
  rw [hl] at hv;obtain ⟨a2,q2,nb,nc,rfl,hq2,hrow,hnrow⟩ := hv
  obtain ⟨_,hg,hk,hpd,hs⟩ := Zm2 hl
  have hu := Zcs hg
  have hnok := (ht.rd hu hk).1
  have hn5 := ((ht.node u hu).dir hk).2
  have hnl : u.names.length ≤ 1023 := by
   have hge := Zjk (m := 7) (l := u.names.map Zeh) fun x hx => by
    obtain ⟨y,_,rfl⟩ := List.mem_map.1 hx
    exact Zkw y 6
   rw [wrD,dirM,Zbz] at hn5;simp only [List.length_map,List.length_cons,List.length_append,List.length_nil] at hge hn5
   omega
  simp only at hq2 hrow hnrow ⊢
  repeat (first|refine Yeb ?_|refine Ye9 ?_|refine Yao (fun _ hS _ => ?_)|refine Yar (fun _ _ hS _ => ?_)|refine Yey ?_|refine Yab ?_)
  refine Zaa _ rfl rfl rfl rfl rfl (Z6y nb u.names nc s _ (hnrow.rd (hS.rd (r := chR c f b T (Nt t) X1) (by simp)).ch) (by omega)) ?_
  rintro _ w ⟨rfl,hS'⟩
  replace hS := hS.plus hS';clear hS';by_cases hix : 0 ≤ ixN s u.names
  ·rw [if_pos (kidT_ix.1 hix)]
   repeat (first|refine Yeb ?_|refine Yag ?_|refine Yb2 ?_|refine Yet ?_|refine Yex ?_)
   exact ⟨X1,hX1,rfl,hS.took⟩
  have hix' : ixN s u.names < 0 := by omega
  rw [if_neg (fun h => hix (kidT_ix.2 h))];have hkid : kidT s u.kids = none := by
   cases hq : kidT s u.kids with
   | none => rfl
   | some y => exact absurd (kidT_ix.2 (by rw [hq]; rfl)) hix
  repeat (first|refine Yeb ?_|refine Yaf ?_|refine Yag ?_|refine Yb6 ?_|refine Yen ?_|refine Yej ?_)
  obtain ⟨_,hc,_,hw,hbk⟩ := hS.call [false,true]
  refine Zaa _ rfl rfl rfl rfl rfl (Z68 (by have := ht.small; omega) _ _ (hT.mono hw) hc) ?_
  rintro v w ⟨X2,hX2,hS,hv⟩
  replace hS := hbk hS
  clear hbk hw hc;subst hv
  cases hf : Zkn n (Nt t) with
  | none =>
   simp only
   repeat (first|refine Yev ?_|(refine X_id ?_;first|refine Yaf ?_|refine Yag ?_|refine Ya0 ?_|refine Ya9 ?_|refine Ybo ?_)|refine Yet ?_|refine Yeu ?_)
   exact ⟨X2,fun x hx => hX2 x (hX1 x hx),rfl,hS.took⟩
  | some i =>
   obtain ⟨hi,hnew⟩ := Zl2 hf
   have hsl : s.length ≤ 64 := by have := hs.2.1; omega
   simp only
   repeat (first|refine Yes ?_|(refine X_id ?_;first|refine Yaf ?_|refine Yag ?_|refine Ya0 ?_|refine Ybb ?_|refine Ybi ?_)|refine Yec ?_|refine Yab ?_)
   obtain ⟨_,hc,_,hw,hbk⟩ := hS.call [true]
   refine Zaa _ rfl rfl rfl rfl rfl (Z60 u.no u.nd a2 q2 nb u.names nc s (i : Nat) _ _ (hG.mono hw) (hnrow.sub hX2) hnok (by omega) ⟨hsl,by omega,by have := ht.small; omega⟩ (Zt6 (ht.node u hu)) hc) ?_
   rintro v w ⟨X3,hX3,(⟨h5,rfl,hS⟩ | ⟨h5,rfl,hS⟩)⟩
   ·replace hS := hbk hS
    clear hbk hw hc;rw [if_pos h5];repeat (first|refine Yes ?_|refine Yag ?_|refine Ya7 ?_|refine Ybo ?_|refine Yet ?_|refine Yeu ?_)
    exact ⟨X3,fun x hx => hX3 x (hX2 x (hX1 x hx)),rfl,hS.took⟩
   ·replace hS := hbk hS
    clear hbk hw hc;rw [if_neg (by omega)];have hNt : (fun k => if k = (i : Int) then some (Tn.mk s i nd.st nd.data []).nd else if k = u.no then some (⟨u.nd.st,wrD (insN (s,(i : Int)) u.names)⟩ : Nd) else Nt t k) = Nt (updT p.dropLast (addF (.mk s i nd.st nd.data [])) t) := by
     funext x
     rw [Z1u (k := .mk s i nd.st nd.data []) ht hg rfl hnew,Z3z hk]
     rfl
    by_cases hdir : nd.st.kind = 1
    ·have hknd : (Tn.mk s i nd.st nd.data []).nd = ⟨nd.st,wrD []⟩ := by
      show (⟨nd.st,if nd.st.kind = 1 then wrD [] else nd.data⟩ : Nd) = _
      rw [if_pos hdir]
     rw [hknd] at hNt;repeat (first|refine Yes ?_|(refine X_id ?_;first|refine Yan ?_|refine Ya7 ?_|refine Ybb ?_|refine Ybg ?_|refine Yaq ?_)|refine Yfi ?_|refine Yab ?_)
     refine Zaa _ rfl rfl rfl rfl rfl (Zmn none [] 0 _ (Zh5 _ _ _) ⟨by decide,fun _ h => (by cases h)⟩ (hG.at_ hS)) ?_
     rintro _ w ⟨b3,q3,rfl,hq3,hS'⟩
     replace hS := hS.plus hS';clear hS';repeat (first|refine Yeb ?_|refine Yaf ?_|refine Yan ?_|refine Ybi ?_|refine Yao (fun _ hS _ => ?_)|refine Yec ?_|refine Yab ?_)
     obtain ⟨_,hc,hr,hw,hbk⟩ := hS.call [false,true]
     refine Zaa _ rfl rfl rfl rfl rfl (set_ (i : Nat) ⟨nd.st,wrD []⟩ b3 q3 _ _ (.inl (hr _ (List.mem_cons_self ..)).own_row) (by simp only [Zp6]; decide) hc) ?_
     rintro _ w ⟨rfl,X4,hX4,hS⟩
     replace hS := hbk hS
     clear hbk hw hc hr;rw [hNt] at hS;repeat (first|refine Yeb ?_|refine Yag ?_|refine Yep ?_|refine Yed ?_)
     exact ⟨X4,fun x hx => hX4 x (hX3 x (hX2 x (hX1 x hx))),rfl,hS.took⟩
    ·have hknd : (Tn.mk s i nd.st nd.data []).nd = nd := by
      show (⟨nd.st,if nd.st.kind = 1 then wrD [] else nd.data⟩ : Nd) = _
      rw [if_neg hdir]
     rw [hknd] at hNt;repeat (first|refine Yes ?_|(refine X_id ?_;first|refine Yaf ?_|refine Yan ?_|refine Ya7 ?_|refine Ybb ?_|refine Ybh ?_|refine Yaq ?_|refine Ybi ?_)|refine Yen ?_|refine Yab ?_)
     obtain ⟨_,hc,_,hw,hbk⟩ := hS.call [true]
     refine Zaa _ rfl rfl rfl rfl rfl (set_ (i : Nat) nd a q _ _ (.inl (hw _ ha)) (by omega) hc) ?_
     rintro _ w ⟨rfl,X4,hX4,hS⟩
     replace hS := hbk hS
     clear hbk hw hc;rw [hNt] at hS;repeat (first|refine Yeb ?_|refine Yag ?_|refine Yep ?_|refine Yed ?_)
     exact ⟨X4,fun x hx => hX4 x (hX3 x (hX2 x (hX1 x hx))),rfl,hS.took⟩
end
end Cr
namespace Cr
open Go
set_option maxHeartbeats 64000000

section
variable {n : Nat} {t u k : Tn} {p : List (List UInt8)} {s : List UInt8}
/-! ### one node otherwise -/
/-! ### one less -/
end
end Cr
namespace Cr
open Go Go.Proofs
set_option maxRecDepth 100000
set_option maxHeartbeats 64000000
attribute [local irreducible] Calls

section
variable {n : Nat} {t : Tn}
end
section
variable {c f tp n : Nat} {b : Int} {T : Int → Option Nd} {t : Tn} {X : List RowD}
end
section
variable {c f tp n : Nat} {b : Int} {T : Int → Option Nd} {t : Tn} {X : List RowD}
end
section
variable {c f tp n : Nat} {b : Int} {T : Int → Option Nd} {t : Tn} {X : List RowD}
end
section
variable {c f tp n : Nat} {b : Int} {T : Int → Option Nd} {t : Tn} {X Y : List RowD}
end
section
variable {c f tp n : Nat} {b : Int} {T : Int → Option Nd} {t : Tn} {X Y : List RowD}
end
section
variable {c f tp n : Nat} {b : Int} {T : Int → Option Nd} {t : Tn} {X : List RowD}
end
end Cr
namespace Cr
open Go
set_option maxHeartbeats 64000000

theorem Zve {f : Tn → Tn} (hf : ∀ u,(f u).nm = u.nm) : ∀ (p : List (List UInt8)) (t : Tn),(updT p f t).nm = t.nm
 | [],t => hf t
 | _ :: _,.mk _ _ _ _ _ => rfl
theorem Zwp {f : Tn → Tn} (hf : ∀ u,(f u).nm = u.nm) (s s' : List UInt8) (p : List (List UInt8)) : ∀ l : List Tn,kidT s (l.map fun k => if k.nm = s' then updT p f k else k) = (kidT s l).map fun k => if k.nm = s' then updT p f k else k
 | [] => rfl
 | x :: l => by
  have hn : (if x.nm = s' then updT p f x else x).nm = x.nm := by split; exact Zve hf p x; rfl
  have ih := Zwp hf s s' p l
  unfold kidT at ih ⊢
  rw [List.map_cons];by_cases h : x.nm = s
  ·rw [List.find?_cons_of_pos (by rw [hn]; simpa using h),List.find?_cons_of_pos (by simpa using h)]; rfl
  ·rw [List.find?_cons_of_neg (by rw [hn]; simpa using h),List.find?_cons_of_neg (by simpa using h),ih]
theorem Zm9 {f : Tn → Tn} (hf : ∀ u,(f u).nm = u.nm) (s s' : List UInt8) (p : List (List UInt8)) (t : Tn) : Zcc (updT (s' :: p) f t) s = match Zcc t s with
  | .ok k => .ok (if s = s' then updT p f k else k)
  | .error e => .error e := by
 obtain ⟨nm,no,st,data,kids⟩ := t
 unfold Zcc
 rw [updT];show (if st.kind = 1 then (match kidT s (kids.map fun k => if k.nm = s' then updT p f k else k) with | some k => .ok k | none => .error 7) else .error 17 : Except Int Tn) = match (if st.kind = 1 then (match kidT s kids with | some k => .ok k | none => .error 7) else .error 17 : Except Int Tn) with
  | .ok k => .ok (if s = s' then updT p f k else k)
  | .error e => .error e
 rw [Zwp hf];by_cases hk : st.kind = 1
 ·rw [if_pos hk,if_pos hk]
  cases hq : kidT s kids with
  | none => rfl
  | some k => simp only [Option.map_some,(Zm3 hq).2]
 ·rw [if_neg hk,if_neg hk]
theorem Zwv {f : Tn → Tn} (hf : ∀ u,(f u).nm = u.nm) (r : List (List UInt8)) : ∀ (p : List (List UInt8)) (t : Tn),goT (updT p f t) (p ++ r) = match goT t p with
  | .ok u => goT (f u) r
  | .error e => .error e
 | [],t => rfl
 | s :: p,t => by
  rw [List.cons_append,goT,Zm9 hf,goT];cases hg : Zcc t s with
  | error e => rfl
  | ok k =>
   simp only [if_pos]
   exact Zwv hf r p k
theorem Z1g {f : Tn → Tn} (hf : ∀ u,(f u).nm = u.nm) : ∀ (p q : List (List UInt8)) (t : Tn),¬ p <+: q → ¬ q <+: p → goT (updT p f t) q = goT t q
 | [],q,t,h,_ => absurd (List.nil_prefix ..) h
 | s :: p,[],t,_,h => absurd (List.nil_prefix ..) h
 | s :: p,x :: q,t,h,h2 => by
  rw [goT,Zm9 hf,goT];cases hg : Zcc t x with
  | error e => rfl
  | ok k =>
   simp only
   by_cases hx : x = s
   ·subst hx
    rw [if_pos rfl];exact Z1g hf p q k (fun e => h (List.cons_prefix_cons.2 ⟨rfl,e⟩)) fun e => h2 (List.cons_prefix_cons.2 ⟨rfl,e⟩)
   ·rw [if_neg hx]
theorem Zxv (k u : Tn) : (addF k u).nm = u.nm := rfl
theorem Zwq {k : Tn} : ∀ {l : List Tn},kidT k.nm l = none → kidT k.nm (insT k l) = some k
 | [],_ => by unfold kidT insT; rw [List.find?_cons_of_pos (by simp)]
 | x :: l,h => by
  have hx : ¬ x.nm = k.nm := Zov h x (List.mem_cons_self ..)
  have ih := Zwq (k := k) (l := l) (by unfold kidT at h ⊢; rwa [List.find?_cons_of_neg (by simpa using hx)] at h)
  rw [insT];unfold kidT at ih ⊢
  split
  ·rw [List.find?_cons_of_neg (by simpa using hx),ih]
  ·rw [List.find?_cons_of_pos (by simp)]
theorem Zsg {k : Tn} {s : List UInt8} (hs : s ≠ k.nm) : ∀ (l : List Tn),kidT s (insT k l) = kidT s l
 | [] => by unfold kidT insT; rw [List.find?_cons_of_neg (by simpa using fun e => hs e.symm)]
 | x :: l => by
  have ih := Zsg hs l
  rw [insT];unfold kidT at ih ⊢
  split
  ·by_cases h : x.nm = s
   ·rw [List.find?_cons_of_pos (by simpa using h),List.find?_cons_of_pos (by simpa using h)]
   ·rw [List.find?_cons_of_neg (by simpa using h),List.find?_cons_of_neg (by simpa using h),ih]
  ·rw [List.find?_cons_of_neg (by simpa using fun e => hs e.symm)]
theorem Z0c {k u : Tn} {s : List UInt8} (hs : s ≠ k.nm) : Zcc (addF k u) s = Zcc u s := by
 unfold Zcc
 show (if u.st.kind = 1 then (match kidT s (insT k u.kids) with | some k => .ok k | none => .error 7) else .error 17 : Except Int Tn) = _
 rw [Zsg hs] <;> rfl
theorem Zna {k u : Tn} (hu : u.st.kind = 1) (h : kidT k.nm u.kids = none) : Zcc (addF k u) k.nm = .ok k := by
 unfold Zcc
 show (if u.st.kind = 1 then (match kidT k.nm (insT k u.kids) with | some k => .ok k | none => .error 7) else .error 17 : Except Int Tn) = _
 rw [Zwq h,if_pos hu]
/-! ### a key's value,by what stands at its path -/
theorem Zwz {t u : Tn} {p : List (List UInt8)} (hr : Za4 p) (h : goT t p = .ok u) : getR t p = .ok (shN u.nd) := by
 unfold getR goR
 rw [if_pos hr,h]
theorem Zz1 {t : Tn} {p : List (List UInt8)} {e : Int} (h : Zhq t p = .error e) : e ≠ 0 := by
 unfold Zhq at h
 split at h
 ·split at h
  ·injection h with h; subst h; decide
  ·split at h
   ·rename_i e' hg
    injection h with h; subst h
    rcases Zwx hg with rfl | rfl <;> decide
   ·split at h
    ·cases h
    ·injection h with h; subst h; decide
 ·injection h with h; subst h; decide
theorem Zzw {n : Nat} {t : Tn} {nd : Nd} {p : List (List UInt8)} (h : (Zbf n t nd p).1 = 0) : ∃ u s i,Zhq t p = .ok (u,s) ∧ kidT s u.kids = none ∧ (Zbf n t nd p).2 = updT p.dropLast (addF (.mk s i nd.st nd.data [])) t := by
 unfold Zbf at h ⊢
 split
 ·rename_i h1; rw [if_pos h1] at h; cases h
 ·rename_i h1
  split
  ·rename_i h2; rw [if_neg h1,if_pos h2] at h; exact absurd h h2
  ·rename_i h2
   rw [if_neg h1,if_neg h2] at h;cases hl : Zhq t p with
   | error e =>
    rw [hl] at h;exact absurd h (Zz1 hl)
   | ok x =>
    rw [hl] at h;simp only at h ⊢
    split
    ·rename_i h3; rw [if_pos h3] at h; cases h
    ·rename_i h3
     rw [if_neg h3] at h;cases hf : Zkn n (Nt t) with
     | none => rw [hf] at h; cases h
     | some i =>
      rw [hf] at h;simp only at h ⊢
      split
      ·rename_i h4; rw [if_pos h4] at h; cases h
      ·exact ⟨x.1,x.2,i,rfl,by simpa using h3,rfl⟩
theorem Zwj {n : Nat} {t : Tn} {nd : Nd} {p : List (List UInt8)} {s : List UInt8} (h : (Zbf n t nd (p ++ [s])).1 = 0) : ∃ u i,Za4 (p ++ [s]) ∧ goT t p = .ok u ∧ u.st.kind = 1 ∧ kidT s u.kids = none ∧ (∀ r,goT (Zbf n t nd (p ++ [s])).2 (p ++ s :: r) = goT (.mk s i nd.st nd.data []) r) ∧
  ∀ k r,k ≠ s → goT (Zbf n t nd (p ++ [s])).2 (p ++ k :: r) = goT t (p ++ k :: r) := by
 obtain ⟨u,s',i,hl,hn,he⟩ := Zzw h
 obtain ⟨h1,h2,h3,h4,_⟩ := Zm2 hl
 rw [List.dropLast_concat] at h2 h4 he;obtain rfl : s = s' := by simpa using h4
 refine ⟨u,i,h1,h2,h3,hn,fun r => ?_,fun k r hk => ?_⟩
 ·rw [he,Zwv (Zxv _),h2]
  show goT (addF _ u) (s :: r) = _
  rw [goT,show Zcc (addF (Tn.mk s i nd.st nd.data []) u) s = .ok (Tn.mk s i nd.st nd.data []) from Zna h3 hn]
 ·rw [he,Zwv (Zxv _),h2,Zqu,h2]
  show goT (addF _ u) (k :: r) = goT u (k :: r)
  rw [goT,goT,Z0c hk]
section
variable {n : Nat} {t : Tn} {name : List UInt8}
end
def Cont (m : Nat) (t : Tn) : Prop := ∀ j : Nat,(Nt t (j : Int)).isSome = decide (j < m)
theorem Cont.free {n m : Nat} {t : Tn} (h : Cont m t) (hm : m < n) : Zkn n (Nt t) = some m :=
 Zl3 hm (by have := h m; rw [decide_eq_false (by omega)] at this; simpa using this) fun j hj e => by
  have := h j
  rw [e,decide_eq_true hj] at this;cases this
theorem Cont.new {m : Nat} {t : Tn} (h : Cont m t) : Nt t (m : Int) = none := by
 have := h m
 rw [decide_eq_false (by omega)] at this
 simpa using this
theorem Z1a {n m : Nat} {t u : Tn} (ht : TreeOk n t) (hc : Cont m t) (hm : m < n) {p : List (List UInt8)} {s : List UInt8} (hr : Za4 (p ++ [s])) (hg : goT t p = .ok u) (hu : u.st.kind = 1) (hno : kidT s u.kids = none) {nd : Nd} (hnd : Zho nd = 0) (hsz : (wrD (insN (s,(m : Int)) u.names)).length ≤ 512) :
  Zbf n t nd (p ++ [s]) = (0,updT p (addF (.mk s m nd.st nd.data [])) t) ∧ Cont (m + 1) (updT p (addF (.mk s m nd.st nd.data [])) t) := by
 constructor
 ·unfold Zbf
  rw [if_neg (fun h => h.elim (fun h => h hr) (fun h => by simp at h)),if_neg (fun h => h hnd),Zly hr,hg]
  simp only
  rw [if_pos hu];simp only
  rw [if_neg (by rw [hno]; simp),hc.free hm]
  simp only
  rw [if_neg (by omega),List.dropLast_concat]
 ·intro j
  rw [Z1u (k := .mk s m nd.st nd.data []) ht hg rfl hc.new]
  by_cases hj : (j : Int) = (m : Int)
  ·rw [if_pos (show (j : Int) = (Tn.mk s (m : Int) nd.st nd.data []).no from hj)]
   simp; omega
  ·rw [if_neg (show ¬ (j : Int) = (Tn.mk s (m : Int) nd.st nd.data []).no from hj)]
   by_cases hju : (j : Int) = u.no
   ·rw [if_pos hju]
    have h := ht.at_ (Zcs hg)
    have hs := hc j
    rw [hju,h] at hs;have : j < m := by simpa using hs
    simp; omega
   ·rw [if_neg hju,hc j]
    exact decide_eq_decide.2 (by omega)
theorem Zkl {f : Tn → Tn} (hf : ∀ u,(f u).nm = u.nm) (r : List (List UInt8)) : ∀ (q : List (List UInt8)) (t u : Tn),goT t q = .ok u → goT (updT (q ++ r) f t) q = .ok (updT r f u)
 | [],t,u,h => by
  injection h with h
  subst h; rfl
 | s :: q,t,u,h => by
  rw [List.cons_append,goT,Zm9 hf];rw [goT] at h;cases hg : Zcc t s with
  | error e => rw [hg] at h; cases h
  | ok k =>
   rw [hg] at h;simp only [if_pos] at h ⊢
   exact Zkl hf r q k u h
theorem Zfx {f : Tn → Tn} (hf : ∀ u,(f u).nm = u.nm ∧ (f u).no = u.no) (s : List UInt8) (r : List (List UInt8)) : ∀ u : Tn,(updT (s :: r) f u).names = u.names ∧ (updT (s :: r) f u).st = u.st
 | .mk nm no st d kids => by
  rw [updT];refine ⟨?_,rfl⟩
  show (kids.map fun k => if k.nm = s then updT r f k else k).map _ = kids.map _
  rw [List.map_map];refine List.map_congr_left fun k _ => ?_
  show ((if k.nm = s then updT r f k else k).nm,(if k.nm = s then updT r f k else k).no) = (k.nm,k.no)
  split
  ·have h1 := Zve (fun u => (hf u).1) r k
   have h2 : ∀ (r : List (List UInt8)) (k : Tn),(updT r f k).no = k.no := fun r k => by
    cases r with
    | nil => exact (hf k).2
    | cons _ _ => cases k; rfl
   rw [h1,h2]
  ·rfl
end Cr
namespace Cr
open Go
set_option maxRecDepth 10000
set_option maxHeartbeats 64000000

def varN : List UInt8 := [118,97,114]
abbrev dirA : Nd := ⟨⟨1,493,0,0⟩,[]⟩
abbrev Zeg (d : List UInt8) : Nd := ⟨⟨0,384,0,0⟩,d⟩
def rN (no : Int) : List UInt8 := 114 :: Lib.itoa no
def pN (i : Nat) : List UInt8 := 112 :: Lib.itoa (i : Nat)
def Zb5 (p : List (List UInt8)) : List (List (List UInt8)) := (List.range p.length).map fun i => p.take (i + 1)
def wayG (n : Nat) : Tn → List (List (List UInt8)) → Int × Tn
 | t,[] => (0,t)
 | t,q :: l => match getR t q with
  | .error e => if e = 7 then (if (Zbf n t dirA q).1 = 0 then wayG n (Zbf n t dirA q).2 l else ((Zbf n t dirA q).1,(Zbf n t dirA q).2)) else (e,t)
  | .ok nd => if nd.st.kind = 1 then wayG n t l else (17,t)
def Zat (b : List UInt8) : List (List UInt8) := (List.range (max ((b.length + 511) / 512) 1)).map fun i => (b.drop (512 * i)).take 512
def Zdx (n : Nat) (p : List (List UInt8)) : Nat → Tn → List (List UInt8) → Int × Tn
 | _,t,[] => (0,t)
 | i,t,c :: l => if (Zbf n t (Zeg c) (p ++ [pN i])).1 = 0 then Zdx n p (i + 1) (Zbf n t (Zeg c) (p ++ [pN i])).2 l else ((Zbf n t (Zeg c) (p ++ [pN i])).1,(Zbf n t (Zeg c) (p ++ [pN i])).2)
theorem kidT_iff {s : List UInt8} {l : List Tn} : kidT s l = none ↔ s ∉ l.map Tn.nm := by
 unfold kidT
 rw [List.find?_eq_none]
 constructor
 ·intro h hm
  obtain ⟨x,hx,he⟩ := List.mem_map.1 hm
  exact h x hx (by simpa using he)
 ·intro h x hx he
  exact h (List.mem_map.2 ⟨x,hx,by simpa using he⟩)
theorem Zem (k : Tn) : ∀ l : List Tn,(insT k l).Perm (k :: l)
 | [] => .refl _
 | x :: l => by
  rw [insT]
  split
  ·exact ((Zem k l).cons x).trans (.swap _ _ _)
  ·exact .refl _
theorem Zeo {t u : Tn} {p : List (List UInt8)} {s : List UInt8} (hr : Za4 (p ++ [s])) (hg : goT t p = .ok u) (hu : u.st.kind = 1) (hno : kidT s u.kids = none) : getR t (p ++ [s]) = .error 7 := by
 unfold getR goR
 rw [if_pos hr,Zf6,hg];simp only
 unfold Zcc
 rw [if_pos hu,hno]
theorem Zo8 : ∀ {l : List Nm},(∀ x ∈ l,x.1.length ≤ 24 ∧ 0 ≤ x.2 ∧ x.2 ≤ 1000000) → (Za3 (l.map Zeh)).length ≤ 50 * l.length
 | [],_ => by simp [Za3]
 | x :: l,h => by
  obtain ⟨h1,h2,h3⟩ := h x (List.mem_cons_self ..)
  have ih := Zo8 (l := l) fun y hy => h y (List.mem_cons_of_mem _ hy)
  have h4 := Zd0 (n := (x.1.length : Nat)) (by omega) (by omega)
  have h5 := Zd0 h2 h3
  have e : (encM (Zeh x)).length ≤ 50 := by
   rw [Zeh,Zbz,Za3,Za3,Za3,Ze4,Zd9];simp only [List.length_cons,List.length_append,List.length_nil]
   omega
  rw [List.map_cons,Za3,List.length_append,List.length_cons]; omega
theorem Z1y {l : List Nm} (h : ∀ x ∈ l,x.1.length ≤ 24 ∧ 0 ≤ x.2 ∧ x.2 ≤ 1000000) (hl : l.length ≤ 10) : (wrD l).length ≤ 512 := by
 have := Zo8 h
 rw [wrD,dirM,Zbz];simp only [List.length_cons,List.length_append,List.length_nil]
 omega
theorem Zwf {n : Nat} {t u : Tn} (ht : TreeOk n t) (hu : u ∈ subT t) : ∀ x ∈ u.names,x.1.length ≤ 24 ∧ 0 ≤ x.2 ∧ x.2 ≤ 1000000 := fun x hx => by
 obtain ⟨k,hk,rfl⟩ := List.mem_map.1 hx
 have h1 := (ht.node u hu).nmk k hk
 have h2 := (ht.node k (Zel hu (Zm1 hk))).low
 have h3 := ht.small
 exact ⟨h1.2.1,h2.1,by dsimp only; omega⟩
theorem Zos {n m : Nat} {t u : Tn} (ht : TreeOk n t) (hc : Cont m t) (hm : m < n) {p : List (List UInt8)} {s : List UInt8} (hr : Za4 (p ++ [s])) (hg : goT t p = .ok u) (hu : u.st.kind = 1) (hno : kidT s u.kids = none) {nd : Nd} (hnd : Zho nd = 0) (hl : u.kids.length < 10) :
  Zbf n t nd (p ++ [s]) = (0,updT p (addF (.mk s m nd.st nd.data [])) t) ∧ Cont (m + 1) (updT p (addF (.mk s m nd.st nd.data [])) t) ∧ TreeOk n (updT p (addF (.mk s m nd.st nd.data [])) t) := by
 have hs : nameOk s := hr.2 s (by simp)
 have hsm := ht.small
 have hp := Zfo (s,(m : Int)) u.names
 obtain ⟨h1,h2⟩ := Z1a ht hc hm hr hg hu hno hnd (Z1y (fun x hx => by
  rcases List.mem_cons.1 (hp.mem_iff.1 hx) with rfl | hx
  ·exact ⟨hs.2.1,by dsimp only; omega,by dsimp only; omega⟩
  ·exact Zwf ht (Zcs hg) x hx) (by rw [hp.length_eq,List.length_cons,Tn.names,List.length_map]; omega))
 have h3 := Zhn ht nd (p ++ [s])
 rw [h1] at h3;exact ⟨h1,h2,h3⟩
theorem Zsz {m : Nat} (h : ¬ m < 10) : Lib.decDigits m = Lib.decDigits (m / 10) ++ [UInt8.ofNat (48 + m % 10)] := by
 rw [Lib.decDigits,dif_neg h]
theorem Zl5 : ∀ {l : List Nm},(∀ x ∈ l,x.1.length ≤ 3 ∧ 0 ≤ x.2 ∧ x.2 ≤ 99) → (Za3 (l.map Zeh)).length ≤ 14 * l.length
 | [],_ => by simp [Za3]
 | x :: l,h => by
  obtain ⟨h1,h2,h3⟩ := h x (List.mem_cons_self ..)
  have ih := Zl5 (l := l) fun y hy => h y (List.mem_cons_of_mem _ hy)
  obtain ⟨k,hk⟩ : ∃ k : Nat,x.2 = (k : Nat) := ⟨x.2.toNat,by omega⟩
  have h4 : (Lib.itoa (x.1.length : Nat)).length ≤ 1 := by rw [Zbt,Lib.decDigits_one (by omega)]; simp
  have h5 : (Lib.itoa x.2).length ≤ 2 := by
   rw [hk,Zbt];by_cases h : k < 10
   ·rw [Lib.decDigits_one h]; simp
   ·rw [Zsz h,List.length_append,Lib.decDigits_one (by omega)]; simp
  have e : (encM (Zeh x)).length ≤ 14 := by
   rw [Zeh,Zbz,Za3,Za3,Za3,Ze4,Zd9];simp only [List.length_cons,List.length_append,List.length_nil]
   omega
  rw [List.map_cons,Za3,List.length_append,List.length_cons]; omega
theorem Zyw {l : List Nm} (h : ∀ x ∈ l,x.1.length ≤ 3 ∧ 0 ≤ x.2 ∧ x.2 ≤ 99) (hl : l.length ≤ 33) : (wrD l).length ≤ 512 := by
 have := Zl5 h
 rw [wrD,dirM,Zbz];simp only [List.length_cons,List.length_append,List.length_nil]
 omega
theorem Z28 {n m : Nat} {t u : Tn} (ht : TreeOk n t) (hc : Cont m t) (hm : m < n) (hn : n ≤ 99) {p : List (List UInt8)} {s : List UInt8} (hr : Za4 (p ++ [s])) (hg : goT t p = .ok u) (hu : u.st.kind = 1) (hno : kidT s u.kids = none) {nd : Nd} (hnd : Zho nd = 0) (hl : u.kids.length < 33) (hs3 : s.length ≤ 3) (h3 : ∀ k ∈ u.kids,k.nm.length ≤ 3) :
  Zbf n t nd (p ++ [s]) = (0,updT p (addF (.mk s m nd.st nd.data [])) t) ∧ Cont (m + 1) (updT p (addF (.mk s m nd.st nd.data [])) t) ∧ TreeOk n (updT p (addF (.mk s m nd.st nd.data [])) t) := by
 have hp := Zfo (s,(m : Int)) u.names
 obtain ⟨h1,h2⟩ := Z1a ht hc hm hr hg hu hno hnd (Zyw (fun x hx => by
  rcases List.mem_cons.1 (hp.mem_iff.1 hx) with rfl | hx
  ·exact ⟨hs3,by dsimp only; omega,by dsimp only; omega⟩
  ·obtain ⟨k,hk,rfl⟩ := List.mem_map.1 hx
   have h2 := (ht.node k (Zel (Zcs hg) (Zm1 hk))).low
   exact ⟨h3 k hk,h2.1,by dsimp only; omega⟩) (by rw [hp.length_eq,List.length_cons,Tn.names,List.length_map]; omega))
 have h3 := Zhn ht nd (p ++ [s])
 rw [h1] at h3;exact ⟨h1,h2,h3⟩
structure RevS (t : Tn) (pack r : List UInt8) (cs : List (List UInt8)) : Prop where
 dir : ∃ u,goT t [varN,pack,r] = .ok u ∧ u.st.kind = 1 ∧ u.kids.length = cs.length ∧ ∀ x ∈ u.kids,∃ i,i < cs.length ∧ x.nm = pN i
 part : ∀ i c,cs[i]? = some c → ∃ num,goT t [varN,pack,r,pN i] = .ok (.mk (pN i) num ⟨0,384,0,0⟩ c [])
structure AppS (t : Tn) (m : Nat) (pack : List UInt8) (rs : List (List UInt8)) : Prop where
 ok : TreeOk 80 t
 ct : Cont m t
 var : ∃ u,goT t [varN] = .ok u ∧ u.st.kind = 1
 pk : ∃ u,goT t [varN,pack] = .ok u ∧ u.st.kind = 1 ∧ u.kids.length = rs.length ∧ ∀ s,s ∈ u.kids.map Tn.nm ↔ s ∈ rs
theorem Zod {f : Tn → Tn} (hf : ∀ u,(f u).nm = u.nm ∧ (f u).no = u.no) (s : List UInt8) (r : List (List UInt8)) (u : Tn) : (updT (s :: r) f u).kids.map Tn.nm = u.kids.map Tn.nm ∧ (updT (s :: r) f u).kids.length = u.kids.length := by
 have h := (Zfx hf s r u).1
 have h2 := congrArg (fun l : List Nm => l.map fun x => x.1) h
 simp only [Tn.names,List.map_map] at h2
 have h3 : (updT (s :: r) f u).kids.map Tn.nm = u.kids.map Tn.nm := h2
 exact ⟨h3,by simpa using congrArg List.length h3⟩
theorem Znq (k : Tn) : ∀ u,(addF k u).nm = u.nm ∧ (addF k u).no = u.no := fun _ => ⟨rfl,rfl⟩
theorem Zr6 {i : Nat} (h : i < 10) : pN i = [112,UInt8.ofNat (48 + i)] := by rw [pN,Zbt,Lib.decDigits_one h]
theorem Zxi {c : UInt8} (h : dig c = true) : okC c := by
 unfold dig at h
 simp only [Bool.and_eq_true,decide_eq_true_eq] at h
 exact .inr (.inl h)
theorem Zv7 {i : Nat} (h : i < 100) : (pN i).length ≤ 3 := by
 rw [pN,Zbt,List.length_cons];by_cases h1 : i < 10
 ·rw [Lib.decDigits_one h1]; simp
 ·rw [Zsz h1,List.length_append,Lib.decDigits_one (by omega)]; simp
theorem Z09 {i k : Nat} (h : pN i = pN k) : i = k := by
 rw [pN,pN,Zbt,Zbt] at h;injection h with _ h
 have h2 := congrArg (fun l => val l 0) h
 simp only [(Zcm i).2.2.2,(Zcm k).2.2.2] at h2
 exact h2
theorem Z58 {i : Nat} (h : i < 100) : nameOk (pN i) := by
 have hl := Zv7 h
 have hf := (Zcm i).1
 have e : pN i = 112 :: Lib.decDigits i := by rw [pN,Zbt]
 rw [e] at hl ⊢;refine ⟨by simp,by omega,fun h => by injection h with h _; exact absurd h (by decide),fun h => by injection h with h _; exact absurd h (by decide),fun c hc => ?_⟩
 rcases List.mem_cons.1 hc with rfl | hc
 ·exact .inl (by decide)
 ·exact Zxi (hf c hc)
theorem Z08 {pack r s : List UInt8} (h1 : nameOk pack) (h2 : nameOk r) (h3 : nameOk s) : Za4 ([varN,pack,r] ++ [s]) := ⟨by simp,fun x hx => by
 simp only [List.mem_append,List.mem_cons,List.not_mem_nil,or_false] at hx
 rcases hx with (rfl | rfl | rfl) | rfl
 ·decide
 ·exact h1
 ·exact h2
 ·exact h3⟩
theorem Zqp {c : List UInt8} (h : c.length ≤ 512) : Zho (Zeg c) = 0 := by
 unfold Zho
 rw [if_neg (by rintro (h | h); exact h.1 rfl; cases h.1),if_neg (show ¬ (⟨0,384,0,0⟩ : StatM).check ≠ 0 by decide),if_neg (by show ¬ 512 < c.length; omega)]
theorem Zzo {t : Tn} {m : Nat} {pack r : List UInt8} {rs cs : List (List UInt8)} (hp : nameOk pack) (hr : nameOk r) (h : AppS t m pack rs) (hv : RevS t pack r cs) (hm : m < 80) (hc : cs.length < 33) {c : List UInt8} (hcl : c.length ≤ 512) :
  (Zbf 80 t (Zeg c) ([varN,pack,r] ++ [pN cs.length])).1 = 0 ∧ AppS (Zbf 80 t (Zeg c) ([varN,pack,r] ++ [pN cs.length])).2 (m + 1) pack rs ∧ RevS (Zbf 80 t (Zeg c) ([varN,pack,r] ++ [pN cs.length])).2 pack r (cs ++ [c]) ∧
   ∀ r' cs',r' ≠ r → RevS t pack r' cs' → RevS (Zbf 80 t (Zeg c) ([varN,pack,r] ++ [pN cs.length])).2 pack r' cs' := by
 obtain ⟨u,hg,hu,hul,hun⟩ := hv.dir
 have hpn := Z58 (i := cs.length) (by omega)
 have hno : kidT (pN cs.length) u.kids = none := kidT_iff.2 fun hx => by
  obtain ⟨x,hx,he⟩ := List.mem_map.1 hx
  obtain ⟨i,hi,hxi⟩ := hun x hx
  rw [hxi] at he;have := Z09 he
  omega
 obtain ⟨h1,h2,h3⟩ := Z28 h.ok h.ct hm (by omega) (Z08 hp hr hpn) hg hu hno (Zqp hcl) (by omega) (Zv7 (by omega)) fun k hk => by
  obtain ⟨i,hi,hki⟩ := hun k hk
  rw [hki];exact Zv7 (by omega)
 rw [h1];simp only
 have hf := Znq (Tn.mk (pN cs.length) (m : Int) (Zeg c).st (Zeg c).data [])
 have hf1 := fun u => (hf u).1
 refine ⟨trivial,⟨h3,h2,?_,?_⟩,⟨?_,?_⟩,?_⟩
 ·obtain ⟨uv,hgv,huv⟩ := h.var
  exact ⟨_,Zkl hf1 [pack,r] [varN] t uv hgv,by rw [(Zfx hf pack [r] uv).2]; exact huv⟩
 ·obtain ⟨up,hgp,hup,hpl,hps⟩ := h.pk
  obtain ⟨k1,k2⟩ := Zod hf r [] up
  exact ⟨_,Zkl hf1 [r] [varN,pack] t up hgp,by rw [(Zfx hf r [] up).2]; exact hup,by rw [k2]; exact hpl,fun s => by rw [k1]; exact hps s⟩
 ·refine ⟨_,Zkl hf1 [] [varN,pack,r] t u hg,hu,?_,fun x hx => ?_⟩
  ·show (insT _ u.kids).length = _
   rw [(Zem _ u.kids).length_eq,List.length_cons,hul,List.length_append]; rfl
  ·have hx : x ∈ insT (Tn.mk (pN cs.length) (m : Int) (Zeg c).st (Zeg c).data []) u.kids := hx
   rcases List.mem_cons.1 ((Zem _ u.kids).mem_iff.1 hx) with rfl | hx
   ·exact ⟨cs.length,by simp,rfl⟩
   ·obtain ⟨i,hi,hxi⟩ := hun x hx
    exact ⟨i,by rw [List.length_append]; omega,hxi⟩
 ·intro i d hd
  have hmk := Zwj (n := 80) (t := t) (nd := Zeg c) (p := [varN,pack,r]) (s := pN cs.length) (by rw [h1])
  obtain ⟨u',i',_,_,_,_,hnew,hold⟩ := hmk
  rw [h1] at hnew hold;simp only at hnew hold
  by_cases hi : i < cs.length
  ·rw [List.getElem?_append_left hi] at hd
   obtain ⟨num,hnum⟩ := hv.part i d hd
   refine ⟨num,?_⟩
   have := hold (pN i) [] fun e => by have := Z09 e; omega
   exact this.trans hnum
  ·have hie : i = cs.length := by
    have := (List.getElem?_eq_some_iff.1 hd).1
    rw [List.length_append,List.length_singleton] at this;omega
   subst hie
   have hdc : c = d := by simpa using hd
   subst hdc
   exact ⟨i',(hnew []).trans rfl⟩
 ·intro r' cs' hne hv'
  have off : ∀ q,goT (updT [varN,pack,r] (addF (Tn.mk (pN cs.length) (m : Int) (Zeg c).st (Zeg c).data [])) t) ([varN,pack,r'] ++ q) = goT t ([varN,pack,r'] ++ q) := fun q => Z1g hf1 _ _ t (fun hx => by
   have h1 := List.cons_prefix_cons.1 hx
   have h2 := List.cons_prefix_cons.1 h1.2
   have h3 := List.cons_prefix_cons.1 h2.2
   exact hne h3.1.symm) (fun hx => by
   have h1 := List.cons_prefix_cons.1 hx
   have h2 := List.cons_prefix_cons.1 h1.2
   have h3 := List.cons_prefix_cons.1 h2.2
   exact hne h3.1)
  refine ⟨?_,fun i d hd => ?_⟩
  ·obtain ⟨w,hw,hr⟩ := hv'.dir
   exact ⟨w,(off []).trans hw,hr⟩
  ·obtain ⟨num,hnum⟩ := hv'.part i d hd
   exact ⟨num,(off [pN i]).trans hnum⟩
theorem Zka {pack r : List UInt8} {rs : List (List UInt8)} (hp : nameOk pack) (hr : nameOk r) : ∀ (l cs : List (List UInt8)) (t : Tn) (m : Nat),AppS t m pack rs → RevS t pack r cs → m + l.length ≤ 80 → cs.length + l.length ≤ 33 → (∀ c ∈ l,c.length ≤ 512) →
  (Zdx 80 [varN,pack,r] cs.length t l).1 = 0 ∧ AppS (Zdx 80 [varN,pack,r] cs.length t l).2 (m + l.length) pack rs ∧ RevS (Zdx 80 [varN,pack,r] cs.length t l).2 pack r (cs ++ l) ∧ ∀ r' cs',r' ≠ r → RevS t pack r' cs' → RevS (Zdx 80 [varN,pack,r] cs.length t l).2 pack r' cs'
 | [],cs,t,m,h,hv,_,_,_ => by
  rw [Zdx,List.append_nil];exact ⟨rfl,h,hv,fun _ _ _ h => h⟩
 | c :: l,cs,t,m,h,hv,hm,hc,hl => by
  rw [List.length_cons] at hm hc;obtain ⟨h1,h2,h3,h4⟩ := Zzo hp hr h hv (by omega) (by omega) (hl c (List.mem_cons_self ..))
  have ih := Zka hp hr l (cs ++ [c]) _ _ h2 h3 (by omega) (by rw [List.length_append,List.length_singleton]; omega) fun x hx => hl x (List.mem_cons_of_mem _ hx)
  rw [List.length_append,List.length_singleton,List.append_assoc] at ih;rw [Zdx,if_pos h1,List.length_cons,show m + (l.length + 1) = m + 1 + l.length by omega]
  exact ⟨ih.1,ih.2.1,ih.2.2.1,fun r' cs' hne h' => ih.2.2.2 r' cs' hne (h4 r' cs' hne h')⟩
end Cr
namespace Cr
open Go Go.Proofs
set_option maxRecDepth 100000
set_option maxHeartbeats 64000000
attribute [local irreducible] Calls

theorem Zw0 (k k' : Int) (v : Value) (L : List (Int × Value)) : getM k (setM k' v L) = if k = k' then some v else getM k L := Zkm k k' v L
def Seen (L : List (Int × Value)) (D : List Int) : Prop := ∀ k,(getM k L).getD (.bool false) = .bool (decide (k ∈ D))
theorem Seen.nil : Seen [] [] := fun k => by simp [getM]
theorem Seen.add {L : List (Int × Value)} {D : List Int} (h : Seen L D) (b : Int) : Seen (setM b (.bool true) L) (D ++ [b]) := fun k => by
 rw [Zw0];by_cases e : k = b
 ·rw [if_pos e]; simp [e]
 ·rw [if_neg e,h k]; simp [e]
structure Gone (A : AV) (left : List MapEntry) (D : List Int) : Prop where
 sub : ∀ k ∈ D,∃ x ∈ A,k ∈ x.2.s.blocks ∧ ¬ ∃ e ∈ left,(e.key,e.val) = (Value.int .i64 x.1,x.2.val)
 all : ∀ x ∈ A,(∀ b ∈ x.2.s.blocks,b ∈ D) ∨ ∃ e ∈ left,(e.key,e.val) = (Value.int .i64 x.1,x.2.val)
theorem Gone.start {A : AV} {es : Array MapEntry} (h : kvs es = A.vals.map (fun x => (Value.int .i64 x.1,x.2))) : Gone A es.toList [] :=
 ⟨fun _ h => by simp at h,fun x hx => .inr (by
  have hm : (Value.int .i64 x.1,x.2.val) ∈ kvs es := by
   rw [h];exact List.mem_map.2 ⟨(x.1,x.2.val),List.mem_map.2 ⟨x,hx,rfl⟩,rfl⟩
  obtain ⟨e,he,hk⟩ := List.mem_map.1 hm
  exact ⟨e,he,hk⟩)⟩
theorem Zsw {A : AV} {es : Array MapEntry} (h : kvs es = A.vals.map (fun x => (Value.int .i64 x.1,x.2))) {e : MapEntry} (he : e ∈ es.toList) : ∃ x ∈ A,e.key = Value.int .i64 x.1 ∧ e.val = x.2.val := by
 have hm : (e.key,e.val) ∈ kvs es := List.mem_map.2 ⟨e,he,rfl⟩
 rw [h] at hm;obtain ⟨y,hy,hk⟩ := List.mem_map.1 hm
 obtain ⟨x,hx,rfl⟩ := List.mem_map.1 hy
 exact ⟨x,hx,(Prod.mk.inj hk).1.symm,(Prod.mk.inj hk).2.symm⟩
theorem Z3d {A : AV} (hn : (Zav A).Nodup) {x y : Int × SV} (hx : x ∈ A) (hy : y ∈ A) (h : x.1 = y.1) : x = y := by
 have h1 := Zd1 hn (show (x.1,x.2) ∈ A from hx)
 have h2 := Zd1 hn (show (y.1,y.2) ∈ A from hy)
 rw [h,h2] at h1;exact Prod.ext h (Option.some.inj h1).symm
theorem Zow (A : AV) : Zav A.ents = Zav A := by simp [Zav,AV.ents]
theorem Gone.step {A : AV} {left left' : List MapEntry} {D : List Int} (h : Gone A left D) (hn : (Zav A).Nodup) {e : MapEntry} (hp : left.Perm (e :: left')) {x : Int × SV} (hx : x ∈ A) (h1 : e.key = Value.int .i64 x.1) (h2 : e.val = x.2.val)
  (hborn : ∀ e' ∈ left',¬ (e'.key = e.key)) : Gone A left' (D ++ x.2.s.blocks) := by
 refine ⟨fun k hk => ?_,fun y hy => ?_⟩
 ·rcases List.mem_append.1 hk with hk | hk
  ·obtain ⟨y,hy,hky,hne⟩ := h.sub k hk
   exact ⟨y,hy,hky,fun ⟨e',he',q⟩ => hne ⟨e',hp.symm.subset (List.mem_cons_of_mem _ he'),q⟩⟩
  ·exact ⟨x,hx,hk,fun ⟨e',he',q⟩ => hborn e' he' (by rw [h1]; exact (Prod.mk.inj q).1)⟩
 ·rcases h.all y hy with ha | ⟨e',he',q⟩
  ·exact .inl fun b hb => List.mem_append_left _ (ha b hb)
  ·rcases List.mem_cons.1 (hp.subset he') with rfl | he'
   ·left
    have : y.1 = x.1 := by
     have := (Prod.mk.inj q).1
     rw [h1] at this;exact (Value.int.inj this).2.symm
    rw [Z3d hn hy hx this];exact fun b hb => List.mem_append_right _ hb
   ·exact .inr ⟨e',he',q⟩
theorem Gone.done {A : AV} {D : List Int} (h : Gone A [] D) (k : Int) : k ∈ D ↔ k ∈ Zay A.ents := by
 constructor
 ·intro hk
  obtain ⟨x,hx,hb,_⟩ := h.sub k hk
  exact List.mem_flatMap.2 ⟨_,AV.mem_ents hx,hb⟩
 ·intro hk
  obtain ⟨y,hy,hb⟩ := List.mem_flatMap.1 hk
  obtain ⟨x,hx,rfl⟩ := List.mem_map.1 hy
  rcases h.all x hx with ha | ⟨e,he,_⟩
  ·exact ha k hb
  ·cases he
theorem Zwm {A : AV} {es : Array MapEntry} (h : kvs es = A.vals.map (fun x => (Value.int .i64 x.1,x.2))) (hn : (Zav A).Nodup) {seen : Array Nat} {e : MapEntry} {left' : List MapEntry} (hp : (Zc7 es seen).Perm (e :: left')) : ∀ e' ∈ left',¬ (e'.key = e.key) := by
 have hk : (es.toList.map (·.key)).Nodup := by
  have e1 : es.toList.map (·.key) = (kvs es).map (·.1) := by simp [kvs,Function.comp_def]
  rw [e1,h];have e2 : ((AV.vals A).map (fun x => (Value.int .i64 x.1,x.2))).map (·.1) = (Zav A).map (Value.int .i64) := by simp [AV.vals,Zav,Function.comp_def]
  rw [e2,List.Nodup,List.pairwise_map];exact hn.imp fun h e => h (Value.int.inj e).2
 have h2 : ((Zc7 es seen).map (·.key)).Nodup := hk.sublist (List.filter_sublist.map _)
 have h3 := (hp.map (·.key)).nodup_iff.1 h2
 rw [List.map_cons,List.nodup_cons] at h3;exact fun e' he' q => h3.1 (by rw [← q]; exact List.mem_map.2 ⟨e',he',rfl⟩)
def Zgf (D : List Int) (i : Nat) : List Int := ((List.range i).map fun k => ((k : Nat) : Int)).filter fun b => decide (b ∉ D)
theorem Zqx (D : List Int) (i : Nat) : Zgf D (i + 1) = Zgf D i ++ if ((i : Nat) : Int) ∈ D then [] else [((i : Nat) : Int)] := by
 unfold Zgf
 rw [List.range_succ,List.map_append,List.filter_append]
 congr 1
 by_cases h : ((i : Nat) : Int) ∈ D <;> simp [h]
theorem Zw5 (D : List Int) (i : Nat) : (Zgf D i).length ≤ i := by
 unfold Zgf
 exact Nat.le_trans (List.length_filter_le ..) (by simp)
theorem Zub {A : AV} {D : List Int} (h : Gone A [] D) (nb : Nat) : Zgf D nb = Zgt A.ents nb := by
 unfold Zgf Zgt
 refine List.filter_congr fun x _ => ?_
 have := h.done x
 by_cases hx : x ∈ D
 ·simp [hx,this.1 hx]
 ·have h2 : x ∉ Zay A.ents := fun h => hx (this.2 h)
  simp [hx,h2]
theorem Zki (k : IntKind) (L M : List Int) : ints k (L ++ M) = ints k L ++ ints k M := by simp [ints]
theorem Z86 (tp lp n r r2 p j m nb : Nat) (A : AV) (dat : List (List UInt8)) (W : World) (hT : Rd W (Zid tp lp n r)) (hq : Rd W (qlog lp p j m dat)) (hd : dat.length = 1 + n + nb) (hm : Rd W (mapq (Value.int .i64) r2 A.vals)) (hb : ∀ x ∈ A,Rd W (row x.2.ba (ints .i64 x.2.s.blocks))) (hbl : ∀ x ∈ A,x.2.s.blocks.length ≤ 1048576) (hn : (Zav A).Nodup) :
  Calls Tryz.prog 127 #[.pointer (some ⟨tp,0,none⟩),.map (some r2)] W (Ret fun v w => ∃ a c,v = .slice a (Zgt A.ents nb).length c ∧ (Zgt A.ents nb).length ≤ c ∧ St W noF [own 3 1 a c (ints .i64 (Zgt A.ents nb))] w) := by
 have hTo := hT.ro
 have hqo := hq.ro
 have hql := (qlen hq).1
 obtain ⟨es,clock,hes,hst,hmp⟩ := hm.openMap
 have hmpo := hmp.ro
 have hbo : ∀ x ∈ A,Ro W noF (row x.2.ba (ints .i64 x.2.s.blocks)) := fun x hx => (hb x hx).ro
 have hS := St.start W
 refine Zab Tryz.func127 rfl Tryz.ntmps127 rfl ?_
 repeat (first|refine Yeb ?_|refine Yag ?_|refine Yec ?_|refine Yab ?_)
 refine Zew (Value.int .i64) rfl rfl rfl hS (fun r3 w hS => ?_)
 repeat (first|refine Yeb ?_|refine Yeq ?_|refine Yec ?_|refine Yab ?_)
 refine Zmf rfl rfl (hmpo.rd hS) rfl rfl hS (fun it w hS _ => ?_)
 repeat (first|refine Yac ?_|refine Yak ?_|refine Yab ?_)
 refine Zbq (α := Nat × List (Int × Value) × List Int) (fun z => [(0,.pointer (some ⟨tp,0,none⟩)),(5,.map (some z.1))]) (fun z w => Seen z.2.1 z.2.2 ∧ Gone A [] z.2.2 ∧ St W noF [mapq (Value.int .i64) z.1 z.2.1] w) ?_ ?_
 ·refine Zaj (α := Array Nat × List (Int × Value) × List Int) (fun _ => [(0,.pointer (some ⟨tp,0,none⟩)),(5,.map (some r3)),(14,.pointer (some ⟨it,0,none⟩))])
   (fun z w => Seen z.2.1 z.2.2 ∧ Gone A (Zc7 es z.1) z.2.2 ∧ St W noF [pts it (.mapIter (some r2) clock z.1 clock),mapq (Value.int .i64) r3 z.2.1] w) (fun z => (Zc7 es z.1).length) (#[],[],[]) ⟨rfl,rfl,rfl,trivial⟩ ⟨Seen.nil,by rw [Zkg]; exact Gone.start hes,hS⟩ ?_
  clear hS;rintro ⟨seen,L,D⟩ w ⟨hse,hgo,hS⟩
  simp only at hse hgo hS ⊢
  repeat (first|refine Yaa ?_|refine Yec ?_)
  refine Zpy rfl rfl hst (hmpo.rd hS) rfl rfl hS (fun h0 => ?_) (fun e he w hS => ?_)
  ·repeat (first|refine Yeb ?_|refine Ya0 ?_|refine Yae ?_|refine Ya3 ?_|refine Yai ?_|refine Yeh ?_)
   refine Zbw (r3,L,D) ⟨rfl,rfl,trivial⟩ ⟨hse,by rw [h0] at hgo; exact hgo,hS.pick [1]⟩
  ·have hel : e ∈ es.toList := (List.mem_filter.1 he).1
   have hstep := Zlx hst he
   obtain ⟨x,hxA,hk,hv⟩ := Zsw hes hel
   have hgo2 := hgo.step hn hstep hxA hk hv (Zwm hes hn hstep)
   have hlt : (Zc7 es (seen.push e.born)).length < (Zc7 es seen).length := by rw [hstep.length_eq]; simp
   have hxl := hbl x hxA
   have hr := hbo x hxA
   repeat (first|refine Yeb ?_|refine Ya0 ?_|refine Yef ?_|refine Yab ?_)
   refine X_yl (Ztd rfl rfl hst hel hS.has (hmpo.rd hS).pts) rfl rfl ?_
   rw [hv];repeat (first|refine Yeb ?_|(refine X_id ?_;first|refine Yaf ?_|refine Yan ?_|refine Ya0 ?_|refine Yat ?_|refine Yaq ?_|refine Yao (fun _ hS _ => ?_)|refine Yar (fun _ _ hS _ => ?_))|refine Yee ?_|refine Yab ?_)
   refine Zaj (α := Nat × List (Int × Value)) (fun z => [(0,.pointer (some ⟨tp,0,none⟩)),(5,.map (some r3)),(14,.pointer (some ⟨it,0,none⟩)),(20,.slice x.2.ba x.2.s.blocks.length x.2.bc),(21,.int .i64 (x.2.s.blocks.length : Nat)),(22,.int .i64 (z.1 : Nat))])
    (fun z w => z.1 ≤ x.2.s.blocks.length ∧ Seen z.2 (D ++ x.2.s.blocks.take z.1) ∧ St W noF [mapq (Value.int .i64) r3 z.2,pts it (.mapIter (some r2) clock (seen.push e.born) clock)] w) (fun z => x.2.s.blocks.length - z.1) (0,L) ⟨rfl,rfl,rfl,rfl,rfl,rfl,trivial⟩ ⟨Nat.zero_le _,by simpa using hse,hS.pick [2,1]⟩ ?_
   clear hS hse;rintro ⟨i,L2⟩ w ⟨hi,hse,hS⟩
   simp only at hi hse hS ⊢
   by_cases hlt2 : i < x.2.s.blocks.length
   ·have hx0 : x.2.s.blocks[i]? = some x.2.s.blocks[i] := List.getElem?_eq_getElem hlt2
    generalize x.2.s.blocks[i] = b at hx0;have hx : (ints .i64 x.2.s.blocks)[i]? = some (.int .i64 b) := by simp [ints,hx0]
    have hbase := (hr.rd hS).base (by intro e; rw [e] at hx; simp at hx)
    obtain ⟨xb,xo,hxa⟩ := hbase
    rw [hxa] at hr ⊢;repeat (first|refine Yeb ?_|(refine X_id ?_;first|refine Yaf ?_|refine Yag ?_|refine Ya1 ?_|refine Ybd ?_|refine Yb7 ?_)|refine Yef ?_|refine Yab ?_)
    refine Zfw rfl rfl rfl rfl rfl hS (fun w hS => ?_)
    repeat (first|refine Yeb ?_|refine Yeg ?_|refine Yad ?_|refine Yej ?_)
    refine Zae (z := (i,L2)) (i + 1,setM b (.bool true) L2) ⟨rfl,rfl,rfl,rfl,rfl,rfl,trivial⟩ ⟨by simp only; omega,?_,hS⟩ (by simp only; omega)
    simp only
    rw [List.take_add_one,hx0];have := hse.add b
    rwa [List.append_assoc] at this
   ·obtain rfl : i = x.2.s.blocks.length := by omega
    rw [List.take_length] at hse;repeat (first|refine Yeb ?_|refine Yaz ?_|refine Yeo ?_|refine Yfk ?_)
    exact Zae (z := (seen,L,D)) (seen.push e.born,L2,D ++ x.2.s.blocks) ⟨rfl,rfl,rfl,trivial⟩ ⟨hse,hgo2,hS.pick [1,0]⟩ hlt
 ·clear hS
  rintro ⟨r3,L,D⟩ w ⟨hse,hgo,hS⟩
  simp only at hse hgo hS ⊢
  rw [← Zub hgo nb];repeat (first|refine Yeb ?_|refine Yeq ?_|refine Yec ?_|refine Yab ?_)
  refine Zac _ rfl rfl rfl rfl rfl hS (Zy4 tp lp n r p j m nb dat _ (hTo.rd hS) (hqo.rd hS) hd) ?_
  rintro _ w rfl hS
  repeat (first|refine Yeb ?_|refine Yaf ?_|refine Yak ?_|refine Yab ?_)
  refine Zaj (α := Nat × Option Addr × Nat) (fun z => [(5,.map (some r3)),(10,.slice z.2.1 (Zgf D z.1).length z.2.2),(30,.int .i64 (nb : Nat)),(31,.int .i64 (z.1 : Nat))])
   (fun z w => z.1 ≤ nb ∧ (Zgf D z.1).length ≤ z.2.2 ∧ St W noF [own 3 1 z.2.1 z.2.2 (ints .i64 (Zgf D z.1)),mapq (Value.int .i64) r3 L] w) (fun z => nb - z.1) (0,none,0) ⟨rfl,rfl,rfl,rfl,trivial⟩ ⟨Nat.zero_le _,Nat.le_refl _,hS.own_none _ _ _⟩ ?_
  clear hS;rintro ⟨i,a,c⟩ w ⟨hi,hc,hS⟩
  simp only at hi hc hS ⊢
  have hfl := Zw5 D i
  by_cases hlt : i < nb
  ·have hg := hse (i : Nat)
   have hsu := Zqx D i
   by_cases hin : ((i : Nat) : Int) ∈ D
   ·rw [decide_eq_true hin] at hg
    rw [if_pos hin,List.append_nil] at hsu;repeat (first|refine Yeb ?_|refine Yaf ?_|refine Yag ?_|refine Ya1 ?_|refine Yef ?_|refine Yab ?_)
    refine X_yl (Zh3 (mk := Value.int .i64) (L := L) (k := ((i : Nat) : Int)) rfl rfl rfl ((hS.rd (by simp)).mapq_r)) rfl rfl ?_
    rw [hg];repeat (first|refine Yeb ?_|refine Yaf ?_|refine Ybb ?_|refine Yaw ?_|refine Ye3 ?_|refine Yej ?_)
    refine Zae (z := (i,a,c)) (i + 1,a,c) ⟨rfl,?_,rfl,rfl,trivial⟩ ⟨by simp only; omega,by simp only; rw [hsu]; exact hc,?_⟩ (by simp only; omega)
    ·simp only; rw [hsu]; rfl
    ·simp only; rw [hsu]; exact hS
   ·rw [decide_eq_false hin] at hg
    rw [if_neg hin] at hsu;repeat (first|refine Yeb ?_|refine Yaf ?_|refine Yag ?_|refine Ya1 ?_|refine Yef ?_|refine Yab ?_)
    refine X_yl (Zh3 (mk := Value.int .i64) (L := L) (k := ((i : Nat) : Int)) rfl rfl rfl ((hS.rd (by simp)).mapq_r)) rfl rfl ?_
    rw [hg];repeat (first|refine Yeb ?_|refine Yaf ?_|refine Ybo ?_|refine Ybe (fun _ _ hS _ => ?_)|refine Yad ?_|refine Yaj ?_|refine Yab ?_)
    refine Zas (m := 1) rfl rfl rfl rfl rfl hS (by simp [ints_length]) hc ((hS.rd (List.mem_cons_self ..)).own_row) (by simp) (by simp [Value.oneCell']) (by omega) (by simp only [maxLen]; omega) (fun a' c' w hS hc' _ => ?_)
    repeat (first|refine Yeb ?_|refine Yer ?_|refine Yad ?_|refine Yej ?_)
    refine Zae (z := (i,a,c)) (i + 1,a',c') ⟨rfl,?_,rfl,rfl,trivial⟩ ⟨by simp only; omega,by simp only; rw [hsu]; simpa using hc',?_⟩ (by simp only; omega)
    ·simp only; rw [hsu,List.length_append]; rfl
    ·simp only; rw [hsu,Zki]; have h := hS.pick [0,1]; exact h
  ·obtain rfl : i = nb := by omega
   repeat (first|refine Yeb ?_|refine Yfj ?_|refine Yek ?_|refine Yfd ?_)
   exact ⟨a,c,rfl,hc,hS.pick [0]⟩
section
variable {rd fs : List Int} {tp lp p j m n nb : Nat} {T : Tb}
end
structure ChgA where
 c : Chg
 a : Option Addr
 k : Nat
abbrev ChgA.cells (x : ChgA) : List Value := [.int .i64 x.c.no,.int .i64 x.c.nd.st.kind,.int .i64 x.c.nd.st.mode,.int .i64 x.c.nd.st.owner,.int .i64 x.c.nd.st.group,.slice x.a x.c.nd.data.length x.k,.bool x.c.drop]
structure Chgs (W : World) (F : Nat → Prop) (a : Option Addr) (l : List ChgA) : Prop where
 row : Ro W F (row a (l.flatMap ChgA.cells))
 all : ∀ x ∈ l,Ro W F (bytes x.a x.c.nd.data)
theorem Chgs.mono {W w : World} {F F' : Nat → Prop} {a : Option Addr} {l : List ChgA} (h : Chgs W F a l) (hw : ∀ r,Ro W F r → Ro w F' r) : Chgs w F' a l := ⟨hw _ h.row,fun x hx => hw _ (h.all x hx)⟩
theorem Zip {l : List ChgA} {i : Nat} {x : ChgA} (h : l[i]? = some x) : ((l.flatMap ChgA.cells).drop (i * 7)).take 7 = x.cells := Zd3 (f := ChgA.cells) (fun _ _ => rfl) h
theorem Zxo (x : ChgA) (b : Nat) (cs : List Value) (no : Int) (T : TypeId) (hno : cs[0]? = some (.int .i64 no)) (W : World) (hb : Rd W (pts b (.cells cs.toArray T))) :
  Calls Tryz.prog 171 #[.agg (ChgA.cells x).toArray,.pointer (some ⟨b,0,none⟩)] W (Ret fun v w => v = .bool (decide (x.c.no = no)) ∧ St W noF [] w) := by
 have hbo := hb.ro
 have hS := St.start W
 refine Zab Tryz.func171 rfl Tryz.ntmps171 rfl ?_
 repeat (first|refine Yeb ?_|refine Yag ?_|refine Yan ?_|refine Yaq ?_|refine Yba (fun _ _ hS _ => ?_)|refine Yec ?_|refine Yab ?_)
 refine X_yl (Zau rfl rfl ((cell_of_row _ b 0 cs.toArray T (0,0) (hbo.rd hS).pts).trans (by simpa using hno))) rfl rfl ?_
 repeat (first|refine Yeb ?_|refine Yag ?_|refine Ycx ?_|refine Yah ?_|refine Yed ?_)
 exact ⟨rfl,hS.drops⟩
theorem Zt9 (a : Option Addr) (i c b : Nat) (l : List ChgA) (cs : List Value) (no : Int) (T : TypeId) (hno : cs[0]? = some (.int .i64 no)) (W : World) (hr0 : Rd W (row a (l.flatMap ChgA.cells))) (hb : Rd W (pts b (.cells cs.toArray T))) (hi : i ≤ l.length) (hl : l.length ≤ 1048576) :
  Calls Tryz.prog 204 #[.slice a i c,.func (.func 171) #[] #[.pointer (some ⟨b,0,none⟩)]] W (Ret fun v w => (∃ z : Int,v = .int .i64 z ∧ (0 ≤ z ↔ no ∈ (l.take i).map (·.c.no)) ∧ -1 ≤ z) ∧ St W noF [] w) := by
 have hbo := hb.ro
 have hr1 := hr0.ro
 have hS := St.start W
 refine Zab Tryz.func204 rfl Tryz.ntmps204 rfl ?_
 repeat (first|refine Yeb ?_|refine Ye4 ?_|refine Yee ?_|refine Yab ?_)
 refine Zaj (α := Nat) (fun k => [(0,.slice a i c),(1,.func (.func 171) #[] #[.pointer (some ⟨b,0,none⟩)]),(7,.int .i64 (i : Nat)),(8,.int .i64 (k : Nat))])
  (fun k w => k ≤ i ∧ (no ∉ (l.take k).map (·.c.no)) ∧ St W noF [] w) (fun k => i - k) 0 ⟨rfl,rfl,rfl,rfl,trivial⟩ ⟨Nat.zero_le _,by simp,hS⟩ ?_
 clear hS;rintro k w ⟨hk,hne,hS⟩
 by_cases hlt : k < i
 ·have hx0 : l[k]? = some l[k] := List.getElem?_eq_getElem (by omega)
  generalize l[k] = x at hx0;have hr := hr1
  have hxs : ((l.flatMap ChgA.cells).drop (k * 7)).take 7 = [.int .i64 x.c.no,.int .i64 x.c.nd.st.kind,.int .i64 x.c.nd.st.mode,.int .i64 x.c.nd.st.owner,.int .i64 x.c.nd.st.group,.slice x.a x.c.nd.data.length x.k,.bool x.c.drop] := Zip hx0
  obtain ⟨xb,xo,rfl⟩ := (hr.rd hS).base (by intro e; rw [e] at hxs; simp at hxs)
  have htk : (l.take (k + 1)).map (·.c.no) = (l.take k).map (·.c.no) ++ [x.c.no] := by rw [List.take_add_one,hx0]; simp
  by_cases hq : x.c.no = no
  ·have hc1 := fun w h => Zxo x b cs no T hno w h
   rw [decide_eq_true hq] at hc1;repeat (first|refine Yeb ?_|(refine X_id ?_;first|refine Yaf ?_|refine Yag ?_|refine Ya1 ?_|refine Ybd ?_|refine Ybq ?_)|refine Yef ?_|refine Yab ?_)
   refine Zdk (first := []) (captured := [.pointer (some ⟨b,0,none⟩)]) rfl rfl rfl rfl rfl (hc1 _ (hbo.rd hS)) ?_
   rintro _ w' ⟨rfl,hS'⟩
   replace hS := hS.plus hS';clear hS';repeat (first|refine Yeb ?_|refine Yeq ?_|refine Yet ?_|refine Yex ?_)
   refine ⟨⟨(k : Nat),rfl,⟨fun _ => ?_,fun _ => by omega⟩,by omega⟩,hS⟩
   have : no ∈ (l.take (k + 1)).map (·.c.no) := by rw [htk,hq]; simp
   exact (List.Sublist.map _ (List.take_sublist_take_left (by omega))).subset this
  ·have hc1 := fun w h => Zxo x b cs no T hno w h
   rw [decide_eq_false hq] at hc1;repeat (first|refine Yeb ?_|(refine X_id ?_;first|refine Yaf ?_|refine Yag ?_|refine Ya1 ?_|refine Ybd ?_|refine Ybq ?_)|refine Yef ?_|refine Yab ?_)
   refine Zdk (first := []) (captured := [.pointer (some ⟨b,0,none⟩)]) rfl rfl rfl rfl rfl (hc1 _ (hbo.rd hS)) ?_
   rintro _ w' ⟨rfl,hS'⟩
   replace hS := hS.plus hS';clear hS';repeat (first|refine Yeb ?_|refine Yeg ?_|refine Ye3 ?_|refine Yej ?_)
   refine Zae (k + 1) ⟨rfl,rfl,rfl,rfl,trivial⟩ ⟨by omega,?_,hS⟩ (by omega)
   rw [htk];simp only [List.mem_append,List.mem_singleton,not_or]
   exact ⟨hne,fun e => hq e.symm⟩
 ·obtain rfl : k = i := by omega
  repeat (first|refine Yeb ?_|refine Yag ?_|refine Yaz ?_|refine Yek ?_|refine Yfd ?_)
  exact ⟨⟨-1,rfl,⟨fun h => by omega,fun h => absurd h hne⟩,by omega⟩,hS⟩
theorem Zhz (a : Option Addr) (i c b : Nat) (l : List ChgA) (cs : List Value) (no : Int) (T : TypeId) (hno : cs[0]? = some (.int .i64 no)) (W : World) (hr0 : Rd W (row a (l.flatMap ChgA.cells))) (hb : Rd W (pts b (.cells cs.toArray T))) (hi : i ≤ l.length) (hl : l.length ≤ 1048576) :
  Calls Tryz.prog 170 #[.slice a i c,.func (.func 171) #[] #[.pointer (some ⟨b,0,none⟩)]] W (Ret fun v w => v = .bool (decide (no ∈ (l.take i).map (·.c.no))) ∧ St W noF [] w) := by
 have hS := St.start W
 refine Zab Tryz.func170 rfl Tryz.ntmps170 rfl ?_
 repeat (first|refine Yeb ?_|refine Yeq ?_|refine Yec ?_|refine Yab ?_)
 refine Zaa _ rfl rfl rfl rfl rfl (Zt9 a i c b l cs no T hno _ hr0 hb hi hl) ?_
 rintro _ w ⟨⟨z,rfl,hz,hz1⟩,hS'⟩
 replace hS := hS.plus hS';clear hS';repeat (first|refine Yeb ?_|(refine X_id ?_;first|refine Yag ?_|refine X_yl (Ztb rfl rfl rfl) rfl rfl ?_)|refine Yah ?_|refine Yed ?_)
 refine ⟨?_,hS⟩
 simp [hz]
theorem Z3q (tp lp n r : Nat) (a : Option Addr) (c : Nat) (l : List ChgA) (W : World) (hT : Rd W (Zid tp lp n r)) (hC : Chgs W noF a l) (hl : l.length ≤ 1048576) (hc : l.length ≤ c) (_ : n ≤ 1048576) :
  Calls Tryz.prog 125 #[.pointer (some ⟨tp,0,none⟩),.slice a l.length c] W (Ret fun v w => v = .int .i64 (Zeu (l.map ChgA.c) n) ∧ St W noF [] w) := by
 have hTo := hT.ro
 have hS := St.start W
 obtain ⟨cl,hcl⟩ : ∃ cl,cl = l.map ChgA.c := ⟨_,rfl⟩
 have hget : ∀ {i : Nat} {x : ChgA},l[i]? = some x → cl[i]? = some x.c := fun {i x} h => by rw [hcl]; simp [h]
 rw [← hcl];refine Zab Tryz.func125 rfl Tryz.ntmps125 rfl ?_
 repeat (first|refine Yeb ?_|refine Ye4 ?_|refine Yee ?_|refine Yab ?_)
 refine Zbq (α := Unit) (fun _ => [(0,.pointer (some ⟨tp,0,none⟩)),(1,.slice a l.length c)]) (fun _ w => (∀ x ∈ cl,0 ≤ x.no ∧ x.no < n) ∧ St W noF [] w) ?_ ?_
 ·refine Zaj (α := Nat) (fun i => [(0,.pointer (some ⟨tp,0,none⟩)),(1,.slice a l.length c),(12,.slice a l.length c),(13,.int .i64 (l.length : Nat)),(14,.int .i64 (i : Nat))])
   (fun i w => i ≤ l.length ∧ (∀ x ∈ cl.take i,0 ≤ x.no ∧ x.no < n) ∧ St W noF [] w) (fun i => l.length - i) 0 ⟨rfl,rfl,rfl,rfl,rfl,trivial⟩ ⟨Nat.zero_le _,by simp,hS⟩ ?_
  clear hS;rintro i w ⟨hi,hall,hS⟩
  by_cases hlt : i < l.length
  ·have hx0 : l[i]? = some l[i] := List.getElem?_eq_getElem (by omega)
   generalize l[i] = x at hx0;have hr := hC.row
   have hxs : ((l.flatMap ChgA.cells).drop (i * 7)).take 7 = [.int .i64 x.c.no,.int .i64 x.c.nd.st.kind,.int .i64 x.c.nd.st.mode,.int .i64 x.c.nd.st.owner,.int .i64 x.c.nd.st.group,.slice x.a x.c.nd.data.length x.k,.bool x.c.drop] := Zip hx0
   obtain ⟨xb,xo,hxa⟩ := (hr.rd hS).base (by intro e; rw [e] at hxs; simp at hxs)
   rw [hxa] at hr ⊢;have hgx := hget hx0
   have hbad : (¬ (0 ≤ x.c.no ∧ x.c.no < n)) → Zeu cl n = 1 := fun h => by
    unfold Zeu
    rw [if_pos];refine List.any_eq_true.2 ⟨x.c,List.mem_of_getElem? hgx,?_⟩
    simp; omega
   have htk : cl.take (i + 1) = cl.take i ++ [x.c] := by rw [List.take_add_one,hgx]; rfl
   by_cases h0 : x.c.no < 0
   ·rw [hbad (by omega)]
    repeat (first|refine Yeb ?_|(refine X_id ?_;first|refine Ya1 ?_|refine Ybd ?_|refine Ybq ?_|refine Yao (fun _ hS _ => ?_)|refine Yar (fun _ _ hS _ => ?_))|refine Yef ?_|refine Yab ?_)
    refine Zao (.s 0 (.s 1 (.s 2 (.s 3 (.s 4 (.s 5 (.s 6 (.s 7 (.s 8 (.s 9 (.s 10 (.s 11 .nil)))))))))))) mixed (by kernel_rfl) rfl ?_
    have hS := hS.drew
    have hc := hTo
    repeat (first|refine Yeb ?_|refine Yag ?_|refine Yet ?_|refine Yex ?_|(refine Zaf ?_;first|refine Ya2 ?_|refine Ya6 ?_|refine Ybk ?_|refine Ycn ?_|refine Zai rfl rfl (fun _ => Zs7 rfl rfl rfl (by omega)) rfl rfl ?_|refine Ybn ?_|refine Ycm ?_))
    exact ⟨rfl,hS.drops⟩
   ·by_cases h1 : (n : Int) ≤ x.c.no
    ·rw [hbad (by omega)]
     repeat (first|refine Yeb ?_|(refine X_id ?_;first|refine Ya1 ?_|refine Ybd ?_|refine Ybq ?_|refine Yao (fun _ hS _ => ?_)|refine Yar (fun _ _ hS _ => ?_))|refine Yef ?_|refine Yab ?_)
     refine Zao (.s 0 (.s 1 (.s 2 (.s 3 (.s 4 (.s 5 (.s 6 (.s 7 (.s 8 (.s 9 (.s 10 (.s 11 .nil)))))))))))) mixed (by kernel_rfl) rfl ?_
     have hS := hS.drew
     have hc := hTo
     repeat (first|refine Yeb ?_|refine Yag ?_|refine Yet ?_|refine Yex ?_|(refine Zaf ?_;first|refine Ya2 ?_|refine Ya6 ?_|refine Ybk ?_|refine Ych ?_|refine Zai rfl rfl (fun _ => Zjm rfl rfl rfl (by omega)) rfl rfl ?_|refine Ybn ?_|refine Yci ?_|refine Yc2 ?_|refine Ycz ?_|refine Zco rfl rfl rfl rfl (fun _ => Zjo rfl rfl rfl (by omega)) rfl rfl ?_|refine Yc3 ?_|refine Yd1 ?_))
     exact ⟨rfl,hS.drops⟩
    ·repeat (first|refine Yeb ?_|(refine X_id ?_;first|refine Ya1 ?_|refine Ybd ?_|refine Ybq ?_|refine Yao (fun _ hS _ => ?_)|refine Yar (fun _ _ hS _ => ?_))|refine Yef ?_|refine Yab ?_)
     refine Zao (.s 0 (.s 1 (.s 2 (.s 3 (.s 4 (.s 5 (.s 6 (.s 7 (.s 8 (.s 9 (.s 10 (.s 11 .nil)))))))))))) mixed (by kernel_rfl) rfl ?_
     have hS := hS.drew
     have hc := hTo
     repeat (first|refine Yeb ?_|refine Yeg ?_|refine Ye3 ?_|refine Yej ?_|(refine Zaf ?_;first|refine Ya2 ?_|refine Ya6 ?_|refine Ybk ?_|refine Ych ?_|refine Zai rfl rfl (fun _ => Zjm rfl rfl rfl (by omega)) rfl rfl ?_|refine Ybn ?_|refine Yci ?_|refine Yc2 ?_|refine Ycz ?_|refine Zco rfl rfl rfl rfl (fun _ => Znw rfl rfl rfl (by omega)) rfl rfl ?_|refine Yc3 ?_|refine Yd1 ?_))
     refine Zae (i + 1) ⟨rfl,rfl,rfl,rfl,rfl,trivial⟩ ⟨by omega,?_,hS.drops⟩ (by omega)
     rw [htk];intro y hy
     rcases List.mem_append.1 hy with hy | hy
     ·exact hall y hy
     ·rw [List.mem_singleton] at hy; rw [hy]; omega
  ·obtain rfl : i = l.length := by omega
   rw [List.take_of_length_le (by rw [hcl]; simp)] at hall
   repeat (first|refine Yeb ?_|refine Yaz ?_|refine Yeo ?_|refine Yeh ?_)
   exact Zbw () ⟨rfl,rfl,trivial⟩ ⟨hall,hS⟩
 clear hS;rintro _ w ⟨hall,hS⟩
 have hany : ¬ (cl.any (fun c => decide (c.no < 0) || decide ((n : Int) ≤ c.no)) = true) := fun h => by
  obtain ⟨x,hx,hb⟩ := List.any_eq_true.1 h
  have := hall x hx
  simp at hb
  omega
 repeat (first|refine Yeb ?_|refine Yaf ?_|refine Yat ?_|refine Yee ?_|refine Yab ?_)
 have hcll : cl.length = l.length := by rw [hcl]; simp
 obtain ⟨tl,htl⟩ : ∃ tl : List (Int × List UInt8),tl = cl.map fun c => (c.no,[]) := ⟨_,rfl⟩
 have htll : tl.length = l.length := by rw [htl]; simp [hcll]
 have htwC : Zlj cl = Zbd tl l.length := by unfold Zlj; rw [← htl,hcll]
 have hmn : ∀ i,(tl.take i).map (·.1) = (l.take i).map (·.c.no) := fun i => by rw [htl,hcl]; simp [List.map_take,Function.comp_def]
 refine Zbq (α := Unit) (fun _ => [(0,.pointer (some ⟨tp,0,none⟩)),(1,.slice a l.length c)]) (fun _ w => Zlj cl = false ∧ St W noF [] w) ?_ ?_
 ·refine Zaj (α := Nat) (fun i => [(0,.pointer (some ⟨tp,0,none⟩)),(1,.slice a l.length c),(31,.slice a l.length c),(32,.int .i64 (l.length : Nat)),(33,.int .i64 (i : Nat))])
   (fun i w => i ≤ l.length ∧ Zbd tl i = false ∧ St W noF [] w) (fun i => l.length - i) 0 ⟨rfl,rfl,rfl,rfl,rfl,trivial⟩ ⟨Nat.zero_le _,rfl,hS⟩ ?_
  clear hS;rintro i w ⟨hi,htw,hS⟩
  by_cases hlt : i < l.length
  ·have hx0 : l[i]? = some l[i] := List.getElem?_eq_getElem (by omega)
   generalize l[i] = x at hx0;have hr := hC.row
   have hxs : ((l.flatMap ChgA.cells).drop (i * 7)).take 7 = [.int .i64 x.c.no,.int .i64 x.c.nd.st.kind,.int .i64 x.c.nd.st.mode,.int .i64 x.c.nd.st.owner,.int .i64 x.c.nd.st.group,.slice x.a x.c.nd.data.length x.k,.bool x.c.drop] := Zip hx0
   have hgi : (tl.getD i (0,[])).1 = x.c.no := by rw [List.getD_eq_getElem?_getD,htl,List.getElem?_map,hget hx0]; rfl
   have hts : Zbd tl (i + 1) = (Zbd tl i || decide (x.c.no ∈ (l.take i).map (·.c.no))) := by rw [Zbd,hgi,hmn]
   obtain ⟨xb,xo,hxa⟩ := (hr.rd hS).base (by intro e; rw [e] at hxs; simp at hxs)
   rw [hxa] at hr ⊢;by_cases hq : x.c.no ∈ (l.take i).map (·.c.no)
   ·have hcc := fun w b cs T h1 h2 h3 => Zhz (some ⟨xb,xo,none⟩) i c b l cs x.c.no T h1 w h2 h3 (by omega) hl
    rw [decide_eq_true hq] at hcc hts;have hone : Zeu cl n = 8 := by
     unfold Zeu
     rw [if_neg hany,if_pos];rw [htwC];cases hb : Zbd tl l.length
     ·exfalso
      have h1 := (Zdt tl l.length (by omega)).1 hb
      have h2 := (Zdt tl (i + 1) (by omega)).2 (h1.sublist ((List.take_sublist_take_left (by omega)).map _))
      rw [hts] at h2;simp at h2
     ·rfl
    rw [hone];repeat (first|refine Yeb ?_|(refine X_id ?_;first|refine Yaf ?_|refine Yag ?_|refine Ya1 ?_|refine Ybd ?_|refine Ybq ?_|refine Yao (fun _ hS _ => ?_)|refine Yar (fun _ _ hS _ => ?_))|refine Yef ?_|refine Yab ?_)
    refine X_yl (Zaq (l := 0) (h := i) rfl rfl rfl rfl (.inr ⟨_,_,rfl,by omega,by omega,by omega⟩) (.inl ⟨rfl,rfl⟩)) rfl rfl ?_
    rw [sub_zero];repeat (first|refine Yaa ?_|refine Yct ?_)
    rename_i b8 _ _ _ _ _;refine Zac _ rfl rfl rfl rfl rfl hS (hcc _ b8 [.int .i64 x.c.no,.int .i64 x.c.nd.st.kind,.int .i64 x.c.nd.st.mode,.int .i64 x.c.nd.st.owner,.int .i64 x.c.nd.st.group,.slice x.a x.c.nd.data.length x.k,.bool x.c.drop] _ rfl (hr.rd hS) (hS.rd (List.mem_cons_self ..))) ?_
    rintro _ w rfl hS
    repeat (first|refine Yeb ?_|refine Yag ?_|refine Yet ?_|refine Yex ?_)
    exact ⟨rfl,hS.drops⟩
   ·have hcc := fun w b cs T h1 h2 h3 => Zhz (some ⟨xb,xo,none⟩) i c b l cs x.c.no T h1 w h2 h3 (by omega) hl
    rw [decide_eq_false hq] at hcc hts;repeat (first|refine Yeb ?_|(refine X_id ?_;first|refine Yaf ?_|refine Yag ?_|refine Ya1 ?_|refine Ybd ?_|refine Ybq ?_|refine Yao (fun _ hS _ => ?_)|refine Yar (fun _ _ hS _ => ?_))|refine Yef ?_|refine Yab ?_)
    refine X_yl (Zaq (l := 0) (h := i) rfl rfl rfl rfl (.inr ⟨_,_,rfl,by omega,by omega,by omega⟩) (.inl ⟨rfl,rfl⟩)) rfl rfl ?_
    rw [sub_zero];repeat (first|refine Yaa ?_|refine Yct ?_)
    rename_i b8 _ _ _ _ _;refine Zac _ rfl rfl rfl rfl rfl hS (hcc _ b8 [.int .i64 x.c.no,.int .i64 x.c.nd.st.kind,.int .i64 x.c.nd.st.mode,.int .i64 x.c.nd.st.owner,.int .i64 x.c.nd.st.group,.slice x.a x.c.nd.data.length x.k,.bool x.c.drop] _ rfl (hr.rd hS) (hS.rd (List.mem_cons_self ..))) ?_
    rintro _ w rfl hS
    repeat (first|refine Yeb ?_|refine Yeg ?_|refine Ye3 ?_|refine Yej ?_)
    exact Zae (i + 1) ⟨rfl,rfl,rfl,rfl,rfl,trivial⟩ ⟨by omega,by rw [hts,htw]; rfl,hS.drops⟩ (by omega)
  ·obtain rfl : i = l.length := by omega
   repeat (first|refine Yeb ?_|refine Yaz ?_|refine Yeo ?_|refine Yeh ?_)
   exact Zbw () ⟨rfl,rfl,trivial⟩ ⟨by rw [htwC]; exact htw,hS⟩
 clear hS;rintro _ w ⟨htw,hS⟩
 have hcc : Zeu cl n = badC cl := by unfold Zeu; rw [if_neg hany,if_neg (by simp [htw])]
 rw [hcc];repeat (first|refine Yeb ?_|refine Yaf ?_|refine Yat ?_|refine Yee ?_|refine Yab ?_)
 refine Zaj (α := Nat) (fun i => [(0,.pointer (some ⟨tp,0,none⟩)),(1,.slice a l.length c),(44,.slice a l.length c),(45,.int .i64 (l.length : Nat)),(46,.int .i64 (i : Nat))])
  (fun i w => i ≤ l.length ∧ badC cl = badC (cl.drop i) ∧ St W noF [] w) (fun i => l.length - i) 0 ⟨rfl,rfl,rfl,rfl,rfl,trivial⟩ ⟨Nat.zero_le _,rfl,hS⟩ ?_
 clear hS;rintro i w ⟨hi,hbe,hS⟩
 by_cases hlt : i < l.length
 ·have hx0 : l[i]? = some l[i] := List.getElem?_eq_getElem (by omega)
  generalize l[i] = x at hx0;have hr := hC.row
  have hxs : ((l.flatMap ChgA.cells).drop (i * 7)).take 7 = [.int .i64 x.c.no,.int .i64 x.c.nd.st.kind,.int .i64 x.c.nd.st.mode,.int .i64 x.c.nd.st.owner,.int .i64 x.c.nd.st.group,.slice x.a x.c.nd.data.length x.k,.bool x.c.drop] := Zip hx0
  have hdr : cl.drop i = x.c :: cl.drop (i + 1) := (List.drop_eq_getElem?_toList_append (l := cl) (i := i)).trans (by rw [hget hx0]; rfl)
  obtain ⟨xb,xo,hxa⟩ := (hr.rd hS).base (by intro e; rw [e] at hxs; simp at hxs)
  rw [hxa] at hr ⊢;cases hdp : x.c.drop
  ·have hb2 : badC cl = if ¬ x.c.nd.st.check = 0 then x.c.nd.st.check else if 512 < x.c.nd.data.length then 2 else badC (cl.drop (i + 1)) := by rw [hbe,hdr,badC,if_neg (by simp [hdp])]
   rw [hdp] at hxs;have hck := Zqo x.c.nd.st
   by_cases hst : x.c.nd.st.check = 0
   ·rw [if_neg (by simp [hst])] at hb2
    rw [hst] at hck;by_cases h5 : 512 < x.c.nd.data.length
    ·rw [hb2,if_pos h5]
     repeat (first|refine Yeb ?_|(refine X_id ?_;first|(refine Zac 88 rfl rfl rfl rfl rfl hS (hck _) ?_;rintro _ _ rfl hS)|refine Yaf ?_|refine Yag ?_|refine Yan ?_|refine Yby ?_|refine Yat ?_|refine Ybc ?_|refine Ya1 ?_|refine Ybx ?_|refine Ybd ?_|refine Yaq ?_|refine Ybi ?_|refine Ybq ?_|refine Yao (fun _ hS _ => ?_)|refine Yar (fun _ _ hS _ => ?_))|refine Yfg ?_|refine Yex ?_)
     exact ⟨rfl,hS.drops⟩
    ·rw [if_neg h5] at hb2
     repeat (first|refine Yeb ?_|(refine X_id ?_;first|(refine Zac 88 rfl rfl rfl rfl rfl hS (hck _) ?_;rintro _ _ rfl hS)|refine Yaf ?_|refine Yag ?_|refine Yan ?_|refine Yby ?_|refine Yat ?_|refine Ybc ?_|refine Ya1 ?_|refine Ybr ?_|refine Ybd ?_|refine Yaw ?_|refine Yaq ?_|refine Ybi ?_|refine Ybq ?_|refine Yao (fun _ hS _ => ?_)|refine Yar (fun _ _ hS _ => ?_))|refine Yei ?_|refine Yej ?_)
     exact Zae (i + 1) ⟨rfl,rfl,rfl,rfl,rfl,trivial⟩ ⟨by omega,hb2,hS.drops⟩ (by omega)
   ·rw [if_pos hst] at hb2
    rw [hb2];repeat (first|refine Yeb ?_|(refine X_id ?_;first|(refine Zac 88 rfl rfl rfl rfl rfl hS (hck _) ?_;rintro _ _ rfl hS)|refine Yaf ?_|refine Yag ?_|refine Yan ?_|refine Yby ?_|refine Ybj ?_|refine Ya1 ?_|refine Ybd ?_|refine Yaq ?_|refine Ybi ?_|refine Ybq ?_|refine Yao (fun _ hS _ => ?_)|refine Yar (fun _ _ hS _ => ?_))|refine Yfg ?_|refine Yex ?_)
    exact ⟨rfl,hS.drops⟩
  ·have hb2 : badC cl = badC (cl.drop (i + 1)) := by rw [hbe,hdr,badC,if_pos hdp]
   rw [hdp] at hxs;repeat (first|refine Yeb ?_|(refine X_id ?_;first|refine Yaf ?_|refine Yan ?_|refine Ya1 ?_|refine Ybd ?_|refine Yaw ?_|refine Yaq ?_|refine Ybq ?_|refine Yao (fun _ hS _ => ?_)|refine Yar (fun _ _ hS _ => ?_))|refine Yae ?_|refine Yad ?_|refine Yak ?_|refine Yal ?_|refine Ya3 ?_|refine Yaj ?_|refine Yeh ?_)
   exact Zae (i + 1) ⟨rfl,rfl,rfl,rfl,rfl,trivial⟩ ⟨by omega,hb2,hS.drops⟩ (by omega)
 ·obtain rfl : i = l.length := by omega
  have hb2 : badC cl = 0 := by rw [hbe,List.drop_eq_nil_of_le (by omega)]; rfl
  rw [hb2];repeat (first|refine Yeb ?_|refine Yag ?_|refine Yaz ?_|refine Yek ?_|refine Yfd ?_)
  exact ⟨rfl,hS⟩
end Cr
