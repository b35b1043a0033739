/-
  Layer 7 (inode): the free blocks of nodes; does a block stand in two Zhr?
  Layer 7 (inode): what is wrong with changes.
  Layer 7 (inode): a map copied; a write noted.
  Layer 7 (inode): Apply.
  The laws' helper Same: are bytes the same?
  Layer 7 (inode): Open: a node of its sector's bytes; does a block stand in two Zhr?
  Layer 7 (inode): Format; what nil tells; Same.
  Layer 7 (inode): does a block stand in two Zhr? Open.
  Layer 7 (inode): Open of a log that holds a table.
-/
import Derived.Test.YtpbgaojjlepkcaaGreatDoorAbn12
import Derived.Test.YtpbgaojjlepkcaaGreatDoorAbn9
import Derived.Shelf.SlMaps.Clone
import Derived.Test.YtpbgaojjlepkcaaGreatDoorAbn7
namespace Cr
open Go Go.Proofs
set_option maxRecDepth 100000
set_option maxHeartbeats 64000000
attribute [local irreducible] Calls

theorem Zw9 (k k' : Int) (v : Value) (L : List (Int × Value)) : getM k (setM k' v L) = if k = k' then some v else getM k L := Zk0 k k' v L
def Seen (L : List (Int × Value)) (D : List Int) : Prop := ∀ k,(getM k L).getD (.bool false) = .bool (decide (k ∈ D))
theorem Seen.nil : Seen [] [] := fun k => by simp [getM]
theorem Seen.add {L : List (Int × Value)} {D : List Int} (h : Seen L D) (b : Int) : Seen (setM b (.bool true) L) (D ++ [b]) := fun k => by
 rw [Zw9];by_cases e : k = b
 ·rw [if_pos e]; simp [e]
 ·rw [if_neg e,h k]; simp [e]
structure Gone (A : AV) (left : List MapEntry) (D : List Int) : Prop where
 sub : ∀ k ∈ D,∃ x ∈ A,k ∈ x.2.s.blocks ∧ ¬ ∃ e ∈ left,(e.key,e.val) = (Value.int .i64 x.1,x.2.val)
 all : ∀ x ∈ A,(∀ b ∈ x.2.s.blocks,b ∈ D) ∨ ∃ e ∈ left,(e.key,e.val) = (Value.int .i64 x.1,x.2.val)
theorem Gone.start {A : AV} {es : Array MapEntry} (h : kvs es = A.vals.map (fun x => (Value.int .i64 x.1,x.2))) : Gone A es.toList [] :=
 ⟨fun _ h => by simp at h,fun x hx => .inr (by
  have hm : (Value.int .i64 x.1,x.2.val) ∈ kvs es := by
   rw [h];exact List.mem_map.2 ⟨(x.1,x.2.val),List.mem_map.2 ⟨x,hx,rfl⟩,rfl⟩
  obtain ⟨e,he,hk⟩ := List.mem_map.1 hm
  exact ⟨e,he,hk⟩)⟩
theorem Zt4 {A : AV} {es : Array MapEntry} (h : kvs es = A.vals.map (fun x => (Value.int .i64 x.1,x.2))) {e : MapEntry} (he : e ∈ es.toList) : ∃ x ∈ A,e.key = Value.int .i64 x.1 ∧ e.val = x.2.val := by
 have hm : (e.key,e.val) ∈ kvs es := List.mem_map.2 ⟨e,he,rfl⟩
 rw [h] at hm;obtain ⟨y,hy,hk⟩ := List.mem_map.1 hm
 obtain ⟨x,hx,rfl⟩ := List.mem_map.1 hy
 exact ⟨x,hx,(Prod.mk.inj hk).1.symm,(Prod.mk.inj hk).2.symm⟩
theorem Z24 {A : AV} (hn : (Zaw A).Nodup) {x y : Int × SV} (hx : x ∈ A) (hy : y ∈ A) (h : x.1 = y.1) : x = y := by
 have h1 := Zeh hn (show (x.1,x.2) ∈ A from hx)
 have h2 := Zeh hn (show (y.1,y.2) ∈ A from hy)
 rw [h,h2] at h1;exact Prod.ext h (Option.some.inj h1).symm
theorem Zp7 (A : AV) : Zaw A.ents = Zaw A := by simp [Zaw,AV.ents]
theorem Gone.step {A : AV} {left left' : List MapEntry} {D : List Int} (h : Gone A left D) (hn : (Zaw A).Nodup) {e : MapEntry} (hp : left.Perm (e :: left')) {x : Int × SV} (hx : x ∈ A) (h1 : e.key = Value.int .i64 x.1) (h2 : e.val = x.2.val)
  (hborn : ∀ e' ∈ left',¬ (e'.key = e.key)) : Gone A left' (D ++ x.2.s.blocks) := by
 refine ⟨fun k hk => ?_,fun y hy => ?_⟩
 ·rcases List.mem_append.1 hk with hk | hk
  ·obtain ⟨y,hy,hky,hne⟩ := h.sub k hk
   exact ⟨y,hy,hky,fun ⟨e',he',q⟩ => hne ⟨e',hp.symm.subset (List.mem_cons_of_mem _ he'),q⟩⟩
  ·exact ⟨x,hx,hk,fun ⟨e',he',q⟩ => hborn e' he' (by rw [h1]; exact (Prod.mk.inj q).1)⟩
 ·rcases h.all y hy with ha | ⟨e',he',q⟩
  ·exact .inl fun b hb => List.mem_append_left _ (ha b hb)
  ·rcases List.mem_cons.1 (hp.subset he') with rfl | he'
   ·left
    have : y.1 = x.1 := by
     have := (Prod.mk.inj q).1
     rw [h1] at this;exact (Value.int.inj this).2.symm
    rw [Z24 hn hy hx this];exact fun b hb => List.mem_append_right _ hb
   ·exact .inr ⟨e',he',q⟩
theorem Gone.done {A : AV} {D : List Int} (h : Gone A [] D) (k : Int) : k ∈ D ↔ k ∈ Za0 A.ents := by
 constructor
 ·intro hk
  obtain ⟨x,hx,hb,_⟩ := h.sub k hk
  exact List.mem_flatMap.2 ⟨_,AV.mem_ents hx,hb⟩
 ·intro hk
  obtain ⟨y,hy,hb⟩ := List.mem_flatMap.1 hk
  obtain ⟨x,hx,rfl⟩ := List.mem_map.1 hy
  rcases h.all x hx with ha | ⟨e,he,_⟩
  ·exact ha k hb
  ·cases he
theorem Zw0 {A : AV} {es : Array MapEntry} (h : kvs es = A.vals.map (fun x => (Value.int .i64 x.1,x.2))) (hn : (Zaw A).Nodup) {seen : Array Nat} {e : MapEntry} {left' : List MapEntry} (hp : (Zdk es seen).Perm (e :: left')) : ∀ e' ∈ left',¬ (e'.key = e.key) := by
 have hk : (es.toList.map (·.key)).Nodup := by
  have e1 : es.toList.map (·.key) = (kvs es).map (·.1) := by simp [kvs,Function.comp_def]
  rw [e1,h];have e2 : ((AV.vals A).map (fun x => (Value.int .i64 x.1,x.2))).map (·.1) = (Zaw A).map (Value.int .i64) := by simp [AV.vals,Zaw,Function.comp_def]
  rw [e2,List.Nodup,List.pairwise_map];exact hn.imp fun h e => h (Value.int.inj e).2
 have h2 : ((Zdk es seen).map (·.key)).Nodup := hk.sublist (List.filter_sublist.map _)
 have h3 := (hp.map (·.key)).nodup_iff.1 h2
 rw [List.map_cons,List.nodup_cons] at h3;exact fun e' he' q => h3.1 (by rw [← q]; exact List.mem_map.2 ⟨e',he',rfl⟩)
def Zgw (D : List Int) (i : Nat) : List Int := ((List.range i).map fun k => ((k : Nat) : Int)).filter fun b => decide (b ∉ D)
theorem Zr8 (D : List Int) (i : Nat) : Zgw D (i + 1) = Zgw D i ++ if ((i : Nat) : Int) ∈ D then [] else [((i : Nat) : Int)] := by
 unfold Zgw
 rw [List.range_succ,List.map_append,List.filter_append]
 congr 1
 by_cases h : ((i : Nat) : Int) ∈ D <;> simp [h]
theorem Zxd (D : List Int) (i : Nat) : (Zgw D i).length ≤ i := by
 unfold Zgw
 exact Nat.le_trans (List.length_filter_le ..) (by simp)
theorem Zu9 {A : AV} {D : List Int} (h : Gone A [] D) (nb : Nat) : Zgw D nb = Zg8 A.ents nb := by
 unfold Zgw Zg8
 refine List.filter_congr fun x _ => ?_
 have := h.done x
 by_cases hx : x ∈ D
 ·simp [hx,this.1 hx]
 ·have h2 : x ∉ Za0 A.ents := fun h => hx (this.2 h)
  simp [hx,h2]
theorem Zkx (k : IntKind) (L M : List Int) : ints k (L ++ M) = ints k L ++ ints k M := by simp [ints]
theorem Z7a (tp lp n r r2 p j m nb : Nat) (A : AV) (dat : List (List UInt8)) (W : World) (hT : Rd W (Zij tp lp n r)) (hq : Rd W (qlog lp p j m dat)) (hd : dat.length = 1 + n + nb) (hm : Rd W (mapq (Value.int .i64) r2 A.vals)) (hb : ∀ x ∈ A,Rd W (row x.2.ba (ints .i64 x.2.s.blocks))) (hbl : ∀ x ∈ A,x.2.s.blocks.length ≤ 1048576) (hn : (Zaw A).Nodup) :
  Calls Tryz.prog 148 #[.pointer (some ⟨tp,0,none⟩),.map (some r2)] W (Ret fun v w => ∃ a c,v = .slice a (Zg8 A.ents nb).length c ∧ (Zg8 A.ents nb).length ≤ c ∧ St W noF [own 3 1 a c (ints .i64 (Zg8 A.ents nb))] w) := by
 have hTo := hT.ro
 have hqo := hq.ro
 have hql := (qlen hq).1
 obtain ⟨es,clock,hes,hst,hmp⟩ := hm.openMap
 have hmpo := hmp.ro
 have hbo : ∀ x ∈ A,Ro W noF (row x.2.ba (ints .i64 x.2.s.blocks)) := fun x hx => (hb x hx).ro
 have hS := St.start W
 refine Zab Tryz.func148 rfl Tryz.ntmps148 rfl ?_
 repeat (first|refine Yea ?_|refine Yag ?_|refine Yeb ?_|refine Yab ?_)
 refine Zff (Value.int .i64) rfl rfl rfl hS (fun r3 w hS => ?_)
 repeat (first|refine Yea ?_|refine Yen ?_|refine Yeb ?_|refine Yab ?_)
 refine Zm6 rfl rfl (hmpo.rd hS) rfl rfl hS (fun it w hS _ => ?_)
 repeat (first|refine Yac ?_|refine Yal ?_|refine Yab ?_)
 refine Zbz (α := Nat × List (Int × Value) × List Int) (fun z => [(0,.pointer (some ⟨tp,0,none⟩)),(5,.map (some z.1))]) (fun z w => Seen z.2.1 z.2.2 ∧ Gone A [] z.2.2 ∧ St W noF [mapq (Value.int .i64) z.1 z.2.1] w) ?_ ?_
 ·refine Zal (α := Array Nat × List (Int × Value) × List Int) (fun _ => [(0,.pointer (some ⟨tp,0,none⟩)),(5,.map (some r3)),(14,.pointer (some ⟨it,0,none⟩))])
   (fun z w => Seen z.2.1 z.2.2 ∧ Gone A (Zdk es z.1) z.2.2 ∧ St W noF [pts it (.mapIter (some r2) clock z.1 clock),mapq (Value.int .i64) r3 z.2.1] w) (fun z => (Zdk es z.1).length) (#[],[],[]) ⟨rfl,rfl,rfl,trivial⟩ ⟨Seen.nil,by rw [Zkv]; exact Gone.start hes,hS⟩ ?_
  clear hS;rintro ⟨seen,L,D⟩ w ⟨hse,hgo,hS⟩
  simp only at hse hgo hS ⊢
  repeat (first|refine Yaa ?_|refine Yeb ?_)
  refine Zrb rfl rfl hst (hmpo.rd hS) rfl rfl hS (fun h0 => ?_) (fun e he w hS => ?_)
  ·repeat (first|refine Yea ?_|refine Yat ?_|refine Yae ?_|refine Ya9 ?_|refine Yai ?_|refine Yeg ?_)
   refine Zbp (r3,L,D) ⟨rfl,rfl,trivial⟩ ⟨hse,by rw [h0] at hgo; exact hgo,hS.pick [1]⟩
  ·have hel : e ∈ es.toList := (List.mem_filter.1 he).1
   have hstep := Zmj hst he
   obtain ⟨x,hxA,hk,hv⟩ := Zt4 hes hel
   have hgo2 := hgo.step hn hstep hxA hk hv (Zw0 hes hn hstep)
   have hlt : (Zdk es (seen.push e.born)).length < (Zdk es seen).length := by rw [hstep.length_eq]; simp
   have hxl := hbl x hxA
   have hr := hbo x hxA
   repeat (first|refine Yea ?_|refine Yat ?_|refine Yee ?_|refine Yab ?_)
   refine X_yl (Zuj rfl rfl hst hel hS.has (hmpo.rd hS).pts) rfl rfl ?_
   rw [hv];repeat (first|refine Yea ?_|(refine X_id ?_;first|refine Yaf ?_|refine Yan ?_|refine Yat ?_|refine Yav ?_|refine Yap ?_|refine Yao (fun _ hS _ => ?_)|refine Yar (fun _ _ hS _ => ?_))|refine Yed ?_|refine Yab ?_)
   refine Zal (α := Nat × List (Int × Value)) (fun z => [(0,.pointer (some ⟨tp,0,none⟩)),(5,.map (some r3)),(14,.pointer (some ⟨it,0,none⟩)),(20,.slice x.2.ba x.2.s.blocks.length x.2.bc),(21,.int .i64 (x.2.s.blocks.length : Nat)),(22,.int .i64 (z.1 : Nat))])
    (fun z w => z.1 ≤ x.2.s.blocks.length ∧ Seen z.2 (D ++ x.2.s.blocks.take z.1) ∧ St W noF [mapq (Value.int .i64) r3 z.2,pts it (.mapIter (some r2) clock (seen.push e.born) clock)] w) (fun z => x.2.s.blocks.length - z.1) (0,L) ⟨rfl,rfl,rfl,rfl,rfl,rfl,trivial⟩ ⟨Nat.zero_le _,by simpa using hse,hS.pick [2,1]⟩ ?_
   clear hS hse;rintro ⟨i,L2⟩ w ⟨hi,hse,hS⟩
   simp only at hi hse hS ⊢
   by_cases hlt2 : i < x.2.s.blocks.length
   ·have hx0 : x.2.s.blocks[i]? = some x.2.s.blocks[i] := List.getElem?_eq_getElem hlt2
    generalize x.2.s.blocks[i] = b at hx0;have hx : (ints .i64 x.2.s.blocks)[i]? = some (.int .i64 b) := by simp [ints,hx0]
    have hbase := (hr.rd hS).base (by intro e; rw [e] at hx; simp at hx)
    obtain ⟨xb,xo,hxa⟩ := hbase
    rw [hxa] at hr ⊢;repeat (first|refine Yea ?_|refine Yfk ?_|refine Yee ?_|refine Yab ?_)
    refine Ze1 rfl rfl rfl rfl rfl hS (fun w hS => ?_)
    repeat (first|refine Yea ?_|refine Yef ?_|refine Yad ?_|refine Yei ?_)
    refine Zaf (z := (i,L2)) (i + 1,setM b (.bool true) L2) ⟨rfl,rfl,rfl,rfl,rfl,rfl,trivial⟩ ⟨by simp only; omega,?_,hS⟩ (by simp only; omega)
    simp only
    rw [List.take_add_one,hx0];have := hse.add b
    rwa [List.append_assoc] at this
   ·obtain rfl : i = x.2.s.blocks.length := by omega
    rw [List.take_length] at hse;repeat (first|refine Yea ?_|refine Ya6 ?_|refine Yeq ?_|refine Yab ?_|refine Yba ?_|refine Ybb ?_|refine Yaw ?_)
    exact Zaf (z := (seen,L,D)) (seen.push e.born,L2,D ++ x.2.s.blocks) ⟨rfl,rfl,rfl,trivial⟩ ⟨hse,hgo2,hS.pick [1,0]⟩ hlt
 ·clear hS
  rintro ⟨r3,L,D⟩ w ⟨hse,hgo,hS⟩
  simp only at hse hgo hS ⊢
  rw [← Zu9 hgo nb];repeat (first|refine Yea ?_|refine Yen ?_|refine Yeb ?_|refine Yab ?_)
  refine Zad _ rfl rfl rfl rfl rfl hS (Zy6 tp lp n r p j m nb dat _ (hTo.rd hS) (hqo.rd hS) hd) ?_
  rintro _ w rfl hS
  repeat (first|refine Yea ?_|refine Yaf ?_|refine Yal ?_|refine Yab ?_)
  refine Zal (α := Nat × Option Addr × Nat) (fun z => [(5,.map (some r3)),(10,.slice z.2.1 (Zgw D z.1).length z.2.2),(30,.int .i64 (nb : Nat)),(31,.int .i64 (z.1 : Nat))])
   (fun z w => z.1 ≤ nb ∧ (Zgw D z.1).length ≤ z.2.2 ∧ St W noF [own 3 1 z.2.1 z.2.2 (ints .i64 (Zgw D z.1)),mapq (Value.int .i64) r3 L] w) (fun z => nb - z.1) (0,none,0) ⟨rfl,rfl,rfl,rfl,trivial⟩ ⟨Nat.zero_le _,Nat.le_refl _,hS.own_none _ _ _⟩ ?_
  clear hS;rintro ⟨i,a,c⟩ w ⟨hi,hc,hS⟩
  simp only at hi hc hS ⊢
  have hfl := Zxd D i
  by_cases hlt : i < nb
  ·have hg := hse (i : Nat)
   have hsu := Zr8 D i
   by_cases hin : ((i : Nat) : Int) ∈ D
   ·rw [decide_eq_true hin] at hg
    rw [if_pos hin,List.append_nil] at hsu;repeat (first|refine Yea ?_|refine Yaf ?_|refine Yag ?_|refine Ya2 ?_|refine Yee ?_|refine Yab ?_)
    refine X_yl (Zib (mk := Value.int .i64) (L := L) (k := ((i : Nat) : Int)) rfl rfl rfl ((hS.rd (by simp)).mapq_r)) rfl rfl ?_
    rw [hg];repeat (first|refine Yea ?_|refine Yaf ?_|refine Ybd ?_|refine Ya0 ?_|refine Yet ?_|refine Yei ?_)
    refine Zaf (z := (i,a,c)) (i + 1,a,c) ⟨rfl,?_,rfl,rfl,trivial⟩ ⟨by simp only; omega,by simp only; rw [hsu]; exact hc,?_⟩ (by simp only; omega)
    ·simp only; rw [hsu]; rfl
    ·simp only; rw [hsu]; exact hS
   ·rw [decide_eq_false hin] at hg
    rw [if_neg hin] at hsu;repeat (first|refine Yea ?_|refine Yaf ?_|refine Yag ?_|refine Ya2 ?_|refine Yee ?_|refine Yab ?_)
    refine X_yl (Zib (mk := Value.int .i64) (L := L) (k := ((i : Nat) : Int)) rfl rfl rfl ((hS.rd (by simp)).mapq_r)) rfl rfl ?_
    rw [hg];repeat (first|refine Yea ?_|refine Yaf ?_|refine Ybq ?_|refine Ybn (fun _ _ hS _ => ?_)|refine Yad ?_|refine Yaj ?_|refine Yab ?_)
    refine Zar (m := 1) rfl rfl rfl rfl rfl hS (by simp [ints_length]) hc ((hS.rd (List.mem_cons_self ..)).own_row) (by simp) (by simp [Value.oneCell']) (by omega) (by simp only [maxLen]; omega) (fun a' c' w hS hc' _ => ?_)
    repeat (first|refine Yea ?_|refine Yes ?_|refine Yad ?_|refine Yei ?_)
    refine Zaf (z := (i,a,c)) (i + 1,a',c') ⟨rfl,?_,rfl,rfl,trivial⟩ ⟨by simp only; omega,by simp only; rw [hsu]; simpa using hc',?_⟩ (by simp only; omega)
    ·simp only; rw [hsu,List.length_append]; rfl
    ·simp only; rw [hsu,Zkx]; have h := hS.pick [0,1]; exact h
  ·obtain rfl : i = nb := by omega
   repeat (first|refine Yea ?_|refine Yfi ?_|refine Yej ?_|refine Yfe ?_)
   exact ⟨a,c,rfl,hc,hS.pick [0]⟩
section
variable {rd fs : List Int} {tp lp p j m n nb : Nat} {T : Tb}
end
structure ChgA where
 c : Chg
 a : Option Addr
 k : Nat
abbrev ChgA.cells (x : ChgA) : List Value := [.int .i64 x.c.no,.int .i64 x.c.nd.st.kind,.int .i64 x.c.nd.st.mode,.int .i64 x.c.nd.st.owner,.int .i64 x.c.nd.st.group,.slice x.a x.c.nd.data.length x.k,.bool x.c.drop]
structure Chgs (W : World) (F : Nat → Prop) (a : Option Addr) (l : List ChgA) : Prop where
 row : Ro W F (row a (l.flatMap ChgA.cells))
 all : ∀ x ∈ l,Ro W F (bytes x.a x.c.nd.data)
theorem Chgs.mono {W w : World} {F F' : Nat → Prop} {a : Option Addr} {l : List ChgA} (h : Chgs W F a l) (hw : ∀ r,Ro W F r → Ro w F' r) : Chgs w F' a l := ⟨hw _ h.row,fun x hx => hw _ (h.all x hx)⟩
theorem Ziz {l : List ChgA} {i : Nat} {x : ChgA} (h : l[i]? = some x) : ((l.flatMap ChgA.cells).drop (i * 7)).take 7 = x.cells := Zcs (f := ChgA.cells) (fun _ _ => rfl) h
theorem Zxt (x : ChgA) (b : Nat) (cs : List Value) (no : Int) (T : TypeId) (hno : cs[0]? = some (.int .i64 no)) (W : World) (hb : Rd W (pts b (.cells cs.toArray T))) :
  Calls Tryz.prog 211 #[.agg (ChgA.cells x).toArray,.pointer (some ⟨b,0,none⟩)] W (Ret fun v w => v = .bool (decide (x.c.no = no)) ∧ St W noF [] w) := by
 have hbo := hb.ro
 have hS := St.start W
 refine Zab Tryz.func211 rfl Tryz.ntmps211 rfl ?_
 repeat (first|refine Yea ?_|refine Yag ?_|refine Yan ?_|refine Yap ?_|refine Ya5 (fun _ _ hS _ => ?_)|refine Yeb ?_|refine Yab ?_)
 refine X_yl (Zas rfl rfl ((cell_of_row _ b 0 cs.toArray T (0,0) (hbo.rd hS).pts).trans (by simpa using hno))) rfl rfl ?_
 repeat (first|refine Yea ?_|refine Yag ?_|refine Ycz ?_|refine Yah ?_|refine Yec ?_)
 exact ⟨rfl,hS.drops⟩
theorem Zu8 (a : Option Addr) (i c b : Nat) (l : List ChgA) (cs : List Value) (no : Int) (T : TypeId) (hno : cs[0]? = some (.int .i64 no)) (W : World) (hr0 : Rd W (row a (l.flatMap ChgA.cells))) (hb : Rd W (pts b (.cells cs.toArray T))) (hi : i ≤ l.length) (hl : l.length ≤ 1048576) :
  Calls Tryz.prog 244 #[.slice a i c,.func (.func 211) #[] #[.pointer (some ⟨b,0,none⟩)]] W (Ret fun v w => (∃ z : Int,v = .int .i64 z ∧ (0 ≤ z ↔ no ∈ (l.take i).map (·.c.no)) ∧ -1 ≤ z) ∧ St W noF [] w) := by
 have hbo := hb.ro
 have hr1 := hr0.ro
 have hS := St.start W
 refine Zab Tryz.func244 rfl Tryz.ntmps244 rfl ?_
 repeat (first|refine Yea ?_|refine Yfj ?_|refine Yed ?_|refine Yab ?_)
 refine Zal (α := Nat) (fun k => [(0,.slice a i c),(1,.func (.func 211) #[] #[.pointer (some ⟨b,0,none⟩)]),(7,.int .i64 (i : Nat)),(8,.int .i64 (k : Nat))])
  (fun k w => k ≤ i ∧ (no ∉ (l.take k).map (·.c.no)) ∧ St W noF [] w) (fun k => i - k) 0 ⟨rfl,rfl,rfl,rfl,trivial⟩ ⟨Nat.zero_le _,by simp,hS⟩ ?_
 clear hS;rintro k w ⟨hk,hne,hS⟩
 by_cases hlt : k < i
 ·have hx0 : l[k]? = some l[k] := List.getElem?_eq_getElem (by omega)
  generalize l[k] = x at hx0;have hr := hr1
  have hxs : ((l.flatMap ChgA.cells).drop (k * 7)).take 7 = [.int .i64 x.c.no,.int .i64 x.c.nd.st.kind,.int .i64 x.c.nd.st.mode,.int .i64 x.c.nd.st.owner,.int .i64 x.c.nd.st.group,.slice x.a x.c.nd.data.length x.k,.bool x.c.drop] := Ziz hx0
  obtain ⟨xb,xo,rfl⟩ := (hr.rd hS).base (by intro e; rw [e] at hxs; simp at hxs)
  have htk : (l.take (k + 1)).map (·.c.no) = (l.take k).map (·.c.no) ++ [x.c.no] := by rw [List.take_add_one,hx0]; simp
  by_cases hq : x.c.no = no
  ·have hc1 := fun w h => Zxt x b cs no T hno w h
   rw [decide_eq_true hq] at hc1;repeat (first|refine Yea ?_|refine Yfr ?_|refine Yee ?_|refine Yab ?_)
   refine Zb4 (first := []) (captured := [.pointer (some ⟨b,0,none⟩)]) rfl rfl rfl rfl rfl (hc1 _ (hbo.rd hS)) ?_
   rintro _ w' ⟨rfl,hS'⟩
   replace hS := hS.plus hS';clear hS';repeat (first|refine Yea ?_|refine Yen ?_|refine Yek ?_|refine Yey ?_)
   refine ⟨⟨(k : Nat),rfl,⟨fun _ => ?_,fun _ => by omega⟩,by omega⟩,hS⟩
   have : no ∈ (l.take (k + 1)).map (·.c.no) := by rw [htk,hq]; simp
   exact (List.Sublist.map _ (List.take_sublist_take_left (by omega))).subset this
  ·have hc1 := fun w h => Zxt x b cs no T hno w h
   rw [decide_eq_false hq] at hc1;repeat (first|refine Yea ?_|refine Yfr ?_|refine Yee ?_|refine Yab ?_)
   refine Zb4 (first := []) (captured := [.pointer (some ⟨b,0,none⟩)]) rfl rfl rfl rfl rfl (hc1 _ (hbo.rd hS)) ?_
   rintro _ w' ⟨rfl,hS'⟩
   replace hS := hS.plus hS';clear hS';repeat (first|refine Yea ?_|refine Yef ?_|refine Yet ?_|refine Yei ?_)
   refine Zaf (k + 1) ⟨rfl,rfl,rfl,rfl,trivial⟩ ⟨by omega,?_,hS⟩ (by omega)
   rw [htk];simp only [List.mem_append,List.mem_singleton,not_or]
   exact ⟨hne,fun e => hq e.symm⟩
 ·obtain rfl : k = i := by omega
  repeat (first|refine Yea ?_|refine Yag ?_|refine Ya6 ?_|refine Yej ?_|refine Yfe ?_)
  exact ⟨⟨-1,rfl,⟨fun h => by omega,fun h => absurd h hne⟩,by omega⟩,hS⟩
theorem Zh6 (a : Option Addr) (i c b : Nat) (l : List ChgA) (cs : List Value) (no : Int) (T : TypeId) (hno : cs[0]? = some (.int .i64 no)) (W : World) (hr0 : Rd W (row a (l.flatMap ChgA.cells))) (hb : Rd W (pts b (.cells cs.toArray T))) (hi : i ≤ l.length) (hl : l.length ≤ 1048576) :
  Calls Tryz.prog 210 #[.slice a i c,.func (.func 211) #[] #[.pointer (some ⟨b,0,none⟩)]] W (Ret fun v w => v = .bool (decide (no ∈ (l.take i).map (·.c.no))) ∧ St W noF [] w) := by
 have hS := St.start W
 refine Zab Tryz.func210 rfl Tryz.ntmps210 rfl ?_
 repeat (first|refine Yea ?_|refine Yen ?_|refine Yeb ?_|refine Yab ?_)
 refine Zaa _ rfl rfl rfl rfl rfl (Zu8 a i c b l cs no T hno _ hr0 hb hi hl) ?_
 rintro _ w ⟨⟨z,rfl,hz,hz1⟩,hS'⟩
 replace hS := hS.plus hS';clear hS';repeat (first|refine Yea ?_|(refine X_id ?_;first|refine Yag ?_|refine X_yl (Zui rfl rfl rfl) rfl rfl ?_)|refine Yah ?_|refine Yec ?_)
 refine ⟨?_,hS⟩
 simp [hz]
theorem Z3k (tp lp n r : Nat) (a : Option Addr) (c : Nat) (l : List ChgA) (W : World) (hT : Rd W (Zij tp lp n r)) (hC : Chgs W noF a l) (hl : l.length ≤ 1048576) (hc : l.length ≤ c) (_ : n ≤ 1048576) :
  Calls Tryz.prog 146 #[.pointer (some ⟨tp,0,none⟩),.slice a l.length c] W (Ret fun v w => v = .int .i64 (Zfc (l.map ChgA.c) n) ∧ St W noF [] w) := by
 have hTo := hT.ro
 have hS := St.start W
 obtain ⟨cl,hcl⟩ : ∃ cl,cl = l.map ChgA.c := ⟨_,rfl⟩
 have hget : ∀ {i : Nat} {x : ChgA},l[i]? = some x → cl[i]? = some x.c := fun {i x} h => by rw [hcl]; simp [h]
 rw [← hcl];refine Zab Tryz.func146 rfl Tryz.ntmps146 rfl ?_
 repeat (first|refine Yea ?_|refine Yfj ?_|refine Yed ?_|refine Yab ?_)
 refine Zbz (α := Unit) (fun _ => [(0,.pointer (some ⟨tp,0,none⟩)),(1,.slice a l.length c)]) (fun _ w => (∀ x ∈ cl,0 ≤ x.no ∧ x.no < n) ∧ St W noF [] w) ?_ ?_
 ·refine Zal (α := Nat) (fun i => [(0,.pointer (some ⟨tp,0,none⟩)),(1,.slice a l.length c),(12,.slice a l.length c),(13,.int .i64 (l.length : Nat)),(14,.int .i64 (i : Nat))])
   (fun i w => i ≤ l.length ∧ (∀ x ∈ cl.take i,0 ≤ x.no ∧ x.no < n) ∧ St W noF [] w) (fun i => l.length - i) 0 ⟨rfl,rfl,rfl,rfl,rfl,trivial⟩ ⟨Nat.zero_le _,by simp,hS⟩ ?_
  clear hS;rintro i w ⟨hi,hall,hS⟩
  by_cases hlt : i < l.length
  ·have hx0 : l[i]? = some l[i] := List.getElem?_eq_getElem (by omega)
   generalize l[i] = x at hx0;have hr := hC.row
   have hxs : ((l.flatMap ChgA.cells).drop (i * 7)).take 7 = [.int .i64 x.c.no,.int .i64 x.c.nd.st.kind,.int .i64 x.c.nd.st.mode,.int .i64 x.c.nd.st.owner,.int .i64 x.c.nd.st.group,.slice x.a x.c.nd.data.length x.k,.bool x.c.drop] := Ziz hx0
   obtain ⟨xb,xo,hxa⟩ := (hr.rd hS).base (by intro e; rw [e] at hxs; simp at hxs)
   rw [hxa] at hr ⊢;have hgx := hget hx0
   have hbad : (¬ (0 ≤ x.c.no ∧ x.c.no < n)) → Zfc cl n = 1 := fun h => by
    unfold Zfc
    rw [if_pos];refine List.any_eq_true.2 ⟨x.c,List.mem_of_getElem? hgx,?_⟩
    simp; omega
   have htk : cl.take (i + 1) = cl.take i ++ [x.c] := by rw [List.take_add_one,hgx]; rfl
   by_cases h0 : x.c.no < 0
   ·rw [hbad (by omega)]
    repeat (first|refine Yea ?_|(refine X_id ?_;first|refine Ya2 ?_|refine Ybc ?_|refine Ybp ?_|refine Yao (fun _ hS _ => ?_)|refine Yar (fun _ _ hS _ => ?_))|refine Yee ?_|refine Yab ?_)
    refine Zam (.s 0 (.s 1 (.s 2 (.s 3 (.s 4 (.s 5 (.s 6 (.s 7 (.s 8 (.s 9 (.s 10 (.s 11 .nil)))))))))))) mixed (by kernel_rfl) rfl ?_
    have hS := hS.drew
    have hc := hTo
    repeat (first|refine Yea ?_|refine Yag ?_|refine Yek ?_|refine Yey ?_|(refine Zae ?_;first|refine Yay ?_|refine Ya3 ?_|refine Ybe ?_|refine Ycb ?_|refine Zak rfl rfl (fun _ => Zj3 rfl rfl rfl (by omega)) rfl rfl ?_|refine Ybk ?_|refine Ycc ?_))
    exact ⟨rfl,hS.drops⟩
   ·by_cases h1 : (n : Int) ≤ x.c.no
    ·rw [hbad (by omega)]
     repeat (first|refine Yea ?_|(refine X_id ?_;first|refine Ya2 ?_|refine Ybc ?_|refine Ybp ?_|refine Yao (fun _ hS _ => ?_)|refine Yar (fun _ _ hS _ => ?_))|refine Yee ?_|refine Yab ?_)
     refine Zam (.s 0 (.s 1 (.s 2 (.s 3 (.s 4 (.s 5 (.s 6 (.s 7 (.s 8 (.s 9 (.s 10 (.s 11 .nil)))))))))))) mixed (by kernel_rfl) rfl ?_
     have hS := hS.drew
     have hc := hTo
     repeat (first|refine Yea ?_|refine Yag ?_|refine Yek ?_|refine Yey ?_|(refine Zae ?_;first|refine Yay ?_|refine Ya3 ?_|refine Ybe ?_|refine Yb7 ?_|refine Zak rfl rfl (fun _ => Zj4 rfl rfl rfl (by omega)) rfl rfl ?_|refine Ybk ?_|refine Yb6 ?_|refine Yct ?_|refine Yck ?_|refine Zbv rfl rfl rfl rfl (fun _ => Zj5 rfl rfl rfl (by omega)) rfl rfl ?_|refine Ycr ?_|refine Ydy ?_))
     exact ⟨rfl,hS.drops⟩
    ·repeat (first|refine Yea ?_|(refine X_id ?_;first|refine Ya2 ?_|refine Ybc ?_|refine Ybp ?_|refine Yao (fun _ hS _ => ?_)|refine Yar (fun _ _ hS _ => ?_))|refine Yee ?_|refine Yab ?_)
     refine Zam (.s 0 (.s 1 (.s 2 (.s 3 (.s 4 (.s 5 (.s 6 (.s 7 (.s 8 (.s 9 (.s 10 (.s 11 .nil)))))))))))) mixed (by kernel_rfl) rfl ?_
     have hS := hS.drew
     have hc := hTo
     repeat (first|refine Yea ?_|refine Yef ?_|refine Yet ?_|refine Yei ?_|(refine Zae ?_;first|refine Yay ?_|refine Ya3 ?_|refine Ybe ?_|refine Yb7 ?_|refine Zak rfl rfl (fun _ => Zj4 rfl rfl rfl (by omega)) rfl rfl ?_|refine Ybk ?_|refine Yb6 ?_|refine Yct ?_|refine Yck ?_|refine Zbv rfl rfl rfl rfl (fun _ => Zos rfl rfl rfl (by omega)) rfl rfl ?_|refine Ycr ?_|refine Ydy ?_))
     refine Zaf (i + 1) ⟨rfl,rfl,rfl,rfl,rfl,trivial⟩ ⟨by omega,?_,hS.drops⟩ (by omega)
     rw [htk];intro y hy
     rcases List.mem_append.1 hy with hy | hy
     ·exact hall y hy
     ·rw [List.mem_singleton] at hy; rw [hy]; omega
  ·obtain rfl : i = l.length := by omega
   rw [List.take_of_length_le (by rw [hcl]; simp)] at hall
   repeat (first|refine Yea ?_|refine Ya6 ?_|refine Yeq ?_|refine Yeg ?_)
   exact Zbp () ⟨rfl,rfl,trivial⟩ ⟨hall,hS⟩
 clear hS;rintro _ w ⟨hall,hS⟩
 have hany : ¬ (cl.any (fun c => decide (c.no < 0) || decide ((n : Int) ≤ c.no)) = true) := fun h => by
  obtain ⟨x,hx,hb⟩ := List.any_eq_true.1 h
  have := hall x hx
  simp at hb
  omega
 repeat (first|refine Yea ?_|refine Yaf ?_|refine Yav ?_|refine Yed ?_|refine Yab ?_)
 have hcll : cl.length = l.length := by rw [hcl]; simp
 obtain ⟨tl,htl⟩ : ∃ tl : List (Int × List UInt8),tl = cl.map fun c => (c.no,[]) := ⟨_,rfl⟩
 have htll : tl.length = l.length := by rw [htl]; simp [hcll]
 have htwC : Zl1 cl = Zbm tl l.length := by unfold Zl1; rw [← htl,hcll]
 have hmn : ∀ i,(tl.take i).map (·.1) = (l.take i).map (·.c.no) := fun i => by rw [htl,hcl]; simp [List.map_take,Function.comp_def]
 refine Zbz (α := Unit) (fun _ => [(0,.pointer (some ⟨tp,0,none⟩)),(1,.slice a l.length c)]) (fun _ w => Zl1 cl = false ∧ St W noF [] w) ?_ ?_
 ·refine Zal (α := Nat) (fun i => [(0,.pointer (some ⟨tp,0,none⟩)),(1,.slice a l.length c),(31,.slice a l.length c),(32,.int .i64 (l.length : Nat)),(33,.int .i64 (i : Nat))])
   (fun i w => i ≤ l.length ∧ Zbm tl i = false ∧ St W noF [] w) (fun i => l.length - i) 0 ⟨rfl,rfl,rfl,rfl,rfl,trivial⟩ ⟨Nat.zero_le _,rfl,hS⟩ ?_
  clear hS;rintro i w ⟨hi,htw,hS⟩
  by_cases hlt : i < l.length
  ·have hx0 : l[i]? = some l[i] := List.getElem?_eq_getElem (by omega)
   generalize l[i] = x at hx0;have hr := hC.row
   have hxs : ((l.flatMap ChgA.cells).drop (i * 7)).take 7 = [.int .i64 x.c.no,.int .i64 x.c.nd.st.kind,.int .i64 x.c.nd.st.mode,.int .i64 x.c.nd.st.owner,.int .i64 x.c.nd.st.group,.slice x.a x.c.nd.data.length x.k,.bool x.c.drop] := Ziz hx0
   have hgi : (tl.getD i (0,[])).1 = x.c.no := by rw [List.getD_eq_getElem?_getD,htl,List.getElem?_map,hget hx0]; rfl
   have hts : Zbm tl (i + 1) = (Zbm tl i || decide (x.c.no ∈ (l.take i).map (·.c.no))) := by rw [Zbm,hgi,hmn]
   obtain ⟨xb,xo,hxa⟩ := (hr.rd hS).base (by intro e; rw [e] at hxs; simp at hxs)
   rw [hxa] at hr ⊢;by_cases hq : x.c.no ∈ (l.take i).map (·.c.no)
   ·have hcc := fun w b cs T h1 h2 h3 => Zh6 (some ⟨xb,xo,none⟩) i c b l cs x.c.no T h1 w h2 h3 (by omega) hl
    rw [decide_eq_true hq] at hcc hts;have hone : Zfc cl n = 8 := by
     unfold Zfc
     rw [if_neg hany,if_pos];rw [htwC];cases hb : Zbm tl l.length
     ·exfalso
      have h1 := (Zd5 tl l.length (by omega)).1 hb
      have h2 := (Zd5 tl (i + 1) (by omega)).2 (h1.sublist ((List.take_sublist_take_left (by omega)).map _))
      rw [hts] at h2;simp at h2
     ·rfl
    rw [hone];repeat (first|refine Yea ?_|refine Yfr ?_|refine Yao (fun _ hS _ => ?_)|refine Yar (fun _ _ hS _ => ?_)|refine Yee ?_|refine Yab ?_)
    refine X_yl (Zap (l := 0) (h := i) rfl rfl rfl rfl (.inr ⟨_,_,rfl,by omega,by omega,by omega⟩) (.inl ⟨rfl,rfl⟩)) rfl rfl ?_
    rw [sub_zero];repeat (first|refine Yaa ?_|refine Ycg ?_)
    rename_i b8 _ _ _ _ _;refine Zad _ rfl rfl rfl rfl rfl hS (hcc _ b8 [.int .i64 x.c.no,.int .i64 x.c.nd.st.kind,.int .i64 x.c.nd.st.mode,.int .i64 x.c.nd.st.owner,.int .i64 x.c.nd.st.group,.slice x.a x.c.nd.data.length x.k,.bool x.c.drop] _ rfl (hr.rd hS) (hS.rd (List.mem_cons_self ..))) ?_
    rintro _ w rfl hS
    repeat (first|refine Yea ?_|refine Yag ?_|refine Yek ?_|refine Yey ?_)
    exact ⟨rfl,hS.drops⟩
   ·have hcc := fun w b cs T h1 h2 h3 => Zh6 (some ⟨xb,xo,none⟩) i c b l cs x.c.no T h1 w h2 h3 (by omega) hl
    rw [decide_eq_false hq] at hcc hts;repeat (first|refine Yea ?_|refine Yfr ?_|refine Yao (fun _ hS _ => ?_)|refine Yar (fun _ _ hS _ => ?_)|refine Yee ?_|refine Yab ?_)
    refine X_yl (Zap (l := 0) (h := i) rfl rfl rfl rfl (.inr ⟨_,_,rfl,by omega,by omega,by omega⟩) (.inl ⟨rfl,rfl⟩)) rfl rfl ?_
    rw [sub_zero];repeat (first|refine Yaa ?_|refine Ycg ?_)
    rename_i b8 _ _ _ _ _;refine Zad _ rfl rfl rfl rfl rfl hS (hcc _ b8 [.int .i64 x.c.no,.int .i64 x.c.nd.st.kind,.int .i64 x.c.nd.st.mode,.int .i64 x.c.nd.st.owner,.int .i64 x.c.nd.st.group,.slice x.a x.c.nd.data.length x.k,.bool x.c.drop] _ rfl (hr.rd hS) (hS.rd (List.mem_cons_self ..))) ?_
    rintro _ w rfl hS
    repeat (first|refine Yea ?_|refine Yef ?_|refine Yet ?_|refine Yei ?_)
    exact Zaf (i + 1) ⟨rfl,rfl,rfl,rfl,rfl,trivial⟩ ⟨by omega,by rw [hts,htw]; rfl,hS.drops⟩ (by omega)
  ·obtain rfl : i = l.length := by omega
   repeat (first|refine Yea ?_|refine Ya6 ?_|refine Yeq ?_|refine Yeg ?_)
   exact Zbp () ⟨rfl,rfl,trivial⟩ ⟨by rw [htwC]; exact htw,hS⟩
 clear hS;rintro _ w ⟨htw,hS⟩
 have hcc : Zfc cl n = badC cl := by unfold Zfc; rw [if_neg hany,if_neg (by simp [htw])]
 rw [hcc];repeat (first|refine Yea ?_|refine Yaf ?_|refine Yav ?_|refine Yed ?_|refine Yab ?_)
 refine Zal (α := Nat) (fun i => [(0,.pointer (some ⟨tp,0,none⟩)),(1,.slice a l.length c),(44,.slice a l.length c),(45,.int .i64 (l.length : Nat)),(46,.int .i64 (i : Nat))])
  (fun i w => i ≤ l.length ∧ badC cl = badC (cl.drop i) ∧ St W noF [] w) (fun i => l.length - i) 0 ⟨rfl,rfl,rfl,rfl,rfl,trivial⟩ ⟨Nat.zero_le _,rfl,hS⟩ ?_
 clear hS;rintro i w ⟨hi,hbe,hS⟩
 by_cases hlt : i < l.length
 ·have hx0 : l[i]? = some l[i] := List.getElem?_eq_getElem (by omega)
  generalize l[i] = x at hx0;have hr := hC.row
  have hxs : ((l.flatMap ChgA.cells).drop (i * 7)).take 7 = [.int .i64 x.c.no,.int .i64 x.c.nd.st.kind,.int .i64 x.c.nd.st.mode,.int .i64 x.c.nd.st.owner,.int .i64 x.c.nd.st.group,.slice x.a x.c.nd.data.length x.k,.bool x.c.drop] := Ziz hx0
  have hdr : cl.drop i = x.c :: cl.drop (i + 1) := (List.drop_eq_getElem?_toList_append (l := cl) (i := i)).trans (by rw [hget hx0]; rfl)
  obtain ⟨xb,xo,hxa⟩ := (hr.rd hS).base (by intro e; rw [e] at hxs; simp at hxs)
  rw [hxa] at hr ⊢;cases hdp : x.c.drop
  ·have hb2 : badC cl = if ¬ x.c.nd.st.check = 0 then x.c.nd.st.check else if 512 < x.c.nd.data.length then 2 else badC (cl.drop (i + 1)) := by rw [hbe,hdr,badC,if_neg (by simp [hdp])]
   rw [hdp] at hxs;have hck := Zr3 x.c.nd.st
   by_cases hst : x.c.nd.st.check = 0
   ·rw [if_neg (by simp [hst])] at hb2
    rw [hst] at hck;by_cases h5 : 512 < x.c.nd.data.length
    ·rw [hb2,if_pos h5]
     repeat (first|refine Yea ?_|(refine X_id ?_;first|(refine Zad 161 rfl rfl rfl rfl rfl hS (hck _) ?_;rintro _ _ rfl hS)|refine Yaf ?_|refine Yag ?_|refine Yan ?_|refine Yby ?_|refine Yav ?_|refine Ya4 ?_|refine Ya2 ?_|refine Ybx ?_|refine Ybc ?_|refine Yap ?_|refine Ybg ?_|refine Ybp ?_|refine Yao (fun _ hS _ => ?_)|refine Yar (fun _ _ hS _ => ?_))|refine Ye3 ?_|refine Yey ?_)
     exact ⟨rfl,hS.drops⟩
    ·rw [if_neg h5] at hb2
     repeat (first|refine Yea ?_|(refine X_id ?_;first|(refine Zad 161 rfl rfl rfl rfl rfl hS (hck _) ?_;rintro _ _ rfl hS)|refine Yaf ?_|refine Yag ?_|refine Yan ?_|refine Yby ?_|refine Yav ?_|refine Ya4 ?_|refine Ya2 ?_|refine Ybs ?_|refine Ybc ?_|refine Ya0 ?_|refine Yap ?_|refine Ybg ?_|refine Ybp ?_|refine Yao (fun _ hS _ => ?_)|refine Yar (fun _ _ hS _ => ?_))|refine Yeh ?_|refine Yei ?_)
     exact Zaf (i + 1) ⟨rfl,rfl,rfl,rfl,rfl,trivial⟩ ⟨by omega,hb2,hS.drops⟩ (by omega)
   ·rw [if_pos hst] at hb2
    rw [hb2];repeat (first|refine Yea ?_|(refine X_id ?_;first|(refine Zad 161 rfl rfl rfl rfl rfl hS (hck _) ?_;rintro _ _ rfl hS)|refine Yaf ?_|refine Yag ?_|refine Yan ?_|refine Yby ?_|refine Ybj ?_|refine Ya2 ?_|refine Ybc ?_|refine Yap ?_|refine Ybg ?_|refine Ybp ?_|refine Yao (fun _ hS _ => ?_)|refine Yar (fun _ _ hS _ => ?_))|refine Ye3 ?_|refine Yey ?_)
    exact ⟨rfl,hS.drops⟩
  ·have hb2 : badC cl = badC (cl.drop (i + 1)) := by rw [hbe,hdr,badC,if_pos hdp]
   rw [hdp] at hxs;repeat (first|refine Yea ?_|(refine X_id ?_;first|refine Yaf ?_|refine Yan ?_|refine Ya2 ?_|refine Ybc ?_|refine Ya0 ?_|refine Yap ?_|refine Ybp ?_|refine Yao (fun _ hS _ => ?_)|refine Yar (fun _ _ hS _ => ?_))|refine Yae ?_|refine Yad ?_|refine Yal ?_|refine Yak ?_|refine Ya9 ?_|refine Yaj ?_|refine Yeg ?_)
   exact Zaf (i + 1) ⟨rfl,rfl,rfl,rfl,rfl,trivial⟩ ⟨by omega,hb2,hS.drops⟩ (by omega)
 ·obtain rfl : i = l.length := by omega
  have hb2 : badC cl = 0 := by rw [hbe,List.drop_eq_nil_of_le (by omega)]; rfl
  rw [hb2];repeat (first|refine Yea ?_|refine Yag ?_|refine Ya6 ?_|refine Yej ?_|refine Yfe ?_)
  exact ⟨rfl,hS⟩
theorem Zq9 {P : Program} {o : Oper} {σ : Env} {w : World} {x : Operand} {t xT k e : TypeId} {v : Value} (ho : o.op = .typeAssert x xT t false) (hx : ev σ x = some (.iface t v)) [h : Und P t (.map k e)] : Yl P o σ w v := ⟨fun N ds f ha => by
 have := run_typeAssert_map_sl (P := P) w t xT k e v h.und
 simp [execOp,ho,ha.eval hx,this]⟩
instance : EClone Tryz.prog 212 := ⟨fun {t r es clock w} hb => by
 rw [run_callFunc_extern Tryz.func212 (by kernel_rfl) (by kernel_rfl) (by kernel_rfl) (e := Extern.MapsClone.clone) (by kernel_rfl),run_maps_clone_sl w t hb]
 rfl⟩
theorem Z2z (r : Nat) (L : List (Int × Value)) (W : World) (h : Rd W (mapq (Value.int .i64) r L)) :
  Calls Tryz.prog 147 #[.map (some r)] W (Ret fun v w => ∃ r2,v = .map (some r2) ∧ St W noF [mapq (Value.int .i64) r2 L] w) := by
 obtain ⟨es,clock,hes,hst,hmp⟩ := h.openMap
 have hb := hmp.pts
 have hS := St.start W
 refine Zab Tryz.func147 rfl Tryz.ntmps147 rfl ?_
 repeat (first|refine Yea ?_|refine Yen ?_|refine Yeb ?_|refine Yab ?_)
 refine X_yl (Zq6 rfl rfl rfl) rfl rfl ?_
 repeat (first|refine Yea ?_|refine Yaf ?_|refine Yem ?_|refine Yab ?_)
 refine X_yl (Zq3 rfl rfl (fun w => by simp [Instr.makeInterface,run_underlying Tryz.underlying186])) rfl rfl ?_
 repeat (first|refine Yaa ?_)
 refine Zow rfl rfl rfl (EClone.run hb) rfl rfl ?_
 have hS := (hS.alloc (.map es clock)).head fun h hh => (⟨es,clock,hes,hst,hh⟩ : mapq (Value.int .i64) W.heap.size L h)
 repeat (first|refine Yaa ?_)
 refine X_yl (Zq9 rfl rfl) rfl rfl ?_
 repeat (first|refine Yea ?_|refine Yag ?_|refine Yah ?_|refine Yec ?_)
 exact ⟨_,rfl,hS⟩
abbrev putW (no : Int) (q : Nat) (s : List UInt8) : Wr := ⟨no,⟨some ⟨q,0,none⟩,64,Zc9 s⟩⟩
theorem put_ (t10 : Nat) (aw : Option Addr) (cw : Nat) (ws : List Wr) (no : Int) (ba : Option Addr) (bc : Nat) (s : List UInt8) (W : World) (F : Nat → Prop) (hb : Ro W F (bytes ba s)) (hcw : ws.length ≤ cw) (hl : ws.length ≤ 1048576)
  (hS : St W F [pts t10 (.cells #[.slice aw ws.length cw] 267),own 185 2 aw cw (ws.flatMap Wr.cells)] W) :
  Calls Tryz.prog 149 #[.int .i64 no,.slice ba s.length bc,.pointer (some ⟨t10,0,none⟩)] W (Ret fun v w => v = .tuple #[] ∧ ∃ aw' cw' q,ws.length + 1 ≤ cw' ∧
   St W F [pts t10 (.cells #[.slice aw' (ws.length + 1) cw'] 267),own 185 2 aw' cw' ((ws ++ [putW no q s]).flatMap Wr.cells),bytes (some ⟨q,0,none⟩) (Zc9 s)] w) := by
 refine Zab Tryz.func149 rfl Tryz.ntmps149 rfl ?_
 repeat (first|fail)
 refine Zam (.s 0 (.s 1 (.s 2 (.h 3 (.s 4 (.h 5 (.h 6 (.h 7 .nil .no) .no) .no)) .no)))) mixed (by kernel_rfl) rfl ?_
 have hS := hS.drew
 repeat (first|(refine Zae ?_;first|refine Ya3 ?_|refine Ybk ?_|refine Yas ?_))
 refine Zaa _ rfl rfl rfl rfl rfl (Zoc ba bc s _ (hb.rd hS)) ?_
 rintro _ w ⟨q,rfl,hS'⟩
 replace hS := hS.plus hS';clear hS';repeat (first|refine Ybn (fun _ _ hS _ => ?_)|(refine Zae ?_;first|refine Yb8 ?_|refine Yas ?_)|(refine Zac ?_;first|refine Yaz ?_))
 refine Zar (n := ws.length) (m := 1) rfl rfl rfl rfl rfl hS (by rw [Z36]) hcw ((hS.rd (List.mem_cons_self ..)).own_row) (by simp) (by simp [Value.oneCell']) (by omega) (by simp only [maxLen]; omega) (fun a' c' w hS hc' _ => ?_)
 repeat (first|refine Yao (fun _ hS _ => ?_)|refine Ybt ?_|(refine Zae ?_;first|refine Yfl ?_)|(refine Zac ?_;first|refine Yaz ?_))
 refine ⟨rfl,a',c',q,hc',?_⟩
 rw [List.flatMap_append];have h := hS.took (out := [pts t10 (.cells #[.slice a' (ws.length + 1) c'] 267),own 185 2 a' c' (ws.flatMap Wr.cells ++ [.int .i64 no,.slice (some ⟨q,0,none⟩) 64 64]),bytes (some ⟨q,0,none⟩) (Zc9 s)])
 have e : (List.flatMap Wr.cells [putW no q s]) = [.int .i64 no,.slice (some ⟨q,0,none⟩) 64 64] := by simp [Wr.cells,Zbw]
 rw [e];exact h
def Zix (A : AV) (l : List Chg) : AV := l.foldl (fun A c => delA c.no A) A
theorem Zvj {A : AV} {l : List Chg} {i : Nat} {c : Chg} (h : l[i]? = some c) : Zix A (l.take (i + 1)) = delA c.no (Zix A (l.take i)) := by
 unfold Zix
 rw [List.take_add_one,h];simp
theorem Zmw : ∀ (l : List Chg) (A : AV),AV.ents (Zix A l) = Zey A.ents l
 | [],_ => rfl
 | c :: l,A => by
  have ih := Zmw l (delA c.no A)
  have e : Zix A (c :: l) = Zix (delA c.no A) l := rfl
  have e2 : Zey A.ents (c :: l) = Zey (delA c.no A.ents) l := rfl
  rw [e,e2,ih]
  congr 1
  exact (Zt5 SV.s).symm
theorem Zqr : ∀ (l : List Chg) (A : AV),(Zix A l).Sublist A
 | [],_ => List.Sublist.refl _
 | c :: l,A => (Zqr l (delA c.no A)).trans delA_sub
theorem Zs9 (n : Nat) : ∀ (l : List Chg) (z : ApS) (c : Chg),z.run n (l ++ [c]) = (z.run n l).bind fun z => z.step n c
 | [],z,c => by simp [ApS.run]
 | x :: l,z,c => by
  simp only [List.cons_append,ApS.run]
  cases z.step n x with
  | none => rfl
  | some z2 => exact Zs9 n l z2 c
theorem Zta (n : Nat) : ∀ (l m : List Chg) (z : ApS),z.run n l = none → z.run n (l ++ m) = none
 | [],_,_,h => by cases h
 | x :: l,m,z,h => by
  simp only [List.cons_append,ApS.run] at h ⊢
  cases hs : z.step n x with
  | none => rfl
  | some z2 =>
   rw [hs] at h;exact Zta n l m z2 h
structure ApZ where
 i : Nat
 A : AV
 fa : Option Addr
 fc : Nat
 fl : List Int
 aw : Option Addr
 cw : Nat
 ws : List Wr
 X : List RowD
structure ApI (A0 : AV) (n nb : Nat) (cl : List Chg) (z : ApZ) : Prop where
 hi : z.i ≤ cl.length
 run : (ApS.start A0.ents nb cl).run n (cl.take z.i) = some ⟨z.A.ents,z.fl,z.ws.map Wr.data⟩
 fX : (z.fa,ints .i64 z.fl) ∈ z.X
 fcap : z.fl.length ≤ z.fc
 wcap : z.ws.length ≤ z.cw
 wX : ∀ v ∈ z.ws,(v.x.a,bv v.x.s) ∈ z.X
 aX : ∀ x ∈ z.A,x ∈ A0 ∨ ((x.2.da,bv x.2.s.nd.data) ∈ z.X ∧ (x.2.ba,ints .i64 x.2.s.blocks) ∈ z.X)
 wl : z.ws.length ≤ 9 * z.i
 flow : ∀ b ∈ z.fl,0 ≤ b ∧ b < nb
theorem Z3v {P : Program} {o : Oper} {σ : Env} {w : World} {x y : Operand} {ts : Array TypeId} {a b : Int} (ho : o.op = .call { callee := .builtin .min,args := #[x,y],argTypes := ts }) (hx : ev σ x = some (.int .i64 a)) (hy : ev σ y = some (.int .i64 b)) : Yl P o σ w (.int .i64 (min a b)) := ⟨fun N ds f ha => by
 simp [execOp,ho,resolve,invoke,builtin,ha.eval hx,ha.eval hy,Builtin.min_,Builtin.min2]
 split <;> omega⟩
theorem Z2p (t10 : Nat) (aw : Option Addr) (cw : Nat) (ws : List Wr) (no : Int) (ba : Option Addr) (bn bc : Nat) (s : List UInt8) (W : World) (F : Nat → Prop) (hb : Ro W F (bytes ba s)) (hn : s.length = bn) (hcw : ws.length ≤ cw) (hl : ws.length ≤ 1048576)
  (hS : St W F [pts t10 (.cells #[.slice aw ws.length cw] 267),own 185 2 aw cw (ws.flatMap Wr.cells)] W) :
  Calls Tryz.prog 149 #[.int .i64 no,.slice ba bn bc,.pointer (some ⟨t10,0,none⟩)] W (Ret fun v w => v = .tuple #[] ∧ ∃ aw' cw' q,ws.length + 1 ≤ cw' ∧
   St W F [pts t10 (.cells #[.slice aw' (ws.length + 1) cw'] 267),own 185 2 aw' cw' ((ws ++ [putW no q s]).flatMap Wr.cells),bytes (some ⟨q,0,none⟩) (Zc9 s)] w) := by
 subst hn
 exact put_ t10 aw cw ws no ba bc s W F hb hcw hl hS
theorem Zoi (d : List UInt8) (i h : Nat) (hh : h = min (64 * (i + 1)) d.length) : Zc9 ((d.drop (64 * i)).take (h - 64 * i)) = Zgy d i := by
 unfold Zgy
 congr 1
 subst hh
 by_cases h1 : 64 * (i + 1) ≤ d.length
 ·rw [Nat.min_eq_left h1,show 64 * (i + 1) - 64 * i = 64 by omega]
 ·rw [Nat.min_eq_right (by omega),List.take_of_length_le (by rw [List.length_drop]; exact Nat.le_refl _),List.take_of_length_le (by rw [List.length_drop]; omega)]
theorem Zsg {n : Nat} {bs : List Int} {d : List UInt8} {i : Nat} {b : Int} (h : bs[i]? = some b) : (Zco n bs d).take (i + 1) = (Zco n bs d).take i ++ [(1 + (n : Int) + b,Zgy d i)] := by
 have hi := (List.getElem?_eq_some_iff.1 h).1
 rw [List.take_add_one]
 congr 1
 unfold Zco
 rw [List.getElem?_map,List.getElem?_range hi];simp [List.getD_eq_getElem?_getD,h]
theorem Zzh {a : Option Addr} {cs : List Value} (k : Nat) : ∀ h,row a cs h → ∃ h',row a (cs.take k) h' ∧ ∀ b o,h' b = some o → h b = some o := fun h hh => by
 have := Zns (a := a) (cs := cs) (cs' := cs.take k) (l := 0) (e := 1) (c := 1) (fun j v hv => by
  rw [List.getElem?_take] at hv
  split at hv
  ·simpa using hv
  ·cases hv) (by omega) h hh
 rwa [sub_zero] at this
theorem Zzi {a : Option Addr} {cs : List Value} {k c : Nat} (hc : cs.length ≤ c) (hk : k ≤ cs.length) : ∀ h,row a cs h → ∃ h',row (sub a k 1 c) (cs.drop k) h' ∧ ∀ b o,h' b = some o → h b = some o :=
 Zns (fun j v hv => by rw [List.getElem?_drop] at hv; rw [Nat.mul_one]; exact hv) (fun e => List.drop_eq_nil_of_le (by omega))
theorem Ztn {β : Type} {k : Int} {v : β} {y : Int × β} : ∀ {A : List (Int × β)},y ∈ setA k v A → y = (k,v) ∨ y ∈ A
 | [],h => by simp [setA] at h; exact .inl h
 | x :: A,h => by
  unfold setA at h
  split at h
  ·rcases List.mem_cons.1 h with h | h
   ·exact .inl h
   ·exact .inr (List.mem_cons_of_mem _ h)
  ·rcases List.mem_cons.1 h with h | h
   ·exact .inr (h ▸ List.mem_cons_self ..)
   ·exact (Ztn h).imp id (List.mem_cons_of_mem _)
theorem Zoa {s : List UInt8} (h : s.length = 64) : Zc9 s = s := by rw [Z0i (by omega),h]; simp
structure BlI (n : Nat) (bs : List Int) (d : List UInt8) (ws : List Wr) (X : List RowD) (i cw' : Nat) (ws' : List Wr) (X' : List RowD) : Prop where
 data : ws'.map Wr.data = ws.map Wr.data ++ (Zco n bs d).take i
 cap : ws'.length ≤ cw'
 wX : ∀ v ∈ ws',(v.x.a,bv v.x.s) ∈ X'
 sub : ∀ r ∈ X,r ∈ X'
theorem BlI.len {n : Nat} {bs : List Int} {d : List UInt8} {ws : List Wr} {X : List RowD} {i cw' : Nat} {ws' : List Wr} {X' : List RowD} (h : BlI n bs d ws X i cw' ws' X') (hi : i ≤ bs.length) : ws'.length = ws.length + i := by
 have := congrArg List.length h.data
 simp only [List.length_map,List.length_append,List.length_take,Zco,List.length_range] at this
 omega
section
variable {rd fs : List Int} {tp lp p j m n nb : Nat} {T : Tb}
theorem Z2m {dat : List (List UInt8)} : ∀ h,qlog lp p j m dat h → qlog lp p j (m + 1) dat h := fun h ⟨D,done,hq,hs⟩ => ⟨D,done,⟨hq.q,hq.line,hq.d0,by have := hq.dm; omega,hq.jl,hq.at_⟩,hs⟩
theorem Zr7 : ∀ h,itab rd fs tp lp p j m n nb T h → itab rd fs tp lp p j (m + 1) n nb T h := fun _ ⟨r,A,dat,hok,hs⟩ =>
 ⟨r,A,dat,hok,Sep.mono_tail (fun _ h => Sep.mono_tail (fun _ h => Sep.mono_tail (fun _ h => Sep.mono_head Z2m h) h) h) hs⟩
theorem Z54 (a : Option Addr) (c : Nat) (l : List ChgA) (W : World) (F : Nat → Prop) (hG : Gl W F rd fs) (hC : Chgs W F a l) (hl : l.length ≤ 1000) (hlc : l.length ≤ c) (hm : (m : Int) < last) (hS : St W F [itab rd fs tp lp p j m n nb T] W) :
  Calls Tryz.prog 87 #[.pointer (some ⟨tp,0,none⟩),.slice a l.length c] W (Ret fun v w => v = .int .i64 (Zjh T nb (j / 2) (l.map ChgA.c)).1 ∧ St W F [itab rd fs tp lp p j (m + 1) n nb (Zjh T nb (j / 2) (l.map ChgA.c)).2] w) := by
 obtain ⟨r,A,dat,hok,hS⟩ := hS.openItab
 have hE := hok.enc
 have htl := hok.tlen
 have hn4 := hok.n4
 obtain ⟨cl,hcl⟩ : ∃ cl,cl = l.map ChgA.c := ⟨_,rfl⟩
 have hcll : cl.length = l.length := by rw [hcl]; simp
 have hget : ∀ {i : Nat} {x : ChgA},l[i]? = some x → cl[i]? = some x.c := fun {i x} h => by rw [hcl]; simp [h]
 rw [← hcl];obtain ⟨F2,hS2,hro,hw,hbk⟩ := hS.call []
 clear hS;have hS := hS2
 clear hS2;have hTo := hro (Zij tp lp n r) (by simp)
 have hmo := hro (mapq (Value.int .i64) r A.vals) (by simp)
 have hbo := hro (bag A.rows) (by simp)
 have hqo := hro (qlog lp p j m dat) (by simp)
 have hC2 := hC.mono hw
 have hG2 := hG.mono hw
 have hql := (qlen (hqo.rd hS)).1
 have hdl := hE.len
 have hc := hTo
 have hC0 : ∀ w rs,St W F2 rs w → Chgs w noF a l := fun w rs h => ⟨(hC2.row.rd h).ro,fun x hx => ((hC2.all x hx).rd h).ro⟩
 have hck := fun w rs (h : St W F2 rs w) => Z3k tp lp n r a c l w (hTo.rd h) (hC0 w rs h) (by omega) hlc (by omega)
 rw [← hcl] at hck;by_cases h0 : Zfc cl n = 0
 ·have hR := Zzl h0
  have hap : Zjh T nb (j / 2) cl = putT T nb (j / 2) cl := by unfold Zjh; rw [htl,if_neg (by simp [h0])]
  rw [hap];rw [h0] at hck;have hlaw := Zx4 hE hR
  rw [hok.tab] at hlaw;refine Zab Tryz.func87 rfl Tryz.ntmps87 rfl ?_
  repeat (first|refine Yea ?_|refine Yaf ?_|refine Yag ?_|refine Ybu ?_|refine Yem ?_|refine Yab ?_)
  refine Zad _ rfl rfl rfl rfl rfl hS (hck _ _ hS) ?_
  rintro _ w rfl hS
  repeat (first|refine Yea ?_|(refine X_id ?_;first|refine Yaf ?_|refine Yag ?_|refine Yau ?_|refine Yan ?_|refine Ya4 ?_|refine Yca ?_)|refine Yem ?_|refine Yab ?_)
  refine Zaa _ rfl rfl rfl rfl rfl (Z2z r A.vals _ (hmo.rd hS)) ?_
  rintro _ w ⟨r2,rfl,hS'⟩
  replace hS := hS.plus hS';clear hS';repeat (first|refine Yea ?_|refine Yfj ?_|refine Yed ?_|refine Yab ?_)
  refine Zbz (α := Unit) (fun _ => [(0,.pointer (some ⟨tp,0,none⟩)),(1,.slice a l.length c),(6,.map (some r2))]) (fun _ w => St W F2 [mapq (Value.int .i64) r2 (AV.vals (Zix A cl))] w) ?_ ?_
  ·refine Zal (α := Nat) (fun i => [(0,.pointer (some ⟨tp,0,none⟩)),(1,.slice a l.length c),(6,.map (some r2)),(32,.slice a l.length c),(33,.int .i64 (l.length : Nat)),(34,.int .i64 (i : Nat))])
    (fun i w => i ≤ l.length ∧ St W F2 [mapq (Value.int .i64) r2 (AV.vals (Zix A (cl.take i)))] w) (fun i => l.length - i) 0 ⟨rfl,rfl,rfl,rfl,rfl,rfl,trivial⟩ ⟨Nat.zero_le _,hS⟩ ?_
   clear hS;rintro i w ⟨hi,hS⟩
   by_cases hlt : i < l.length
   ·have hx0 : l[i]? = some l[i] := List.getElem?_eq_getElem (by omega)
    generalize l[i] = x at hx0;have hr := hC2.row
    have hxs : ((l.flatMap ChgA.cells).drop (i * 7)).take 7 = [.int .i64 x.c.no,.int .i64 x.c.nd.st.kind,.int .i64 x.c.nd.st.mode,.int .i64 x.c.nd.st.owner,.int .i64 x.c.nd.st.group,.slice x.a x.c.nd.data.length x.k,.bool x.c.drop] := Ziz hx0
    obtain ⟨xb,xo,hxa⟩ := (hr.rd hS).base (by intro e; rw [e] at hxs; simp at hxs)
    rw [hxa] at hr ⊢;repeat (first|refine Yea ?_|(refine X_id ?_;first|refine Yaf ?_|refine Yan ?_|refine Ya2 ?_|refine Ybc ?_|refine Yap ?_|refine Ybp ?_|refine Yao (fun _ hS _ => ?_)|refine Yar (fun _ _ hS _ => ?_))|refine Yee ?_|refine Yab ?_)
    have hS := hS.pick [1,0]
    refine Zgf (mk := Value.int .i64) (k := x.c.no) rfl rfl rfl rfl hS (fun w hS => ?_)
    repeat (first|refine Yea ?_|refine Yef ?_|refine Yad ?_|refine Yei ?_)
    refine Zaf (i + 1) ⟨rfl,rfl,rfl,rfl,rfl,rfl,trivial⟩ ⟨by omega,?_⟩ (by omega)
    rw [Zvj (hget hx0),← Z1o];exact hS.pick [0]
   ·obtain rfl : i = l.length := by omega
    rw [List.take_of_length_le (by omega)] at hS;repeat (first|refine Yea ?_|refine Ya6 ?_|refine Yeq ?_|refine Yeg ?_)
    exact Zbp () ⟨rfl,rfl,rfl,trivial⟩ hS
  clear hS;rintro _ w hS
  have hsub := Zqr cl A
  have hents := Zmw cl A
  repeat (first|refine Yaa ?_|refine Yaf ?_|refine Yeb ?_)
  refine Zaa _ rfl rfl rfl rfl rfl (Z7a tp lp n r r2 p j m nb (Zix A cl) dat _ (hTo.rd hS) (hqo.rd hS) hE.len (hS.rd (List.mem_cons_self ..)) (fun x hx => (hbo.rd hS).bag (AV.row_b (hsub.mem hx))) (fun x hx => by
   have h1 := (hE.ok _ (AV.mem_ents (hsub.mem hx))).cnt
   have h2 := Zwx (hE.ok _ (AV.mem_ents (hsub.mem hx))).len
   simp only at h1 h2
   omega) ((by rw [← Zp7]; exact hE.nodup : (Zaw A).Nodup).sublist (hsub.map _))) ?_
  rintro _ w ⟨fa,fc,rfl,hfc,hS'⟩
  replace hS := (hS.plus hS').toBag Zgl
  clear hS';repeat (first|refine Yea ?_|(refine X_id ?_;first|refine Yaf ?_|refine Yag ?_|refine Yav ?_|refine Ycg ?_|refine Yar (fun _ _ hS _ => ?_))|refine Yed ?_|refine Yab ?_)
  rename_i t10 _ _;have hS := hS.own_none 185 2 none
  have hS := hS.pick [1,0,0,0]
  obtain ⟨z0,hz0⟩ : ∃ z0 : ApZ,z0 = ⟨0,Zix A cl,fa,fc,Zg8 (AV.ents (Zix A cl)) nb,none,0,[],[(fa,ints .i64 (Zg8 (AV.ents (Zix A cl)) nb))]⟩ := ⟨_,rfl⟩
  have hI0 : ApI A n nb cl z0 := by
   subst hz0
   refine ⟨Nat.zero_le _,?_,List.mem_singleton.2 rfl,hfc,Nat.le_refl _,fun v hv => (by cases hv),fun x hx => .inl (hsub.mem hx),Nat.le_refl _,fun b hb => (freeL_mem.1 hb).1⟩
   simp only [List.take_zero,ApS.run,ApS.start,hents]
   rfl
  have hbound : ∀ z,ApI A n nb cl z → z.ws.length ≤ 9000 := fun z hz => by have h1 := hz.wl; have h2 := hz.hi; omega
  refine Zbz (α := ApZ) (fun z => [(0,.pointer (some ⟨tp,0,none⟩)),(6,.map (some r2)),(10,.pointer (some ⟨t10,0,none⟩))]) (fun z w => (z.i = cl.length ∧ ApI A n nb cl z) ∧ St W F2 [pts t10 (.cells #[.slice z.aw z.ws.length z.cw] 267),own 185 2 z.aw z.cw (z.ws.flatMap Wr.cells),bag z.X,mapq (Value.int .i64) r2 (AV.vals z.A)] w) ?_ ?_
  ·refine Zal (α := ApZ) (fun z => [(0,.pointer (some ⟨tp,0,none⟩)),(6,.map (some r2)),(9,.slice z.fa z.fl.length z.fc),(10,.pointer (some ⟨t10,0,none⟩)),(11,.func (.func 149) #[] #[.pointer (some ⟨t10,0,none⟩)]),(46,.slice a l.length c),(47,.int .i64 (l.length : Nat)),(48,.int .i64 (z.i : Nat))])
    (fun z w => ApI A n nb cl z ∧ St W F2 [pts t10 (.cells #[.slice z.aw z.ws.length z.cw] 267),own 185 2 z.aw z.cw (z.ws.flatMap Wr.cells),bag z.X,mapq (Value.int .i64) r2 (AV.vals z.A)] w) (fun z => l.length - z.i) z0 (by subst hz0; exact ⟨rfl,rfl,rfl,rfl,rfl,rfl,rfl,rfl,trivial⟩) (by subst hz0; exact ⟨hI0,hS⟩) ?_
   clear hS hI0 hz0;rintro ⟨i,Az,fa,fc,fl,aw,cw,ws,X⟩ w ⟨hI,hS⟩
   have hwl := hbound _ hI
   have hii := hI.hi
   have hfcap := hI.fcap
   have hwcap := hI.wcap
   simp only at hS hwl hii hfcap hwcap ⊢
   by_cases hlt : i < l.length
   ·have hx0 : l[i]? = some l[i] := List.getElem?_eq_getElem (by omega)
    generalize l[i] = x at hx0;have hgx := hget hx0
    have hr := hC2.row
    have hxs : ((l.flatMap ChgA.cells).drop (i * 7)).take 7 = [.int .i64 x.c.no,.int .i64 x.c.nd.st.kind,.int .i64 x.c.nd.st.mode,.int .i64 x.c.nd.st.owner,.int .i64 x.c.nd.st.group,.slice x.a x.c.nd.data.length x.k,.bool x.c.drop] := Ziz hx0
    have hlow := hR.low _ (List.mem_of_getElem? hgx)
    have hrun : (ApS.start A.ents nb cl).run n (cl.take (i + 1)) = ApS.step n ⟨AV.ents Az,fl,ws.map Wr.data⟩ x.c := by
     rw [List.take_add_one,hgx];show (ApS.start A.ents nb cl).run n (cl.take i ++ [x.c]) = _
     rw [Zs9,hI.run]
     rfl
    obtain ⟨xb,xo,hxa⟩ := (hr.rd hS).base (by intro e; rw [e] at hxs; simp at hxs)
    rw [hxa] at hr ⊢;cases hdp : x.c.drop
    ·rw [hdp] at hxs
     have hokc := hR.ok _ (List.mem_of_getElem? hgx) hdp
     have hb8 := Zwx hokc.2
     have hokl := hokc.2
     have hdata := hC2.all x (List.mem_of_getElem? hx0)
     by_cases hk : fl.length < nblk x.c.nd.data.length
     ·have hnone : ApS.step n ⟨AV.ents Az,fl,ws.map Wr.data⟩ x.c = none := by unfold ApS.step; rw [if_neg (by simp [hdp]),if_pos hk]
      have hall : (ApS.start A.ents nb cl).run n cl = none := by
       have := Zta n (cl.take (i + 1)) (cl.drop (i + 1)) _ (hrun.trans hnone)
       rwa [List.take_append_drop] at this
      have hbad : (runT T nb cl).2.2 = true := by
       rcases hlaw with ⟨_,h⟩ | ⟨z,h1,_⟩
       ·exact h
       ·rw [hall] at h1; cases h1
      have hp : putT T nb (j / 2) cl = (6,T) := by unfold putT; rw [if_pos hbad]
      rw [hp];repeat (first|refine Yea ?_|(refine X_id ?_;first|(refine Zaa 150 rfl rfl rfl rfl rfl (Ztx _ _ (by omega)) ?_;rintro _ _ ⟨rfl,rfl⟩)|refine Yaf ?_|refine Yag ?_|refine Yan ?_|refine Yby ?_|refine Yav ?_|refine Ya2 ?_|refine Ybx ?_|refine Ybc ?_|refine Yap ?_|refine Ybp ?_|refine Yao (fun _ hS _ => ?_)|refine Yar (fun _ _ hS _ => ?_))|refine Ye3 ?_|refine Yey ?_)
      exact ⟨rfl,((hbk hS.drops).shutItab hok).head Zr7⟩
     ·obtain ⟨bs,hbs⟩ : ∃ bs,bs = fl.take (nblk x.c.nd.data.length) := ⟨_,rfl⟩
      have hbsl : bs.length = nblk x.c.nd.data.length := by rw [hbs,List.length_take]; omega
      have hbfl : bs.length ≤ fl.length := by omega
      have hbst : bs = fl.take bs.length := by rw [hbsl]; exact hbs
      have hstep : ApS.step n ⟨AV.ents Az,fl,ws.map Wr.data⟩ x.c = some ⟨setA x.c.no ⟨x.c.nd,bs⟩ (AV.ents Az),fl.drop bs.length,ws.map Wr.data ++ (Zco n bs x.c.nd.data ++ [(1 + x.c.no,stoB ⟨x.c.nd,bs⟩)])⟩ := by
       unfold ApS.step
       rw [if_neg (by simp [hdp]),if_neg hk,← hbs,← hbsl]
      have hib : ∀ w,Calls Tryz.prog 150 #[.int .i64 (x.c.nd.data.length : Nat)] w (Ret fun v w' => v = .int .i64 (bs.length : Nat) ∧ w = w') := fun w => by rw [hbsl]; exact Ztx _ _ (by omega)
      repeat (first|refine Yea ?_|(refine X_id ?_;first|(refine Zaa 150 rfl rfl rfl rfl rfl (hib _) ?_;rintro _ _ ⟨rfl,rfl⟩)|refine Yaf ?_|refine Yag ?_|refine Yan ?_|refine Yby ?_|refine Yav ?_|refine Ya2 ?_|refine Ybs ?_|refine Ybc ?_|refine Yap ?_|refine Ybp ?_|refine Yao (fun _ hS _ => ?_)|refine Yar (fun _ _ hS _ => ?_))|refine Yeh ?_|refine Yab ?_)
      rename_i t13 _ _ _ _ _;refine Zre (α := Nat × Option Addr × Nat) (fun y => [(0,.pointer (some ⟨tp,0,none⟩)),(6,.map (some r2)),(9,.slice fa fl.length fc),(10,.pointer (some ⟨t10,0,none⟩)),(11,.func (.func 149) #[] #[.pointer (some ⟨t10,0,none⟩)]),(13,.pointer (some ⟨t13,0,none⟩)),(14,.int .i64 (bs.length : Nat)),(15,.pointer (some ⟨y.1,0,none⟩)),(46,.slice (some ⟨xb,xo,none⟩) l.length c),(47,.int .i64 (l.length : Nat)),(48,.int .i64 (i : Nat))])
       (fun y w => x.c.nd.data.length ≤ y.2.2 ∧ St W F2 [pts y.1 (.cells (stoV ⟨x.c.nd,bs⟩ y.2.1 y.2.2 fa bs.length).toArray 281),own 5 1 y.2.1 y.2.2 (bv x.c.nd.data),pts t13 (.cells (List.toArray [.int .i64 x.c.no,.int .i64 x.c.nd.st.kind,.int .i64 x.c.nd.st.mode,.int .i64 x.c.nd.st.owner,.int .i64 x.c.nd.st.group,.slice x.a x.c.nd.data.length x.k,.bool false]) 193),
        pts t10 (.cells #[.slice aw ws.length cw] 267),own 185 2 aw cw (ws.flatMap Wr.cells),bag X,mapq (Value.int .i64) r2 (AV.vals Az)] w) ?_ ?_
      ·skip
       refine Zam (.s 0 (.s 1 (.s 2 (.s 3 (.s 4 (.s 5 (.s 8 (.s 9 (.s 10 (.s 11 (.h 6 (.s 7 (.s 12 (.h 13 (.h 14 .nil .no) .no))) (.h 13 (.h 6 (.s 7 (.s 12 (.h 14 .nil .no))) .no) .no)))))))))))) mixed (by kernel_rfl) rfl ?_
       have hS := hS.drew
       repeat (first|(refine Zae ?_;first|refine Ya3 ?_|refine Ybe ?_|refine Yc9 ?_|refine Ybk ?_|refine Yb1 ?_))
       refine Zak rfl rfl (fun _ => Zli (l := 0) (h := bs.length) (k := bs.length) rfl rfl rfl rfl rfl ⟨_,_,rfl,by omega,by omega,by omega⟩ ⟨_,_,rfl,by omega,by omega,by omega⟩ (.inl ⟨rfl,rfl⟩)) rfl rfl ?_
       rw [sub_zero,Nat.sub_zero];refine Zfg ?_ ?_
       ·repeat (first|(refine Zae ?_;first|refine Yas ?_))
        refine Zaa _ rfl rfl rfl rfl rfl (Zeo x.a x.c.nd.data.length x.k x.c.nd.data _ (hdata.rd hS) rfl (by omega)) ?_
        rintro _ w ⟨da,dc,rfl,_,hdc,hS'⟩
        replace hS := hS.plus hS';clear hS';repeat (first|refine Yao (fun _ hS _ => ?_)|refine Yar (fun _ _ hS _ => ?_)|(refine Zae ?_;first|refine Yay ?_|refine Yb8 ?_|refine Yas ?_)|(refine Zac ?_;first|refine Yaz ?_))
        rename_i t15 _ _ _ _ _;exact Zbp (t15,da,dc) ⟨rfl,rfl,rfl,rfl,rfl,rfl,rfl,rfl,rfl,rfl,rfl,trivial⟩ ⟨hdc,hS.took⟩
       ·repeat (first|refine Yar (fun _ _ hS _ => ?_)|(refine Zae ?_;first|refine Yas ?_)|(refine Zac ?_;first|refine Yaz ?_))
        refine Zaa _ rfl rfl rfl rfl rfl (Zeo x.a x.c.nd.data.length x.k x.c.nd.data _ (hdata.rd hS) rfl (by omega)) ?_
        rintro _ w ⟨da,dc,rfl,_,hdc,hS'⟩
        replace hS := hS.plus hS';clear hS';repeat (first|refine Yao (fun _ hS _ => ?_)|(refine Zae ?_;first|refine Yay ?_|refine Yb8 ?_|refine Yas ?_)|(refine Zac ?_;first|refine Yaz ?_))
        rename_i t15 _ _ _ _ _ _;exact Zbp (t15,da,dc) ⟨rfl,rfl,rfl,rfl,rfl,rfl,rfl,rfl,rfl,rfl,rfl,trivial⟩ ⟨hdc,hS.took⟩
      ·clear hS
       rintro ⟨t15,da,dc⟩ w ⟨hdc,hS⟩
       simp only at hdc hS ⊢
       have hS := (hS.pick [1,4,0,0,0,0,0]).bagAdd Zgl
       have hS := hS.bagPart (List.mem_cons_of_mem _ hI.fX) (Zzh bs.length)
       have hbi : (ints .i64 fl).take bs.length = ints .i64 bs := by rw [hbst]; simp [ints,List.map_take]
       simp only [hbi] at hS
       have hS := hS.bagPart (List.mem_cons_of_mem _ (List.mem_cons_of_mem _ hI.fX)) (Zzi (k := bs.length) (c := fc) (by simp only [ints_length]; exact hfcap) (by simp only [ints_length]; exact hbfl))
       have hfi : (ints .i64 fl).drop bs.length = ints .i64 (fl.drop bs.length) := by simp [ints,List.map_drop]
       simp only [hfi] at hS
       obtain ⟨X2,hX2⟩ : ∃ X2,X2 = (sub fa bs.length 1 fc,ints .i64 (fl.drop bs.length)) :: (fa,ints .i64 bs) :: (da,bv x.c.nd.data) :: X := ⟨_,rfl⟩
       rw [← hX2] at hS;repeat (first|refine Yaa ?_|refine Yaf ?_|refine Yeb ?_)
       refine X_yl (Zap (l := bs.length) (h := fl.length) rfl rfl rfl rfl (.inl ⟨rfl,rfl⟩) (.inr ⟨_,_,rfl,by omega,by omega,by omega⟩)) rfl rfl ?_
       repeat (first|refine Yea ?_|(refine X_id ?_;first|refine Yaf ?_|refine Yag ?_|refine Yan ?_|refine Yav ?_|refine Yap ?_)|refine Yed ?_|refine Yab ?_)
       have hsubX : ∀ y ∈ X,y ∈ X2 := fun y hy => by rw [hX2]; exact List.mem_cons_of_mem _ (List.mem_cons_of_mem _ (List.mem_cons_of_mem _ hy))
       have hX2a : (sub fa bs.length 1 fc,ints .i64 (fl.drop bs.length)) ∈ X2 := by rw [hX2]; exact List.mem_cons_self ..
       have hX2b : (fa,ints .i64 bs) ∈ X2 := by rw [hX2]; exact List.mem_cons_of_mem _ (List.mem_cons_self ..)
       have hX2c : (da,bv x.c.nd.data) ∈ X2 := by rw [hX2]; exact List.mem_cons_of_mem _ (List.mem_cons_of_mem _ (List.mem_cons_self ..))
       refine Zbz (α := Option Addr × Nat × List Wr × List RowD) (fun _ => [(0,.pointer (some ⟨tp,0,none⟩)),(6,.map (some r2)),(9,.slice (sub fa bs.length 1 fc) (fl.length - bs.length) (fc - bs.length)),(10,.pointer (some ⟨t10,0,none⟩)),(11,.func (.func 149) #[] #[.pointer (some ⟨t10,0,none⟩)]),(13,.pointer (some ⟨t13,0,none⟩)),(15,.pointer (some ⟨t15,0,none⟩)),(46,.slice (some ⟨xb,xo,none⟩) l.length c),(47,.int .i64 (l.length : Nat)),(48,.int .i64 (i : Nat))])
        (fun y w => BlI n bs x.c.nd.data ws X2 bs.length y.2.1 y.2.2.1 y.2.2.2 ∧ St W F2 [pts t10 (.cells #[.slice y.1 y.2.2.1.length y.2.1] 267),own 185 2 y.1 y.2.1 (y.2.2.1.flatMap Wr.cells),bag y.2.2.2,pts t15 (.cells (stoV ⟨x.c.nd,bs⟩ da dc fa bs.length).toArray 281),pts t13 (.cells (List.toArray [.int .i64 x.c.no,.int .i64 x.c.nd.st.kind,.int .i64 x.c.nd.st.mode,.int .i64 x.c.nd.st.owner,.int .i64 x.c.nd.st.group,.slice x.a x.c.nd.data.length x.k,.bool false]) 193),mapq (Value.int .i64) r2 (AV.vals Az)] w) ?_ ?_
       ·refine Zal (α := Nat × Option Addr × Nat × List Wr × List RowD) (fun y => [(0,.pointer (some ⟨tp,0,none⟩)),(6,.map (some r2)),(9,.slice (sub fa bs.length 1 fc) (fl.length - bs.length) (fc - bs.length)),(10,.pointer (some ⟨t10,0,none⟩)),(11,.func (.func 149) #[] #[.pointer (some ⟨t10,0,none⟩)]),(13,.pointer (some ⟨t13,0,none⟩)),(15,.pointer (some ⟨t15,0,none⟩)),(46,.slice (some ⟨xb,xo,none⟩) l.length c),(47,.int .i64 (l.length : Nat)),(48,.int .i64 (i : Nat)),(85,.slice fa bs.length bs.length),(86,.int .i64 (bs.length : Nat)),(87,.int .i64 (y.1 : Nat))])
         (fun y w => y.1 ≤ bs.length ∧ BlI n bs x.c.nd.data ws X2 y.1 y.2.2.1 y.2.2.2.1 y.2.2.2.2 ∧ St W F2 [pts t10 (.cells #[.slice y.2.1 y.2.2.2.1.length y.2.2.1] 267),own 185 2 y.2.1 y.2.2.1 (y.2.2.2.1.flatMap Wr.cells),bag y.2.2.2.2,pts t15 (.cells (stoV ⟨x.c.nd,bs⟩ da dc fa bs.length).toArray 281),pts t13 (.cells (List.toArray [.int .i64 x.c.no,.int .i64 x.c.nd.st.kind,.int .i64 x.c.nd.st.mode,.int .i64 x.c.nd.st.owner,.int .i64 x.c.nd.st.group,.slice x.a x.c.nd.data.length x.k,.bool false]) 193),mapq (Value.int .i64) r2 (AV.vals Az)] w)
         (fun y => bs.length - y.1) (0,aw,cw,ws,X2) ⟨rfl,rfl,rfl,rfl,rfl,rfl,rfl,rfl,rfl,rfl,rfl,rfl,rfl,trivial⟩ ⟨Nat.zero_le _,⟨by simp,hwcap,fun v hv => hsubX _ (hI.wX v hv),fun _ h => h⟩,hS.took⟩ ?_
        clear hS;rintro ⟨i2,aw2,cw2,ws2,X3⟩ w ⟨hi2,hB,hS⟩
        simp only at hi2 hB hS ⊢
        have hwl2 := hB.len hi2
        have hcap2 := hB.cap
        by_cases hlt2 : i2 < bs.length
        ·have hb0 : bs[i2]? = some bs[i2] := List.getElem?_eq_getElem hlt2
         generalize bs[i2] = b at hb0;have hblow := hI.flow b (by have := List.mem_of_getElem? hb0; rw [hbst] at this; exact List.mem_of_mem_take this)
         have hxI : (ints .i64 bs)[i2]? = some (.int .i64 b) := by simp [ints,hb0]
         have hbagR : ∀ w rs,St W F2 (pts t10 (.cells #[.slice aw2 ws2.length cw2] 267) :: own 185 2 aw2 cw2 (ws2.flatMap Wr.cells) :: bag X3 :: rs) w → Rd w (row fa (ints .i64 bs)) := fun w rs h => (h.rd (r := bag X3) (by simp)).bag (hB.sub _ hX2b)
         have hfaE : ∃ b off,fa = some ⟨b,off,none⟩ := (hbagR _ _ hS).base (by intro e; rw [e] at hxI; simp at hxI)
         repeat (first|refine Yea ?_|refine Yaf ?_|refine Ya2 ?_|refine Ybc ?_|refine Yee ?_|refine Yab ?_)
         refine X_yl (Zas rfl rfl ((hbagR _ _ hS).cellX (by omega) hxI)) rfl rfl ?_
         repeat (first|refine Yea ?_|refine Yag ?_|refine Yab ?_)
         refine Zam (.s 0 (.s 1 (.s 2 (.s 4 (.s 5 (.s 6 (.s 7 (.s 8 (.s 9 (.s 10 (.s 11 (.s 12 (.s 13 (.s 14 (.s 15 (.s 16 (.s 17 (.h 3 (.h 18 .nil .no) .no)))))))))))))))))) mixed (by kernel_rfl) rfl ?_
         have hS := hS.drew
         repeat (first|(refine Zae ?_;first|refine Ya3 ?_|refine Ybe ?_|refine Ydx ?_|refine Yda ?_|refine Zak rfl rfl (fun _ => Zx9 rfl rfl rfl (w64 (by omega) (by omega))) rfl rfl ?_|refine Ybk ?_))
         refine Zak rfl rfl (fun _ => Z3v rfl rfl rfl) rfl rfl ?_
         obtain ⟨hN,hhN⟩ : ∃ hN : Nat,hN = min (64 * (i2 + 1)) x.c.nd.data.length := ⟨_,rfl⟩
         have hmin : min (64 * ((i2 : Int) + 1)) (x.c.nd.data.length : Nat) = (hN : Nat) := by omega
         rw [hmin];have hnb : 64 * i2 ≤ hN := by
          have : 64 * i2 < x.c.nd.data.length := by rw [hbsl] at hlt2; unfold nblk at hlt2; omega
          omega
         refine Zak rfl rfl (fun _ => Zap (l := 64 * i2) (h := hN) rfl rfl rfl rfl (.inr ⟨_,_,rfl,by omega,by omega,by omega⟩) (.inr ⟨_,_,rfl,by omega,by omega,by omega⟩)) rfl rfl ?_
         repeat (first|(refine X_id ?_;first|(refine Zaa 151 rfl rfl rfl rfl rfl (Z2a tp lp n r b _ (hTo.rd hS) (by omega) hblow.1 (by omega)) ?_;rintro _ _ ⟨rfl,rfl⟩))|(refine Zae ?_;first|refine Yas ?_)|(refine Zac ?_;first|refine Yaz ?_))
         obtain ⟨_,hc3,hr3,hw3,hbk3⟩ := hS.call [true,true,false,false,false,false]
         have hdb := ((hr3 (bag X3) (by simp)).bag (hB.sub _ hX2c)).subBytes (l := 64 * i2) (h := hN) (c := dc) (by omega) hnb
         refine Zb4 (first := []) (captured := [.pointer (some ⟨t10,0,none⟩)]) rfl rfl rfl rfl rfl (Z2p t10 aw2 cw2 ws2 (1 + (n : Int) + b) (sub da (64 * i2) 1 dc) (hN - 64 * i2) (dc - 64 * i2) ((x.c.nd.data.drop (64 * i2)).take (hN - 64 * i2)) _ _ hdb (by rw [List.length_take,List.length_drop]; omega) hcap2 (by omega) hc3) ?_
         rintro _ w ⟨rfl,aw3,cw3,q,hcw3,hS⟩
         replace hS := hbk3 hS
         clear hc3 hr3 hw3 hbk3;rw [Zoi _ _ _ hhN] at hS;repeat (first|refine Yea ?_|refine Yef ?_|refine Yad ?_|refine Yei ?_|(refine Zae ?_;first|refine Yay ?_)|(refine Zac ?_;first|refine Yaz ?_))
         have hS := (hS.pick [2,2,0,0,0,0,0]).bagAdd (fun _ h => h)
         have hS := hS.pick [1,1,0,0,0,0]
         refine Zaf (α := Nat × Option Addr × Nat × List Wr × List RowD) (z := (i2,aw2,cw2,ws2,X3)) (i2 + 1,aw3,cw3,ws2 ++ [putW (1 + (n : Int) + b) q ((x.c.nd.data.drop (64 * i2)).take (hN - 64 * i2))],(some ⟨q,0,none⟩,bv (Zgy x.c.nd.data i2)) :: X3) ⟨rfl,rfl,rfl,rfl,rfl,rfl,rfl,rfl,rfl,rfl,rfl,rfl,rfl,trivial⟩ ⟨by simp only; omega,⟨?_,by simp only [List.length_append,List.length_cons,List.length_nil]; exact hcw3,fun v hv => ?_,fun y hy => List.mem_cons_of_mem _ (hB.sub y hy)⟩,?_⟩ (by simp only; omega)
         ·simp only
          rw [List.map_append,hB.data,Zsg hb0,List.append_assoc]
          congr 2
          simp [Wr.data,Zoi _ _ _ hhN]
         ·rcases List.mem_append.1 hv with hv | hv
          ·exact List.mem_cons_of_mem _ (hB.wX v hv)
          ·rw [List.mem_singleton] at hv
           rw [hv];simp only [Zoi _ _ _ hhN]
           exact List.mem_cons_self ..
         ·simp only [List.length_append,List.length_cons,List.length_nil]
          exact hS
        ·obtain rfl : i2 = bs.length := by omega
         repeat (first|refine Yea ?_|refine Ya6 ?_|refine Yeq ?_|refine Yeg ?_)
         exact Zbp (aw2,cw2,ws2,X3) ⟨rfl,rfl,rfl,rfl,rfl,rfl,rfl,rfl,rfl,rfl,trivial⟩ ⟨hB,hS⟩
       ·clear hS
        rintro ⟨aw2,cw2,ws2,X3⟩ w ⟨hB,hS⟩
        simp only at hB hS ⊢
        have hwl2 := hB.len (Nat.le_refl _)
        have hcap2 := hB.cap
        repeat (first|refine Yae ?_)
        refine Zam (.s 0 (.s 1 (.s 2 (.s 3 (.s 4 (.h 5 (.h 6 .nil .no) .no)))))) mixed (by kernel_rfl) rfl ?_
        have hS := hS.drew
        repeat (first|(refine Zae ?_;first|refine Ya3 ?_|refine Ybe ?_|refine Yda ?_|refine Ybk ?_|refine Yb1 ?_|refine Yas ?_))
        refine Zaa _ rfl rfl rfl rfl rfl (Z2h ⟨x.c.nd,bs⟩ da dc fa bs.length _ ((hS.rd (r := bag X3) (by simp)).bag (hB.sub _ hX2b)) (by simp only; omega) (by simp only; omega)) ?_
        rintro _ w ⟨q1,rfl,hS'⟩
        replace hS := hS.plus hS';clear hS';repeat (first|(refine Zae ?_;first|refine Yas ?_)|(refine Zac ?_;first|refine Yaz ?_))
        obtain ⟨_,hc3,hr3,hw3,hbk3⟩ := hS.call [false,true,true,false,false,false,false]
        refine Zb4 (first := []) (captured := [.pointer (some ⟨t10,0,none⟩)]) rfl rfl rfl rfl rfl (Z2p t10 aw2 cw2 ws2 (1 + x.c.no) (some ⟨q1,0,none⟩) 64 64 (stoB ⟨x.c.nd,bs⟩) _ _ (hr3 (bytes (some ⟨q1,0,none⟩) (stoB ⟨x.c.nd,bs⟩)) (by simp)) (Zd9 _) hcap2 (by omega) hc3) ?_
        rintro _ w ⟨rfl,aw3,cw3,q,hcw3,hS⟩
        replace hS := hbk3 hS
        clear hc3 hr3 hw3 hbk3;rw [Zoa (Zd9 _)] at hS;have hS := hS.took (out := [mapq (Value.int .i64) r2 (AV.vals Az),bytes (some ⟨q,0,none⟩) (stoB ⟨x.c.nd,bs⟩),bag X3,pts t10 (.cells #[.slice aw3 (ws2.length + 1) cw3] 267),own 185 2 aw3 cw3 ((ws2 ++ [putW (1 + x.c.no) q (stoB ⟨x.c.nd,bs⟩)]).flatMap Wr.cells),pts t15 (.cells (stoV ⟨x.c.nd,bs⟩ da dc fa bs.length).toArray 281),pts t13 (.cells (List.toArray [.int .i64 x.c.no,.int .i64 x.c.nd.st.kind,.int .i64 x.c.nd.st.mode,.int .i64 x.c.nd.st.owner,.int .i64 x.c.nd.st.group,.slice x.a x.c.nd.data.length x.k,.bool false]) 193)])
        repeat (first|refine Yaa ?_|refine Yaf ?_|refine Yan ?_|refine Yap ?_|refine Ybg ?_|refine Yad ?_|refine Yab ?_|(refine Zae ?_;first|refine Yay ?_)|(refine Zac ?_;first|refine Yaz ?_))
        refine Ze1 (mk := Value.int .i64) (k := x.c.no) (v := SV.val ⟨⟨x.c.nd,bs⟩,da,dc,fa,bs.length⟩) rfl rfl rfl rfl rfl hS (fun w hS => ?_)
        rw [Z09] at hS;repeat (first|refine Yea ?_|refine Yef ?_|refine Yad ?_|refine Yei ?_)
        have hS := (hS.pick [1,1,1,1,0]).bagAdd (fun _ h => h)
        have hS := hS.pick [1,1,0,0]
        have hbt : (Zco n bs x.c.nd.data).take bs.length = Zco n bs x.c.nd.data := List.take_of_length_le (by simp [Zco])
        refine Zaf (α := ApZ) (z := ⟨i,Az,fa,fc,fl,aw,cw,ws,X⟩) (⟨i + 1,setA x.c.no ⟨⟨x.c.nd,bs⟩,da,dc,fa,bs.length⟩ Az,sub fa bs.length 1 fc,fc - bs.length,fl.drop bs.length,aw3,cw3,ws2 ++ [putW (1 + x.c.no) q (stoB ⟨x.c.nd,bs⟩)],(some ⟨q,0,none⟩,bv (stoB ⟨x.c.nd,bs⟩)) :: X3⟩ : ApZ) ⟨rfl,rfl,by simp only; rw [List.length_drop]; rfl,rfl,rfl,rfl,rfl,rfl,trivial⟩
         ⟨⟨by simp only; omega,?_,List.mem_cons_of_mem _ (hB.sub _ hX2a),by simp only [List.length_drop]; omega,by simp only [List.length_append,List.length_cons,List.length_nil]; exact hcw3,fun v hv => ?_,fun y hy => ?_,?_,fun b hb => hI.flow b (List.mem_of_mem_drop hb)⟩,?_⟩ (by simp only; omega)
        ·simp only
         rw [hrun,hstep,List.map_append,hB.data,hbt,List.append_assoc,show AV.ents (setA x.c.no (⟨⟨x.c.nd,bs⟩,da,dc,fa,bs.length⟩ : SV) Az) = setA x.c.no ⟨x.c.nd,bs⟩ (AV.ents Az) from (Zs8 SV.s).symm];have : Zc9 (stoB ⟨x.c.nd,bs⟩) = stoB ⟨x.c.nd,bs⟩ := Zoa (Zd9 _)
         simp [Wr.data,this]
        ·rcases List.mem_append.1 hv with hv | hv
         ·exact List.mem_cons_of_mem _ (hB.wX v hv)
         ·rw [List.mem_singleton] at hv
          rw [hv];have : Zc9 (stoB ⟨x.c.nd,bs⟩) = stoB ⟨x.c.nd,bs⟩ := Zoa (Zd9 _)
          simp only [this]
          exact List.mem_cons_self ..
        ·rcases Ztn hy with rfl | hy
         ·exact .inr ⟨List.mem_cons_of_mem _ (hB.sub _ hX2c),List.mem_cons_of_mem _ (hB.sub _ hX2b)⟩
         ·exact (hI.aX y hy).imp id fun h => ⟨List.mem_cons_of_mem _ (hB.sub _ (hsubX _ h.1)),List.mem_cons_of_mem _ (hB.sub _ (hsubX _ h.2))⟩
        ·have := hI.wl
         simp only [List.length_append,List.length_cons,List.length_nil] at this ⊢
         omega
        ·simp only [List.length_append,List.length_cons,List.length_nil]
         exact hS
    ·rw [hdp] at hxs
     repeat (first|refine Yea ?_|(refine X_id ?_;first|refine Yaf ?_|refine Yan ?_|refine Ya2 ?_|refine Ybc ?_|refine Ya0 ?_|refine Yap ?_|refine Ybp ?_|refine Yao (fun _ hS _ => ?_)|refine Yar (fun _ _ hS _ => ?_))|refine Yee ?_|refine Yab ?_)
     obtain ⟨_,hc3,hr3,hw3,hbk3⟩ := hS.call [false,true,true,false,false]
     refine Zb4 (first := []) (captured := [.pointer (some ⟨t10,0,none⟩)]) rfl rfl rfl rfl rfl (Z2p t10 aw cw ws (1 + x.c.no) none 0 0 [] _ _ (Zfq _ _ _) rfl hwcap (by omega) hc3) ?_
     rintro _ w ⟨rfl,aw',cw',q,hcw',hS⟩
     replace hS := hbk3 hS
     clear hc3 hr3 hw3 hbk3;repeat (first|refine Yea ?_|refine Yef ?_|refine Yad ?_|refine Ya9 ?_|refine Yeg ?_)
     have hS := (hS.pick [2,3,0,0,1]).bagAdd (fun _ h => h)
     have hS := hS.pick [1,1,0,0]
     refine Zaf (α := ApZ) (z := ⟨i,Az,fa,fc,fl,aw,cw,ws,X⟩) (⟨i + 1,Az,fa,fc,fl,aw',cw',ws ++ [putW (1 + x.c.no) q []],(some ⟨q,0,none⟩,bv (Zc9 [])) :: X⟩ : ApZ) ⟨rfl,rfl,rfl,rfl,rfl,rfl,rfl,rfl,trivial⟩ ⟨⟨by simp only; omega,?_,List.mem_cons_of_mem _ hI.fX,hfcap,by simp only [List.length_append,List.length_cons,List.length_nil]; exact hcw',fun v hv => ?_,fun y hy => (hI.aX y hy).imp id fun h => ⟨List.mem_cons_of_mem _ h.1,List.mem_cons_of_mem _ h.2⟩,?_,hI.flow⟩,?_⟩ (by simp only; omega)
     ·simp only
      rw [hrun];unfold ApS.step
      rw [if_pos hdp];have : Zc9 [] = zero64 := by simp [Zc9,zero64]
      simp [Wr.data,this]
     ·rcases List.mem_append.1 hv with hv | hv
      ·exact List.mem_cons_of_mem _ (hI.wX v hv)
      ·rw [List.mem_singleton] at hv; rw [hv]; exact List.mem_cons_self ..
     ·have := hI.wl
      simp only [List.length_append,List.length_cons,List.length_nil] at this ⊢
      omega
     ·simp only [List.length_append,List.length_cons,List.length_nil]
      exact hS
   ·obtain rfl : i = l.length := by omega
    repeat (first|refine Yea ?_|refine Ya6 ?_|refine Yeq ?_|refine Yeg ?_)
    exact Zbp (⟨l.length,Az,fa,fc,fl,aw,cw,ws,X⟩ : ApZ) ⟨rfl,rfl,rfl,trivial⟩ ⟨⟨hcll.symm,hI⟩,hS⟩
  ·clear hS hI0 hz0
   rintro ⟨i,Az,fa,fc,fl,aw,cw,ws,X⟩ w ⟨⟨hi,hI⟩,hS⟩
   have hwl := hbound _ hI
   have hwcap := hI.wcap
   have hrun := hI.run
   simp only at hi hS hwl hwcap hrun ⊢
   rw [hi,List.take_length] at hrun;rcases hlaw with ⟨h1,_⟩ | ⟨z',h1,h2,h3,h4,h5⟩
   ·rw [hrun] at h1; cases h1
   ·obtain rfl : z' = ⟨AV.ents Az,fl,ws.map Wr.data⟩ := by rw [hrun] at h1; exact (Option.some.inj h1).symm
    simp only at h2 h3 h4 h5
    have hnl : (ws.map Wr.data).length = ws.length := by simp
    rw [hnl] at h2;repeat (first|refine Yae ?_)
    refine Zam (.s 0 (.s 1 (.s 2 (.s 3 (.s 4 (.h 5 (.s 6 .nil) .no)))))) mixed (by kernel_rfl) rfl ?_
    have hS := hS.drew
    repeat (first|(refine Zae ?_;first|refine Ya3 ?_|refine Ybr ?_|refine Ybe ?_|refine Ybk ?_|refine Yas ?_|refine Ycy ?_))
    replace hS := hbk hS
    obtain ⟨_,hc4,hr4,hw4,hbk4⟩ := hS.call [false,false,false,false,false,false,false,true]
    refine Zaa _ rfl rfl rfl rfl rfl (Ztf lp p j m dat aw cw ws rd fs _ _ (hG.mono hw4) ⟨(hr4 (own 185 2 aw cw (ws.flatMap Wr.cells)) (by simp)).own_row,fun v hv => (hr4 (bag X) (by simp)).bag (hI.wX v hv)⟩ (by omega) hm h4 (by rw [hE.len]; exact h5) hc4) ?_
    rintro _ w (⟨hfull,rfl,hS⟩ | ⟨hfit,rfl,hS⟩)
    ·replace hS := hbk4 hS
     clear hc4 hr4 hw4 hbk4;have hp : putT T nb (j / 2) cl = (6,T) := by unfold putT; rw [h2,if_neg (by simp),if_pos hfull]
     rw [hp];repeat (first|refine Yea ?_|refine Yaf ?_|refine Yag ?_|refine Ybj ?_|refine Yek ?_|refine Yel ?_|(refine Zae ?_;first|refine Ye6 ?_)|(refine Zac ?_;first|refine Yaz ?_))
     have h := hS.took (out := [Zij tp lp n r,mapq (Value.int .i64) r A.vals,bag A.rows,qlog lp p j m dat])
     exact ⟨rfl,(h.shutItab hok).head Zr7⟩
    ·replace hS := hbk4 hS
     clear hc4 hr4 hw4 hbk4;have hp : putT T nb (j / 2) cl = (0,tabOf (AV.ents Az) n) := by unfold putT; rw [h2,if_neg (by simp),if_neg (by simp only; omega)]
     rw [hp];repeat (first|refine Yea ?_|(refine X_id ?_;first|refine Yaf ?_|refine Yag ?_|refine Yau ?_|refine Yan ?_|refine Ya4 ?_|refine Yao (fun _ hS _ => ?_))|refine Yfa ?_|refine Yec ?_|(refine Zae ?_;first|refine Ye6 ?_)|(refine Zac ?_;first|refine Yaz ?_))
     have h := hS.took (out := [bag X,bag A.rows,Zij tp lp n r2,mapq (Value.int .i64) r2 (AV.vals Az),qlog lp p j (m + 1) (Zca dat (ws.map Wr.data))])
     have h := h.bagJoin.bagSub (Y := AV.rows Az) (fun y hy => by
      obtain ⟨x,hx,hyx⟩ := List.mem_flatMap.1 hy
      rcases hI.aX x hx with hxA | ⟨e1,e2⟩
      ·exact List.mem_append_right _ (List.mem_flatMap.2 ⟨x,hxA,hyx⟩)
      ·simp only [List.mem_cons,List.not_mem_nil,or_false] at hyx
       rcases hyx with rfl | rfl
       ·exact List.mem_append_left _ e1
       ·exact List.mem_append_left _ e2)
     have h := h.pick [1,1,0,0]
     exact ⟨rfl,h.shutItab ⟨rfl,h3,hok.n1,hok.n4,hok.nb1⟩⟩
 ·have hap : Zjh T nb (j / 2) cl = (Zfc cl n,T) := by unfold Zjh; rw [htl,if_pos h0]
  rw [hap];refine Zab Tryz.func87 rfl Tryz.ntmps87 rfl ?_
  repeat (first|refine Yea ?_|refine Yaf ?_|refine Yag ?_|refine Ybu ?_|refine Yem ?_|refine Yab ?_)
  refine Zad _ rfl rfl rfl rfl rfl hS (hck _ _ hS) ?_
  rintro _ w rfl hS
  repeat (first|refine Yea ?_|refine Yaf ?_|refine Yag ?_|refine Ybj ?_|refine Yek ?_|refine Yel ?_)
  exact ⟨rfl,((hbk hS).shutItab hok).head Zr7⟩
end
theorem Zxc : Zc9 [] = zero64 := by simp [Zc9,zero64]
theorem Zhi : zero64.length = 64 := by simp [zero64]
theorem Z3e (rd fs : List Int) {dat : List (List UInt8)} {n nb : Nat} (hd : dat.length = 1 + n + nb) (hz : ∀ i,i < n → dat.getD (1 + i) [] = zero64) : Enc rd fs (Zca dat [(0,Zcr rd fs n)]) n nb [] := by
 have hg : ∀ k,k < dat.length → (Zca dat [(0,Zcr rd fs n)]).getD k [] = if k = 0 then Zcr rd fs n else dat.getD k [] := fun k hk => by
  rw [Zdl _ _ _ hk (fun v hv => by rw [List.mem_singleton] at hv; rw [hv]; exact Int.le_refl _),Zed]
  by_cases h : k = 0
  ·subst h; simp [Zcv]
  ·rw [if_neg h,if_neg (by simp only; omega)]; simp [Zcv]
 refine ⟨by rw [Zay]; exact hd,by rw [hg 0 (by omega),if_pos rfl],fun k hk => by simp [Zaw] at hk,by simp [Zaw],fun i hi => ?_,fun x hx => by simp at hx,fun x hx => by simp at hx,by simp [Za0]⟩
 rw [hg _ (by omega),if_neg (by omega),hz i hi]
 rfl
theorem Z2c (n : Nat) : tabOf [] n = List.replicate n none := by
 apply List.ext_getElem
 ·simp [tabOf]
 ·intro i h1 h2
  simp [tabOf,getA]
theorem Z3c (lp p j m n nb : Nat) (dat : List (List UInt8)) (rd fs : List Int) (W : World) (F : Nat → Prop) (hG : Gl W F rd fs) (hd : dat.length = 1 + n + nb) (h1 : 1 ≤ n) (h4 : n ≤ 400) (hnb : 1 ≤ nb) (hj : 2 ≤ j) (hm : (m : Int) < last)
  (h0 : dat.getD 0 [] = zero64) (hz : ∀ i,i < n → dat.getD (1 + i) [] = zero64) (hS : St W F [qlog lp p j m dat] W) :
  Calls Tryz.prog 38 #[.pointer (some ⟨lp,0,none⟩),.int .i64 (n : Nat)] W (Ret fun v w => ∃ tp,v = .tuple #[.pointer (some ⟨tp,0,none⟩),.int .i64 0] ∧ St W F [itab rd fs tp lp p j (m + 1) n nb (List.replicate n none)] w) := by
 have hqr : ∀ w rs,St W F (qlog lp p j m dat :: rs) w → Rd w (qlog lp p j m dat) := fun w rs h => h.rd (List.mem_cons_self ..)
 have hrd := fun w rs (h : St W F (qlog lp p j m dat :: rs) w) => Z4q lp p j m dat 0 w (hqr _ _ h) (by omega)
 rw [h0] at hrd;have heq := fun w a c p h1 h2 => Zt2 a (some ⟨p,0,none⟩) 64 64 c 64 zero64 zero64 w h1 h2 Zhi Zhi
 rw [decide_eq_true rfl] at heq;refine Zab Tryz.func38 rfl Tryz.ntmps38 rfl ?_
 repeat (first|refine Yea ?_|refine Yaf ?_|refine Yag ?_|refine Ybu ?_|refine Ye7 ?_|refine Yab ?_)
 refine Zad _ rfl rfl rfl rfl rfl hS (may_ lp p j m n dat _ (hqr _ _ hS) h1 h4 (by omega)) ?_
 rintro _ w rfl hS
 repeat (first|refine Yea ?_|refine Yaf ?_|refine Yag ?_|refine Ybd ?_|refine Yem ?_|refine Yei ?_)
 refine Zaa _ rfl rfl rfl rfl rfl (hrd _ _ hS) ?_
 rintro _ w ⟨a,c,rfl,hc,hS'⟩
 replace hS := hS.plus hS';clear hS';repeat (first|refine Yea ?_|refine Yff ?_|refine Yem ?_|refine Yab ?_)
 refine Zaa _ rfl rfl rfl rfl rfl (Zoc none 0 [] _ (Zm7 _ _)) ?_
 rintro _ w ⟨q,rfl,hS'⟩
 replace hS := hS.plus hS';clear hS';rw [Zxc] at hS;repeat (first|refine Yea ?_|(refine X_id ?_;first|(refine Zaa 57 rfl rfl rfl rfl rfl (heq _ a c q (hS.rd (by simp)) (hS.rd (by simp))) ?_;rintro _ _ ⟨rfl,rfl⟩)|refine Yaf ?_|refine Ybd ?_)|refine Yem ?_|refine Yab ?_)
 refine Zaa _ rfl rfl rfl rfl rfl (Z19 n rd fs _ (hG.mono fun r hr => (hr.rd hS).ro)) ?_
 rintro _ w ⟨q2,rfl,hS'⟩
 replace hS := hS.plus hS';clear hS';repeat (first|refine Yaa ?_|refine Ybl ?_|refine Ybn (fun _ _ hS _ => ?_))
 rename_i bw _ _;obtain ⟨_,hc4,hr4,hw4,hbk4⟩ := hS.call [false,false,false,false,true]
 have hck : Zch [((0 : Int),Zcr rd fs n)] = 0 := by
  have : (Zcr rd fs n).length = 64 := Zbw _
  simp [Zch,badW,Zbm,this]
 refine Zaa _ rfl rfl rfl rfl rfl (Ztf lp p j m dat (some ⟨bw,0,none⟩) 1 [⟨0,⟨some ⟨q2,0,none⟩,64,Zcr rd fs n⟩⟩] rd fs _ _ (hG.mono hw4) ⟨?_,fun v hv => ?_⟩ (by simp) hm hck ?_ hc4) ?_
 ·have h := (hr4 (own 185 2 (some ⟨bw,0,none⟩) 1 [.int .i64 0,.slice (some ⟨q2,0,none⟩) 64 64]) (by simp)).own_row
  have e : (List.flatMap Wr.cells [⟨0,⟨some ⟨q2,0,none⟩,64,Zcr rd fs n⟩⟩]) = [.int .i64 0,.slice (some ⟨q2,0,none⟩) 64 64] := by
   have : (Zcr rd fs n).length = 64 := Zbw _
   simp [Wr.cells,this]
  rw [e]; exact h
 ·rw [List.mem_singleton] at hv
  rw [hv];exact hr4 (bytes (some ⟨q2,0,none⟩) (Zcr rd fs n)) (by simp)
 ·simp [hasM,Wr.data]; omega
 rintro _ w (⟨hfull,_,_⟩ | ⟨_,rfl,hS⟩)
 ·simp only [List.length_cons,List.length_nil] at hfull; omega
 replace hS := hbk4 hS
 clear hc4 hr4 hw4 hbk4;repeat (first|refine Yea ?_|refine Yaf ?_|refine Yag ?_|refine Ya4 ?_|refine Yem ?_|refine Yab ?_)
 refine Zff (Value.int .i64) rfl rfl rfl hS (fun r w hS => ?_)
 repeat (first|refine Yea ?_|refine Yag ?_|refine Ybl ?_|refine Ya5 (fun _ _ hS _ => ?_)|refine Yah ?_|refine Yex ?_)
 rename_i tp _ _;refine ⟨tp,rfl,?_⟩
 have h := (hS.bagNil).took (out := [Zij tp lp n r,mapq (Value.int .i64) r [],bag [],qlog lp p j (m + 1) (Zca dat (List.map Wr.data [⟨0,⟨some ⟨q2,0,none⟩,64,Zcr rd fs n⟩⟩]))])
 exact St.shutItab (A := []) (dat := Zca dat [(0,Zcr rd fs n)]) ⟨Z2c n,Z3e rd fs hd hz,h1,h4,hnb⟩ h
end Cr
