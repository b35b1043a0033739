/-
  Layer 7 (inode): Used: the keys of a map,gone through by a range over a function,and sorted.
  Layer 8 (tree): a tree is opened on a table that is new.
  Layer 8 (tree): a tree is opened on a table that is new.
  The laws' helpers To of layers 6 and 7.
  The laws' helper known of layer 7: the chapter's examples.
  Layer 8 (tree): a change is begun; a fresh disk,log,table,tree.
  Layer 8 (tree): a fresh disk,log,table,tree; a change begun on it.
  Layer 11 (chain): a fresh table for a chain.
  Layer 9 (table): the keys of a table (only that they are told).
  Layer 9 (table): the first key that is none.
  Layer 9 (table): the keys of a table.
  Layer 9 (table): names,Keys.
  Layer 9 (table): Keys.
  Layer 11 (chain): what a chain tells: Len,Head.
  DERIVED: THE SHELF's CONTRACTS AT THIS DUMP,IN PLAIN WORDS (tools/lay-plain.mjs out of 'TryzShelf.lean',which tools/lay-shelf.mjs wrote): THE SAME DECLARATIONS UNDER THE SAME NAMES: 'import','namespace','open','def','theorem' AND NOTHING ELSE: no command of the shelf's: FOR A HAND-IN. Each laying: the table of numbers ('.._ren') and one theorem,a field a fact of the dump's own or the kernel's comparison; each contract: ONE APPLICATION.
  Layer 11 (chain): a record's key.
  Layer 11 (chain): what lies behind a chain's mark.
  Layer 11 (chain): Get.
  The laws of layer 11: at most six records,cut.
  Layer 11 (chain): All tells what it holds.
  Layer 11 (chain) in plain words: the tree of a change whose one table holds so many records,one behind the other; one more record put,a record told.
  Layer 11 (chain) in plain words,0: a record's value.
-/
import Derived.Test.YtpbgaojjlepkcaaGreatDoorAbn13
import Derived.Test.YtpbgaojjlepkcaaGreatDoorAbn7
import Derived.Test.YtpbgaojjlepkcaaGreatDoorAbn4
import Derived.Sort.Row
import Derived.Sort.Grow
import Derived.Test.YtpbgaojjlepkcaaGreatDoorAbn12
import Derived.Test.YtpbgaojjlepkcaaGreatDoorAbn11
import Derived.Shelf.Strings.Builder1
import Derived.Shelf.Strings.Builder2
import Derived.Shelf.Small.Strs
import Derived.Shelf.Strings.BuilderF
import Derived.Shelf.Strconv.Atoi
import Derived.Shelf.Strconv.Itoa0
import Derived.Shelf.Strconv.Itoa1
import Derived.Shelf.LaysM
import Derived.Shelf.Strconv.Itoa2
import Derived.Shelf.Strconv.Itoa3
import Derived.Shelf.Strconv.AtoiErrFast
import Derived.Shelf.Strconv.ParseIntEmpty
import Derived.Shelf.Strconv.AtoiFail
import Derived.Shelf.Strconv.Clone
import Derived.Shelf.Strconv.SyntaxError
import Derived.Shelf.LaysC
import Derived.Shelf.Strconv.ToError
import Derived.Shelf.Strconv.Lower
import Derived.Shelf.Strconv.ParseUint10
import Derived.Shelf.Strconv.ParseUint10Empty
import Derived.Shelf.Strconv.ParseUint10Any
import Derived.Shelf.Strconv.ParseInt10
import Derived.Shelf.Strconv.AtoiLong
import Derived.Shelf.Strconv.AtoiInnerAll
import Derived.Shelf.Strconv.RangeError
import Derived.Shelf.Strconv.ToErrorRange
import Derived.Shelf.Strconv.AtoiAll
import Derived.Shelf.Strconv.ErrVarAll
import Derived.Shelf.Sort.Plain
import Derived.Shelf.Strings.Prefix
import Derived.Shelf.Strings.Fields
import Derived.Shelf.Strings.SplitShaped
import Derived.Shelf.Unicode.Latin
import Derived.Shelf.Bits.Mul64
import Derived.Shelf.Strings.Repeat
import Derived.Shelf.Unicode.Is16White
import Derived.Shelf.Unicode.IsSpaceAny
import Derived.Shelf.Unicode.Is16Any
import Derived.Shelf.Unicode.Is32Any
import Derived.Shelf.Unicode.ExclAny
import Derived.Shelf.Slices.Turned
import Derived.Shelf.Slices.In.SortNone
import Derived.Test.YtpbgaojjlepkcaaGreatDoorProg
import Derived.Test.YtpbgaojjlepkcaaGreatDoorAbn5
namespace Cr
open Go Go.Proofs
set_option maxRecDepth 100000
set_option maxHeartbeats 64000000
attribute [local irreducible] Calls

theorem St.sorted {W : World} {F : Nat → Prop} {rs : List Res} {w : World} {T : TypeId} {b c : Nat} {P : List Int} (Q : List Int) (hQ : Q.length = P.length) (hpos : 0 < P.length) (n : Nat) (os : Array Obj) (hS : St W F (own T 1 (some ⟨b,0,none⟩) c (ints .i64 P) :: rs) w) :
  St W F (own T 1 (some ⟨b,0,none⟩) c (ints .i64 Q) :: rs) (Sort.grow (Sort.putRow (Value.int .i64) (Sort.ahead w n) b 0 Q.toArray) os) := by
 obtain ⟨g,⟨g1,g2,hown,hrest,hdj,hun⟩,s⟩ := hS
 obtain ⟨hle,hcm,⟨rfl,_⟩ | ⟨b',cells,hbe,rfl,hcz,ht⟩⟩ := hown
 ·rw [Nat.zero_mul,ints_length] at hle; omega
 ·obtain rfl : b = b' := by simpa using hbe
  have hb : w.heap[b]? = some (.cells cells T (0,0)) := s.agrees b _ (by rw [hun,Zao]; rfl)
  have hS2 : St W F (pts b (.cells cells T (0,0)) :: rs) w := ⟨g,⟨_,g2,rfl,hrest,hdj,hun⟩,s⟩
  have u : SetBlock w (Sort.putRow (Value.int .i64) (Sort.ahead w n) b 0 Q.toArray) b (.cells (Sort.putCells (Value.int .i64) 0 Q.toArray cells) T (0,0)) := by
   refine ⟨by simp,?_,fun k hk => ?_,rfl,rfl,rfl⟩
   ·simp only [Sort.putRow,Sort.mapBlock,Sort.heap_ahead]
    rw [Array.getElem?_modify,if_pos rfl,hb]; rfl
   ·simp only [Sort.putRow,Sort.mapBlock,Sort.heap_ahead]
    rw [Array.getElem?_modify,if_neg (Ne.symm hk)]
  have hS3 := hS2.set u
  have hbel : RowKit.Below (Sort.putRow (Value.int .i64) (Sort.ahead w n) b 0 Q.toArray).heap.size (Sort.putRow (Value.int .i64) (Sort.ahead w n) b 0 Q.toArray) (Sort.grow (Sort.putRow (Value.int .i64) (Sort.ahead w n) b 0 Q.toArray) os) :=
   ⟨rfl,rfl,rfl,by simp [Sort.grow],fun k hk => by
    simp only [Sort.grow]
    rw [Array.getElem?_append_left hk]⟩
  refine (hS3.below hbel).head fun h hh => ?_
  have hPl : P.length ≤ cells.size := by rw [ints_length] at hle; omega
  have key := Za7 (T := T) (e := 1) (c := c) (b := b) (l := (Sort.putCells (Value.int .i64) 0 Q.toArray cells).toList) (cs := ints .i64 Q) (by simp [Sort.putCells,hcz]) hcm (by
   apply List.ext_getElem?
   intro k
   rw [List.getElem?_take,ints_length];by_cases hk : k < Q.length
   ·rw [if_pos hk]
    simp only [Sort.putCells,Array.toList_mapIdx,List.getElem?_mapIdx]
    have hkc : k < cells.toList.length := by simp; omega
    rw [List.getElem?_eq_getElem hkc];simp [ints,hk]
   ·rw [if_neg hk,List.getElem?_eq_none (by rw [ints_length]; omega)])
  exact key h (by simpa using hh)
theorem St.ownHolds {W : World} {F : Nat → Prop} {rs : List Res} {w : World} {T b c : Nat} {P : List Int} (hS : St W F (own T 1 (some ⟨b,0,none⟩) c (ints .i64 P) :: rs) w) (hpos : 0 < P.length) : Sort.Holds (Value.int .i64) w b 0 P.toArray ∧ b < w.heap.size := by
 obtain ⟨g,⟨g1,g2,hown,hrest,hdj,hun⟩,s⟩ := hS
 obtain ⟨hle,hcm,⟨rfl,_⟩ | ⟨b',cells,hbe,rfl,hcz,ht⟩⟩ := hown
 ·rw [Nat.zero_mul,ints_length] at hle; omega
 ·obtain rfl : b = b' := by simpa using hbe
  have hb : w.heap[b]? = some (.cells cells T (0,0)) := s.agrees b _ (by rw [hun,Zao]; rfl)
  refine ⟨fun j hj => ?_,Zb9 hb⟩
  have hj : j < P.length := by simpa using hj
  rw [Nat.zero_add];refine ⟨?_,frozen_of_row w b j cells T hb⟩
  rw [cell_of_row w b j cells T (0,0) hb];have h1 := congrArg (fun l => l[j]?) ht
  simp only [List.getElem?_take,ints_length,hj,if_true] at h1
  rw [ints_get hj] at h1;have e : P.toArray[j]! = P.getD j 0 := by
   rw [getElem!_pos _ j (by simpa using hj)];simp [List.getD_eq_getElem?_getD,hj]
  rw [e]
  simpa using h1
theorem Z47 (l bx r : Nat) (A : AV) (T : TypeId) (w : World) (W : World) (F : Nat → Prop) (S : List Int → List Res) (hm : Ro W F (mapq (Value.int .i64) r A.vals)) (hbx : Ro W F (pts bx (.cells #[.map (some r)] T)))
  (hstep : ∀ (P : List Int) (k : Int) (it : Nat) (o : Obj) (w : World),P.length < A.length → St W F (pts it o :: S P) w → ∃ rc : Loop,rc.params.size = 1 ∧ w.heap[l]? = some (.loop rc) ∧
   RoundIn Fence.wide 0 Tryz.prog l rc.fn ((rc.params.zip #[.int .i64 k]).foldl (fun tmps (t,a) => tmps.setIfInBounds t a) rc.tmps) rc.assign rc.body w (Ret fun v w' => v = .bool true ∧ St W F (pts it o :: S (P ++ [k])) w'))
  (hS : St W F (S []) w) :
  CallsIn Fence.wide 0 Tryz.prog 247 #[.func (.yield l) #[] #[],.pointer (some ⟨bx,0,none⟩)] w (Ret fun _ w' => ∃ P it o,P.Perm (Zaw A) ∧ St W F (pts it o :: S P) w') := by
 refine callsIn_wide.2 ?_
 obtain ⟨es,clock,hes,hst,hmp⟩ := hm.openMap
 refine Zab Tryz.func247 rfl Tryz.ntmps247 rfl ?_
 repeat (first|refine Yaa ?_|refine Yeb ?_)
 refine X_yl (Zas rfl rfl ((cell_of_row _ bx 0 #[.map (some r)] T (0,0) (hbx.rd hS).pts).trans rfl)) rfl rfl ?_
 repeat (first|refine Yaa ?_)
 refine Zm6 rfl rfl (hmp.rd hS) rfl rfl hS (fun it w hS _ => ?_)
 repeat (first|refine Yac ?_|refine Yal ?_|refine Yab ?_)
 refine Zal (α := Array Nat × List Int) (fun _ => [(0,.func (.yield l) #[] #[]),(5,.pointer (some ⟨it,0,none⟩))])
  (fun z w => (z.2.map (Value.int .i64) ++ (Zdk es z.1).map (·.key)).Perm (es.toList.map (·.key)) ∧ St W F (pts it (.mapIter (some r) clock z.1 clock) :: S z.2) w) (fun z => (Zdk es z.1).length) (#[],[]) ⟨rfl,rfl,trivial⟩ ⟨by rw [Zkv]; exact List.Perm.refl _,hS⟩ ?_
 clear hS;rintro ⟨seen,P⟩ w ⟨hp,hS⟩
 simp only at hp hS ⊢
 have hek : es.toList.map (·.key) = (Zaw A).map (Value.int .i64) := by
  have e1 : es.toList.map (·.key) = (kvs es).map (·.1) := by simp [kvs,Function.comp_def]
  rw [e1,hes];simp [AV.vals,Zaw,Function.comp_def]
 repeat (first|refine Yaa ?_|refine Yeb ?_)
 refine Zrb rfl rfl hst (hmp.rd hS) rfl rfl hS (fun h0 => ?_) (fun e he w hS => ?_)
 ·repeat (first|refine Yea ?_|refine Yat ?_|refine Yae ?_|refine Ya9 ?_|refine Yai ?_|refine Yab ?_|refine Yba ?_|refine Ybb ?_|refine Ybt ?_)
  rw [h0,List.map_nil,List.append_nil,hek] at hp;have hp2 := hp.map (fun v => match v with | Value.int _ i => i | _ => 0)
  simp only [List.map_map,Function.comp_def,List.map_id'] at hp2
  exact ⟨P,it,_,hp2,hS⟩
 ·have hel : e ∈ es.toList := (List.mem_filter.1 he).1
  have hstep2 := Zmj hst he
  obtain ⟨x,hxA,hk,hv⟩ := Zt4 hes hel
  have hlt : (Zdk es (seen.push e.born)).length < (Zdk es seen).length := by rw [hstep2.length_eq]; simp
  have hp3 : ((P ++ [x.1]).map (Value.int .i64) ++ (Zdk es (seen.push e.born)).map (·.key)).Perm (es.toList.map (·.key)) := by
   refine List.Perm.trans ?_ hp
   rw [List.map_append,List.append_assoc];refine List.Perm.append_left _ ?_
   have := (hstep2.map (·.key)).symm
   rw [List.map_cons,hk] at this;exact this
  repeat (first|refine Yea ?_|refine Yat ?_|refine Yee ?_|refine Yab ?_)
  refine X_yl (Zuj rfl rfl hst hel hS.has (hmp.rd hS).pts) rfl rfl ?_
  rw [hk]
  iterate 12 (first | (refine G_id ?_; first | refine Zly ?_ | refine Zeq rfl rfl ?_) | (refine X_id ?_; first | refine X_yl (Zby rfl rfl) rfl rfl ?_ | refine X_yl (Za1 rfl rfl) rfl rfl ?_ | refine X_yl (Zcx rfl rfl) rfl rfl ?_) | (refine C_id ?_; first | refine Zc1 ?_ | refine Zav ?_) | (refine E_id ?_; first | refine Zcy ?_))
  have hPl : P.length < A.length := by
   have h1 := hp3.length_eq
   rw [hek] at h1;simp [Zaw] at h1
   omega
  obtain ⟨rc,hps,hl,hr⟩ := hstep P x.1 it _ w hPl hS
  refine Zss rfl rfl rfl rfl rfl rfl hl (by rw [hps]; rfl) hr ?_
  rintro v w' ⟨rfl,hS⟩
  repeat (first|refine Yea ?_|refine Ybd ?_|refine Yak ?_|refine Yai ?_|refine Yei ?_)
  exact Zaf (z := (seen,P)) (seen.push e.born,P ++ [x.1]) ⟨rfl,rfl,trivial⟩ ⟨hp3,hS⟩ hlt
theorem Fr.round1 {σ : Env} {N : Nat} {tm : Array Value} (hsz : tm.size = N) (h : ∀ n v,look σ n = some v → tm[n]? = some v) (l : Nat) {a : Nat} (x : Value) (ha : a < N) :
  Fr ((a,x) :: σ) N ⟨[],some l⟩ { tmps := (#[a].zip #[x]).foldl (fun tmps (t,v) => tmps.setIfInBounds t v) tm,defers := [] } := by
 have := (Fr.round (σ := σ) (N := N) hsz h l).put ha x
 simpa [Act.put] using this
def seqR (b : Nat) (P : List Int) : Res := fun h => ∃ a c,P.length ≤ c ∧ Sep [pts b (.cells #[.slice a P.length c] 64),own 3 1 a c (ints .i64 P)] h
theorem St.openSeq {W : World} {F : Nat → Prop} {b : Nat} {P : List Int} {rs : List Res} {w : World} (hS : St W F (seqR b P :: rs) w) : ∃ a c,P.length ≤ c ∧ St W F (pts b (.cells #[.slice a P.length c] 64) :: own 3 1 a c (ints .i64 P) :: rs) w := by
 obtain ⟨h,⟨h1,h2,⟨a,c,hc,hs⟩,hr,hd,hu⟩,s⟩ := hS
 exact ⟨a,c,hc,h,Sep.append_mk hs hr hd hu,s⟩
theorem St.shutSeq {W : World} {F : Nat → Prop} {b c : Nat} {a : Option Addr} {P : List Int} {rs : List Res} {w : World} (hc : P.length ≤ c) (hS : St W F (pts b (.cells #[.slice a P.length c] 64) :: own 3 1 a c (ints .i64 P) :: rs) w) : St W F (seqR b P :: rs) w :=
 St.shutR (rs' := [pts b (.cells #[.slice a P.length c] 64),own 3 1 a c (ints .i64 P)]) hS fun _ hh => ⟨a,c,hc,hh⟩
theorem Zvs (bx r : Nat) (A : AV) (T : TypeId) (W : World) (hm : Rd W (mapq (Value.int .i64) r A.vals)) (hbx : Rd W (pts bx (.cells #[.map (some r)] T))) (hAl : A.length ≤ 1000) :
  Calls Tryz.prog 270 #[.slice none 0 0,.func (.func 247) #[] #[.pointer (some ⟨bx,0,none⟩)]] W (Ret fun v w => ∃ P a c,v = .slice a P.length c ∧ P.length ≤ c ∧ P.Perm (Zaw A) ∧ St W noF [own 3 1 a c (ints .i64 P)] w) := by
 have hmo := hm.ro
 have hbo := hbx.ro
 have hS := St.start W
 refine Zab Tryz.func270 rfl Tryz.ntmps270 rfl ?_
 repeat (first|refine Yea ?_|refine Yen ?_|refine Ya5 (fun _ _ hS _ => ?_)|refine Yed ?_|refine Yab ?_)
 rename_i b2 _ _;have hS := hS.own_none 3 1 none
 have hS : St W noF [seqR b2 []] _ := (hS.pick [1,0]).shutSeq (Nat.le_refl _)
 refine Zhg (first := []) (captured := [.pointer (some ⟨bx,0,none⟩)])
  (fun l rr j w => j = none ∧ ∃ P it o lo,P.Perm (Zaw A) ∧ St W noF [pts l lo,pts rr (.deferred (some [])),pts it o,seqR b2 P] w) rfl rfl hS ?_ ?_ ?_
 ·intro Aa B hA hB fn tm l rr w1 htm hlook hS
  refine Zga (Z47 l bx r A T w1 W noF (fun P => [pts l (.loop (recd fn tm #[7] Aa B rr .ready none)),pts rr (.deferred (some [])),seqR b2 P]) hmo hbo ?_ hS) ?_
  ·intro P k it o w hPl hS
   refine ⟨_,rfl,hS.has (b := l),?_⟩
   show RoundIn Fence.wide 0 Tryz.prog l fn ((#[7].zip _).foldl _ tm) Aa B w _
   refine Zrs (Fr.round1 (a := 7) htm hlook l (.int .i64 k) (by decide)) ?_
   refine C_eq hA ?_
   repeat (first|refine Yea ?_|refine Yag ?_|refine Yad ?_)
   refine Zo3 (hS.has (b := l)) (fun w hset => ?_)
   replace hS := hS.upd hset
   refine C_eq hB ?_
   obtain ⟨a,c,hc,hS⟩ := (hS.pick [3,0,0,0]).openSeq
   repeat (first|refine Yaa ?_|refine Yaf ?_|refine Yap ?_|refine Ybn (fun _ _ hS _ => ?_)|refine Yad ?_|refine Yal ?_)
   refine Zar (m := 1) rfl rfl rfl rfl rfl hS (by rw [ints_length,Nat.mul_one]) hc ((hS.rd (List.mem_cons_self ..)).own_row) (by simp) (by simp [Value.oneCell']) (by omega) (by simp only [maxLen]; omega) (fun a' c' w hS hc' _ => ?_)
   repeat (first|refine Yea ?_|refine Yao (fun _ hS _ => ?_)|refine Yaw ?_)
   refine Zln (hS.has (b := l)) (fun w hset => ⟨_,rfl,rfl,?_⟩)
   replace hS := hS.upd hset
   have h := hS.took (out := [pts b2 (.cells #[.slice a' (P.length + 1) c'] 64),own 3 1 a' c' (ints .i64 P ++ [.int .i64 k]),pts it o,pts l (.loop (recd fn tm #[7] Aa B rr .ready none)),pts rr (.deferred (some []))])
   have h2 : St W noF [seqR b2 (P ++ [k]),pts it o,pts l (.loop (recd fn tm #[7] Aa B rr .ready none)),pts rr (.deferred (some []))] w := St.shutSeq (b := b2) (P := P ++ [k]) (a := a') (c := c') (by simpa using hc') (by rw [Zkx,List.length_append]; exact h)
   exact h2.pick [1,1,1,0]
  ·rintro _ w3 ⟨P,it,o,hp,hS⟩
   exact ⟨_,_,by simp,hS.has (b := l),fun w4 hset => ⟨rfl,P,it,o,_,hp,(hS.upd hset).pick [1,1,0,0]⟩⟩
 ·rintro l rr w4 ⟨_,P,it,o,lo,hp,hS⟩
  obtain ⟨a,c,hc,hS⟩ := (hS.pick [3,0,0,0]).openSeq
  repeat (first|refine Yea ?_|refine Yag ?_|refine Yap ?_|refine Ye1 ?_|refine Yab ?_|refine Zo1 rfl ?_|refine Yaw ?_)
  refine Zum (.inl rfl) hS.has (fun w hset => ?_)
  replace hS := hS.upd hset
  repeat (first|refine Yam ?_)
  exact ⟨P,a,c,rfl,hc,hp,hS.took⟩
 ·rintro l rr c w4 hJ
  cases hJ.1
theorem Z0r (bx r : Nat) (A : AV) (T : TypeId) (W : World) (hm : Rd W (mapq (Value.int .i64) r A.vals)) (hbx : Rd W (pts bx (.cells #[.map (some r)] T))) (hAl : A.length ≤ 1000) :
  Calls Tryz.prog 245 #[.func (.func 247) #[] #[.pointer (some ⟨bx,0,none⟩)]] W (Ret fun v w => ∃ P a c,v = .slice a P.length c ∧ P.length ≤ c ∧ P.Perm (Zaw A) ∧ St W noF [own 3 1 a c (ints .i64 P)] w) := by
 have hmo := hm.ro
 have hbo := hbx.ro
 have hS := St.start W
 refine Zab Tryz.func245 rfl Tryz.ntmps245 rfl ?_
 repeat (first|refine Yea ?_|refine Yen ?_|refine Yeb ?_|refine Yab ?_)
 refine Zaa _ rfl rfl rfl rfl rfl (Zvs bx r A T _ (hmo.rd hS) (hbo.rd hS) hAl) ?_
 rintro _ w ⟨P,a,c,rfl,hc,hp,hS'⟩
 replace hS := hS.plus hS';clear hS';repeat (first|refine Yea ?_|refine Yag ?_|refine Yah ?_|refine Yec ?_)
 exact ⟨P,a,c,rfl,hc,hp,hS.took⟩
theorem Z4h (a : Option Addr) (c : Nat) (w : World) : Calls Tryz.prog 246 #[.slice a 0 c] w (Ret fun _ w' => w' = w) :=
 (Tryz.slices_Sort_int_none a c w).mono fun _ _ h => ⟨_,h.1,h.2⟩
theorem Z4g (b c : Nat) (P : List Int) (w : World) (hH : Sort.Holds (Value.int .i64) w b 0 P.toArray) (hlt : b < w.heap.size) (hl : P.length < 4611686018427387904) :
  Calls Tryz.prog 246 #[.slice (some ⟨b,0,none⟩) P.length c] w (Ret fun _ w' => ∃ n os,w' = Sort.grow (Sort.putRow (Value.int .i64) (Sort.ahead w n) b 0 (P.mergeSort fun x y => decide (x ≤ y)).toArray) os) :=
 (Tryz.slices_Sort_int b 0 c P w hH hlt hl).mono fun _ _ h => ⟨_,h.1,h.2⟩
theorem Z2g (bx r : Nat) (A : AV) (T : TypeId) (W : World) (hm : Rd W (mapq (Value.int .i64) r A.vals)) (hbx : Rd W (pts bx (.cells #[.map (some r)] T))) (hAl : A.length ≤ 1000) :
    Calls Tryz.prog 215 #[.func (.func 247) #[] #[.pointer (some ⟨bx,0,none⟩)]] W (Ret fun v w => ∃ P a c,v = .slice a P.length c ∧ P.length ≤ c ∧ P.Perm (Zaw A) ∧ P.Pairwise (· ≤ ·) ∧ St W noF [own 3 1 a c (ints .i64 P)] w) := by
  have hmo := hm.ro
  have hbo := hbx.ro
  have hS := St.start W
  refine Zab Tryz.func215 rfl Tryz.ntmps215 rfl ?_
  repeat (first|refine Yea ?_|refine Yen ?_|refine Yeb ?_|refine Yab ?_)
  refine Zaa _ rfl rfl rfl rfl rfl (Z0r bx r A T _ (hmo.rd hS) (hbo.rd hS) hAl) ?_
  rintro _ w ⟨P,a,c,rfl,hc,hp,hS'⟩
  replace hS := hS.plus hS';clear hS';repeat (first|refine Yea ?_|refine Yen ?_|refine Yeb ?_|refine Yab ?_)
  by_cases h0 : P.length = 0
  · obtain rfl : P = [] := List.length_eq_zero_iff.1 h0
    refine Zaa _ rfl rfl rfl rfl rfl (Z4h a c _) ?_
    rintro v w' rfl
    repeat (first|refine Yea ?_|refine Yen ?_|refine Ye1 ?_|refine Yec ?_)
    exact ⟨[],a,c,rfl,hc,hp,List.Pairwise.nil,hS.took⟩
  · obtain ⟨b,rfl⟩ := hS.ownBase (by intro e; exact h0 (by simpa [ints] using congrArg List.length e))
    obtain ⟨hH,hlt⟩ := hS.ownHolds (by omega)
    have hlen := hp.length_eq
    rw [show (Zaw A).length = A.length by simp [Zaw]] at hlen
    refine Zaa _ rfl rfl rfl rfl rfl (Z4g b c P _ hH hlt (by omega)) ?_
    rintro v w' ⟨n,os,rfl⟩
    have hPm : (P.mergeSort fun x y => decide (x ≤ y)).length = P.length := List.length_mergeSort _
    replace hS := hS.sorted (P.mergeSort fun x y => decide (x ≤ y)) hPm (by omega) n os
    repeat (first|refine Yea ?_|refine Yen ?_|refine Ye1 ?_|refine Yec ?_)
    refine ⟨P.mergeSort fun x y => decide (x ≤ y),_,c,by rw [hPm],by rw [hPm]; exact hc,(List.mergeSort_perm _ _).trans hp,?_,hS.took⟩
    have := List.pairwise_mergeSort (le := fun x y => decide (x ≤ y)) (fun a b c h1 h2 => by simp only [decide_eq_true_eq] at h1 h2 ⊢; omega) (fun a b => by simp only [Bool.or_eq_true,decide_eq_true_eq]; omega) P
    exact this.imp (fun h => by simpa using h)
theorem Z43 (r : Nat) (W : World) : Calls Tryz.prog 216 #[.map (some r)] W (Ret fun v w => ∃ bx,v = .func (.func 247) #[] #[.pointer (some ⟨bx,0,none⟩)] ∧ St W noF [pts bx (.cells #[.map (some r)] 186)] w) := by
 have hS := St.start W
 refine Zab Tryz.func216 rfl Tryz.ntmps216 rfl ?_
 repeat (first|refine Yea ?_|refine Yag ?_|refine Ycg ?_|refine Ya5 (fun _ _ hS _ => ?_)|refine Ye1 ?_|refine Yec ?_)
 exact ⟨_,rfl,hS.took⟩
def Zpc (T : Tb) : List Int := ((List.range T.length).filter fun i => (T.getD i none).isSome).map fun i => ((i : Nat) : Int)
theorem Zpb (T : Tb) : (Zpc T).Pairwise (· < ·) := by
  unfold Zpc
  rw [List.pairwise_map];exact (List.pairwise_lt_range.sublist List.filter_sublist).imp (fun h => by omega)
theorem Zl8 : ∀ {P Q : List Int},P.Pairwise (· < ·) → Q.Pairwise (· < ·) → (∀ x,x ∈ P ↔ x ∈ Q) → P = Q
  | [],[],_,_,_ => rfl
  | [],y :: Q,_,_,h => absurd ((h y).2 (List.mem_cons_self ..)) (List.not_mem_nil)
  | x :: P,[],_,_,h => absurd ((h x).1 (List.mem_cons_self ..)) (List.not_mem_nil)
  | x :: P,y :: Q,hP,hQ,h => by
    have hP' := List.pairwise_cons.1 hP
    have hQ' := List.pairwise_cons.1 hQ
    have e : x = y := by
      rcases List.mem_cons.1 ((h x).1 (List.mem_cons_self ..)) with e | hx
      · exact e
      · rcases List.mem_cons.1 ((h y).2 (List.mem_cons_self ..)) with e | hy
        · exact e.symm
        · have h1 := hQ'.1 x hx
          have h2 := hP'.1 y hy
          omega
    subst e
    congr 1
    refine Zl8 hP'.2 hQ'.2 fun z => ⟨fun hz => ?_,fun hz => ?_⟩
    · rcases List.mem_cons.1 ((h z).1 (List.mem_cons_of_mem _ hz)) with e | hz'
      · subst e; exact absurd (hP'.1 z hz) (by omega)
      · exact hz'
    · rcases List.mem_cons.1 ((h z).2 (List.mem_cons_of_mem _ hz)) with e | hz'
      · subst e; exact absurd (hQ'.1 z hz) (by omega)
      · exact hz'
section
variable {rd fs : List Int} {tp lp p j m n nb : Nat} {T : Tb}
theorem Zup {A : AV} {dat : List (List UInt8)} (h : TabOk rd fs n nb T A dat) {P : List Int} (hp : P.Perm (Zaw A)) (hs : P.Pairwise (· ≤ ·)) : P = Zpc T := by
  have hn : P.Nodup := hp.nodup_iff.2 (by rw [← Zp7]; exact h.enc.nodup)
  refine Zl8 ?_ (Zpb T) fun x => ?_
  · have := hs.and hn
    exact this.imp (fun h => by omega)
  · rw [hp.mem_iff]
    have hat := h.at_ x
    have hk : x ∈ Zaw A ↔ (atT T x).isSome = true := by
      rw [← hat,Option.isSome_map];have := getA_none (k := x) (l := A)
      cases hg : getA x A with
      | none => simp [this.1 hg]
      | some v =>
        simp only [Option.isSome_some,iff_true]
        exact Decidable.byContradiction fun q => by rw [this.2 q] at hg; cases hg
    rw [hk];unfold Zpc atT
    constructor
    · intro hx
      split at hx
      · rename_i h0
        have hlt : x.toNat < T.length := by
          rcases Nat.lt_or_ge x.toNat T.length with h | h
          · exact h
          · rw [List.getD_eq_getElem?_getD,List.getElem?_eq_none h] at hx; cases hx
        exact List.mem_map.2 ⟨x.toNat,List.mem_filter.2 ⟨List.mem_range.2 hlt,hx⟩,by omega⟩
      · cases hx
    · intro hx
      obtain ⟨i,hi,rfl⟩ := List.mem_map.1 hx
      rw [if_pos (by omega),Int.toNat_natCast];exact (List.mem_filter.1 hi).2
theorem Z6o {r : Nat} {A : AV} {dat : List (List UInt8)} (W : World) (hI : ItabRd W rd fs tp lp p j m n nb T r A dat) : Calls Tryz.prog 155 #[.pointer (some ⟨tp,0,none⟩)] W (Ret fun v w => ∃ a c,v = .slice a (Zpc T).length c ∧ (Zpc T).length ≤ c ∧ St W noF [own 3 1 a c (ints .i64 (Zpc T))] w) := by
 have hc := hI.t.ro
 have hmo := hI.mp.ro
 have hAl : A.length ≤ 1000 := by
  have h1 := hI.ok.enc.nodup
  have h2 := hI.ok.enc.keys
  have h4 := hI.ok.n4
  have h3 : (Zaw A.ents).length ≤ ((List.range n).map fun i => ((i : Nat) : Int)).length := h1.length_le_of_subset fun k hk => by
   have := h2 k hk
   exact List.mem_map.2 ⟨k.toNat,List.mem_range.2 (by omega),by omega⟩
  simp [Zaw,AV.ents] at h3
  omega
 have hS := St.start W
 refine Zab Tryz.func155 rfl Tryz.ntmps155 rfl ?_
 repeat (first|refine Yea ?_|(refine X_id ?_;first|refine Yaf ?_|refine Yag ?_|refine Yau ?_|refine Yan ?_|refine Ybu ?_|refine Yca ?_)|refine Yem ?_|refine Yab ?_)
 refine Zaa _ rfl rfl rfl rfl rfl (Z43 r _) ?_
 rintro _ w ⟨bx,rfl,hS'⟩
 replace hS := hS.plus hS';clear hS';repeat (first|refine Yaa ?_)
 refine Zaa _ rfl rfl rfl rfl rfl (Z2g bx r A _ _ (hmo.rd hS) (hS.rd (List.mem_cons_self ..)) hAl) ?_
 rintro _ w ⟨P,a,c,rfl,hc2,hp,hs,hS'⟩
 replace hS := hS.plus hS';clear hS';obtain rfl := Zup hI.ok hp hs
 repeat (first|refine Yea ?_|refine Yag ?_|refine Yah ?_|refine Yec ?_)
 exact ⟨a,c,rfl,hc2,hS.took⟩
end
section
open Go.MapKept
variable {α : Type} [DecidableEq α]
variable {P : Program} {o : Oper} {σ : Env} {w : World} {x y : Operand} {t kt et : TypeId} {N : Nat} {ds : Md} {K : Env → World → Prop} {mk : α → Value} {dd : TypeDesc}
theorem Zyk {r : Nat} {L : List (α × Value)} {k : α} {v : Value} {W : World} {F : Nat → Prop} {rs : List Res} {z : Operand} (ho : o.op = .insert t x y z) (hx : ev σ x = some (.map (some r))) (hy : ev σ y = some (mk k)) (hz : ev σ z = some v) [hu : Und P t (.map kt et)] [hkt : Und P kt dd] [hK : Key dd mk]
  (hd : o.dst = none) (hS : St W F (mapq mk r L :: rs) w) (hk : ∀ w',St W F (mapq mk r (setM k v L) :: rs) w' → K σ w') : X P o N ds σ w K := ⟨fun f ha K' Q' hKK => by
 obtain ⟨es,clock,hes,hst,hS2⟩ := hS.openMap
 have hb : w.heap[r]? = some (.map es clock) := hS2.get
 obtain ⟨q,g1,g2,_⟩ := Zdb (hk := hK) k L es.toList 0 hes
 have hc := run_checkKey (P := P) (w := w) hkt.und (hK.isKey k) false 9999
 have hf := run_findKey (P := P) (w := w) hkt.und g1
 have hg : (getObj r).run P w = .ok (.map es clock) w := by simp [getObj,Sem.run,hb]
 have hset : ∀ o',(setObj r o').run P w = .ok () { w with heap := w.heap.setIfInBounds r o' } := fun o' => run_setObj_map o' hb
 unfold Oper.wp
 have key : ∃ es' clock',(execOp f.eval o).run P w = .ok .skip { w with heap := w.heap.setIfInBounds r (.map es' clock') } ∧ kvs es' = (setM k v L).map (fun x => (mk x.1,x.2)) ∧ StampOk es' clock' := by
  cases hq : q with
  | none =>
   subst hq
   refine ⟨es.push { key := mk k,val := v,born := clock },clock + 1,?_,?_,Zl6 hst _ _⟩
   ·simp only [execOp,ho,ha.eval hx,ha.eval hy,ha.eval hz,Instr.mapUpdate,Sem.run_bind,run_underlying hu.und,hg,hc,hf,hset,Result.andThen_ok,Sem.run_pure]
   ·rw [Zho (by rw [← g2]; rfl)]
    have hes' : es.toList.map (fun e => (e.key,e.val)) = L.map (fun x => (mk x.1,x.2)) := hes
    simp [kvs,hes']
  | some p =>
   obtain ⟨j,u⟩ := p
   subst hq
   obtain ⟨g4,g5,g6⟩ := Zhn (v := v) L es.toList 0 hes j u g1
   simp only [Nat.sub_zero] at g4 g6
   have hek : ((es[j]?).map (·.key)).getD (mk k) = mk k := by
    rw [← Array.getElem?_toList,g6]; rfl
   refine ⟨es.modify j fun e => { e with key := mk k,val := v },clock,?_,?_,Zi8 hst _ _ (fun _ => rfl)⟩
   ·simp only [execOp,ho,ha.eval hx,ha.eval hy,ha.eval hz,Instr.mapUpdate,Sem.run_bind,run_underlying hu.und,hg,hc,hf,hset,Result.andThen_ok,Sem.run_pure,hek,Instr.keyThatStays,hK.bits,if_true]
   ·simpa [kvs,Array.toList_modify] using g4
 obtain ⟨es',clock',hexec,hes',hst'⟩ := key
 rw [hexec];have u := Za4 (o' := .map es' clock') hb
 refine hKK _ _ _ (?_ : Fr σ N ds _) (hk _ ((hS2.set u).head fun h hh => ⟨es',clock',hes',hst',hh⟩))
 rw [hd]; exact ha⟩
end
section
open Go.MapKept
variable {α : Type}
variable {P : Program} {o : Oper} {σ : Env} {w : World} {x : Operand} {t kt et : TypeId} {mk : α → Value}
theorem Zyc {r : Nat} {L : List (α × Value)} (ho : o.op = .call { callee := .builtin .len,args := #[x],argTypes := #[t] }) (hx : ev σ x = some (.map (some r))) [h : Und P t (.map kt et)] (hr : Rd w (mapr mk r L)) : Yl P o σ w (.int .i64 L.length) := ⟨fun N ds f ha => by
 obtain ⟨g,⟨es,clock,hes,rfl⟩,hag⟩ := hr
 have hb : w.heap[r]? = some (.map es clock) := hag r _ (Zao _ _)
 have hg : (getObj r).run P w = .ok (.map es clock) w := by simp [getObj,Sem.run,hb]
 have hl : es.size = L.length := by
  have := congrArg List.length hes
  simpa using this
 simp [execOp,ho,resolve,invoke,builtin,Builtin.len_,ha.eval hx,run_underlying h.und,goInt,hg,hl]⟩
end
theorem Zii {rd fs : List Int} {tp lp p j m n nb : Nat} {T : Tb} {W : World} {F : Nat → Prop} (h : Ro W F (itab rd fs tp lp p j m n nb T)) : TabOf W F tp n (atT T) := by
 refine ⟨fun w hw => ?_,fun w no hw => ?_⟩
 ·obtain ⟨r,A,dat,hI⟩ := (hw _ h).itab
  exact Z4z w hI
 ·obtain ⟨r,A,dat,hI⟩ := (hw _ h).itab
  cases hT : atT T no with
  | none => exact Z0g no hT w hI
  | some x => exact Z0f no x hT w hI
def rootNd : Nd := ⟨⟨1,493,0,0⟩,wrD []⟩
theorem Zux (W : World) (a : Option Addr) (c : Nat) : Calls Tryz.prog 154 #[.slice a 0 c] W (Ret fun v w => v = .bool true ∧ St W noF [] w) := by
 have hS := St.start W
 refine Zab Tryz.func154 rfl Tryz.ntmps154 rfl ?_
 repeat (first|refine Yea ?_|refine Yfj ?_|refine Yed ?_|refine Yab ?_)
 refine Zal (α := Unit) (fun _ => [(6,.int .i64 0),(7,.int .i64 0)]) (fun _ w => St W noF [] w) (fun _ => 0) () ⟨rfl,rfl,trivial⟩ hS ?_
 clear hS;rintro _ w hS
 repeat (first|refine Yea ?_|refine Yag ?_|refine Ya6 ?_|refine Yej ?_|refine Yfe ?_)
 exact ⟨rfl,hS⟩
theorem Zuv {rd fs : List Int} {tp lp p j m n nb : Nat} {T : Tb} (W : World) (hIt : Ro W noF (itab rd fs tp lp p j m n nb T)) (hG : Lg W noF) (h0 : atT T 0 = some rootNd) (hu : (Zpc T).length = 1) :
  Calls Tryz.prog 89 #[.pointer (some ⟨tp,0,none⟩)] W (Ret fun v w => v = .bool true ∧ St W noF [] w) := by
 have hS := St.start W
 have htab := Zii hIt
 have hrl : rootNd.data.length = 2 := by show (wrD []).length = 2; rw [Zrf]; rfl
 have hrd : rdD rootNd.data = [] := Zwo (l := []) fun x hx => by cases hx
 refine Zab Tryz.func89 rfl Tryz.ntmps89 rfl ?_
 repeat (first|refine Yea ?_|refine Yag ?_|refine Yeb ?_|refine Yab ?_)
 refine Zff (Value.int .i64) rfl rfl rfl hS (fun mr w hS => ?_)
 repeat (first|refine Yaa ?_)
 refine Zyk (mk := Value.int .i64) (k := 0) rfl rfl rfl rfl rfl hS (fun w hS => ?_)
 repeat (first|refine Yea ?_|refine Yen ?_|refine Ybn (fun _ _ hS _ => ?_)|refine Yed ?_|refine Yab ?_)
 have hS1 : St W noF [mapq (Value.int .i64) mr [((0 : Int),Value.bool true)]] _ := hS.drop
 rename_i lb _ _;have hS0 : St W noF [own 3 1 (some ⟨lb,0,none⟩) 1 [.int .i64 0],mapq (Value.int .i64) mr [((0 : Int),Value.bool true)]] _ := hS
 clear hS hS1;refine Zal (α := Nat × Option Addr × Nat × Nat) (fun z => [(0,.pointer (some ⟨tp,0,none⟩)),(3,.map (some mr)),(4,.slice z.2.1 z.2.2.1 z.2.2.2),(5,.int .i64 (z.1 : Nat))])
  (fun z w => (z = (0,some ⟨lb,0,none⟩,1,1) ∧ St W noF [own 3 1 (some ⟨lb,0,none⟩) 1 [.int .i64 0],mapq (Value.int .i64) mr [((0 : Int),Value.bool true)]] w) ∨ (z = (1,none,0,0) ∧ St W noF [mapq (Value.int .i64) mr [((0 : Int),Value.bool true)]] w)) (fun z => z.2.2.1) (0,some ⟨lb,0,none⟩,1,1) ⟨rfl,rfl,rfl,rfl,trivial⟩ (.inl ⟨rfl,hS0⟩) ?_
 clear hS0;rintro z w (⟨rfl,hS⟩ | ⟨rfl,hS⟩)
 ·simp only
  repeat (first|refine Yea ?_|refine Yaf ?_|refine Yag ?_|refine Yav ?_|refine Ybx ?_|refine Yee ?_|refine Yab ?_)
  refine Zal (α := Nat) (fun i => [(0,.pointer (some ⟨tp,0,none⟩)),(3,.map (some mr)),(5,.int .i64 (0 : Nat)),(6,.slice none 0 0),(22,.slice (some ⟨lb,0,none⟩) 1 1),(23,.int .i64 (1 : Nat)),(24,.int .i64 (i : Nat))]) (fun i w => i ≤ 1 ∧ St W noF [own 3 1 (some ⟨lb,0,none⟩) 1 [.int .i64 0],mapq (Value.int .i64) mr [((0 : Int),Value.bool true)]] w) (fun i => 1 - i) 0 ⟨rfl,rfl,rfl,rfl,rfl,rfl,rfl,trivial⟩ ⟨Nat.zero_le _,hS⟩ ?_
  clear hS;rintro i w ⟨hi,hS⟩
  by_cases hi0 : i = 0
  ·subst hi0
   have hr := (hS.rd (List.mem_cons_self ..)).own_row
   have hx : ([Value.int .i64 0] : List Value)[0]? = some (.int .i64 0) := rfl
   repeat (first|refine Yea ?_|refine Yfk ?_|refine Yee ?_|refine Yab ?_)
   clear hr;refine Zaa _ rfl rfl rfl rfl rfl (htab.get _ 0 fun r h => h.rd hS) ?_
   rintro v w hV
   rw [h0] at hV;obtain ⟨a,q,rfl,hq,hS'⟩ := hV
   replace hS := hS.plus hS';clear hS';repeat (first|refine Yer ?_|(refine X_id ?_;first|refine Yaf ?_|refine Yag ?_|refine Yan ?_|refine Yat ?_|refine Ya1 ?_|refine Ya4 ?_|refine X_yl (Zm0 rfl rfl rfl) rfl rfl ?_|refine X_yl (Zm1 rfl rfl rfl) rfl rfl ?_|refine Yap ?_|refine Yao (fun _ hS _ => ?_)|refine Yar (fun _ _ hS _ => ?_))|refine Yem ?_|refine Yab ?_)
   refine Zaa _ rfl rfl rfl rfl rfl (Z04 a rootNd.data q _ ((hS.rd (r := own 5 1 a q (bv rootNd.data)) (by simp)).own_row.ro) hq (by rw [hrl]; decide) (hG.at_ hS)) ?_
   rintro _ w ⟨nb,nc,rfl,hS'⟩
   replace hS := hS.plus hS';clear hS';rw [hrd] at hS ⊢;simp only [List.length_nil]
   repeat (first|refine Yea ?_|refine Yag ?_|refine Yae ?_|refine Yab ?_)
   refine Zam (.s 0 (.s 2 (.s 3 (.h 1 (.h 4 (.s 5 (.s 6 (.s 7 (.h 8 (.s 9 (.s 10 (.s 11 (.s 12 (.s 13 (.s 14 (.s 15 (.s 16 (.s 17 (.s 18 (.s 19 .nil))))))))))) .no)))) .no) .no)))) mixed (by kernel_rfl) rfl ?_
   have hS := hS.drew
   repeat (first|(refine Zae ?_;first|refine Ya3 ?_|refine Ybe ?_|refine Ybk ?_|refine Yas ?_))
   refine Zaa _ rfl rfl rfl rfl rfl (Zkd nb [] nc _ (Zfq _ _ _) ⟨by decide,fun _ h => (by cases h)⟩ (hG.at_ hS)) ?_
   rintro _ w ⟨b3,q3,rfl,hq3,hS'⟩
   replace hS := hS.plus hS';clear hS';repeat (first|(refine Zae ?_;first|refine Yas ?_)|(refine Zac ?_;first|refine Yaz ?_))
   refine Zaa _ rfl rfl rfl rfl rfl (Zx0 b3 a (wrD []).length rootNd.data.length q3 q (wrD []) rootNd.data _ ((hS.rd (r := own 5 1 b3 q3 (bv (wrD []))) (by simp)).own_row) ((hS.rd (r := own 5 1 a q (bv rootNd.data)) (by simp)).own_row) rfl rfl) ?_
   rintro _ _ ⟨rfl,rfl⟩
   rw [decide_eq_true (show wrD [] = rootNd.data from rfl)]
   repeat (first|(refine Zae ?_;first|refine Ya3 ?_|refine Ydd ?_|refine Yb6 ?_|refine Ycx ?_)|(refine Zac ?_;first|refine Yaz ?_))
   refine Zaa _ rfl rfl rfl rfl rfl (Zux _ nb nc) ?_
   rintro _ w ⟨rfl,hS'⟩
   replace hS := hS.plus hS';clear hS';repeat (first|refine Yea ?_|refine Yaf ?_|refine Yav ?_|refine Ye4 ?_|refine Yab ?_|(refine Zae ?_;first|refine Yay ?_|refine Ya3 ?_|refine Yb7 ?_|refine Yb6 ?_|refine Zbv rfl rfl rfl rfl (fun _ => Zfe rfl rfl rfl) rfl rfl ?_|refine Zbv rfl rfl rfl rfl (fun _ => Zgp rfl rfl) rfl rfl ?_|refine Yd0 ?_|refine Zbv rfl rfl rfl rfl (fun _ => Zor rfl rfl rfl (by omega)) rfl rfl ?_|refine Ycc ?_)|(refine Zac ?_;first|refine Yaz ?_))
   have hS : St W noF [own 3 1 (some ⟨lb,0,none⟩) 1 [.int .i64 0],mapq (Value.int .i64) mr [((0 : Int),Value.bool true)]] _ := hS.took
   refine Zal (α := Unit) (fun _ => [(0,.pointer (some ⟨tp,0,none⟩)),(3,.map (some mr)),(5,.int .i64 (0 : Nat)),(6,.slice none 0 0),(22,.slice (some ⟨lb,0,none⟩) 1 1),(23,.int .i64 (1 : Nat)),(24,.int .i64 (0 : Nat)),(70,.int .i64 0),(71,.int .i64 0)]) (fun _ w => St W noF [own 3 1 (some ⟨lb,0,none⟩) 1 [.int .i64 0],mapq (Value.int .i64) mr [((0 : Int),Value.bool true)]] w) (fun _ => 0) () ⟨rfl,rfl,rfl,rfl,rfl,rfl,rfl,rfl,rfl,trivial⟩ hS ?_
   clear hS;rintro _ w hS
   repeat (first|refine Yea ?_|refine Yaf ?_|refine Ya6 ?_|refine Ya0 ?_|refine Yeq ?_|refine Yab ?_|refine Yba ?_|refine Ybb ?_|refine Yaw ?_)
   exact Zaf (z := 0) 1 ⟨rfl,rfl,rfl,rfl,rfl,rfl,rfl,trivial⟩ ⟨Nat.le_refl _,hS⟩ (by omega)
  ·obtain rfl : i = 1 := by omega
   repeat (first|refine Yea ?_|refine Yaf ?_|refine Yag ?_|refine Ya6 ?_|refine Ya0 ?_|refine Yeq ?_|refine Yab ?_|refine Yba ?_|refine Ybb ?_|refine Yaw ?_)
   exact Zaf (z := (0,some ⟨lb,0,none⟩,1,1)) (1,none,0,0) ⟨rfl,rfl,rfl,rfl,trivial⟩ (.inr ⟨rfl,hS.drop⟩) (by simp)
 ·simp only
  repeat (first|refine Yea ?_|refine Yaf ?_|refine Yav ?_|refine Ybs ?_|refine Yeq ?_|refine Yeg ?_)
  refine X_yl (Zyc (mk := Value.int .i64) (L := [((0 : Int),Value.bool true)]) rfl rfl ((hS.rd (List.mem_cons_self ..)).mapq_r)) rfl rfl ?_
  repeat (first|refine Yaa ?_|refine Yaf ?_)
  obtain ⟨r,A,dat,hI⟩ := (hIt.rd hS).itab
  refine Zaa _ rfl rfl rfl rfl rfl (Z6o _ hI) ?_
  rintro _ w ⟨ua,uc,rfl,_,hS'⟩
  replace hS := hS.plus hS';clear hS';rw [hu];repeat (first|refine Yea ?_|refine Yag ?_|refine Yav ?_|refine Ycz ?_|refine Yah ?_|refine Yec ?_)
  exact ⟨rfl,hS.drops⟩
def Znu : Chg := ⟨0,rootNd,false⟩
def Zc3 (n : Nat) : Tb := some rootNd :: List.replicate (n - 1) none
theorem Zvr : Zjh (List.replicate 10 none) 40 30 [Znu] = (0,Zc3 10) := by kernel_rfl
theorem Zv7 {rd fs : List Int} {tp lp p m : Nat} (W : World) (F : Nat → Prop) (hG : Gl W F rd fs) (hL : Lg W F) (hm : (m : Int) < last) (hS : St W F [itab rd fs tp lp p 60 m 10 40 (List.replicate 10 none)] W) :
  Calls Tryz.prog 39 #[.pointer (some ⟨tp,0,none⟩)] W (Ret fun v w => ∃ f,v = .tuple #[.pointer (some ⟨f,0,none⟩),.int .i64 0] ∧ St W F [pts f (.cells (List.toArray [.pointer (some ⟨tp,0,none⟩),.int .i64 0]) 100 (0,0)),itab rd fs tp lp p 60 (m + 1) 10 40 (Zc3 10)] w) := by
 have h0 : atT (List.replicate 10 none) 0 = none := by kernel_rfl
 refine Zab Tryz.func39 rfl Tryz.ntmps39 rfl ?_
 repeat (first|refine Yea ?_|refine Yen ?_|refine Yeb ?_|refine Yab ?_)
 obtain ⟨F2,hS2,hro,hw,hbk⟩ := hS.call []
 have hIt := hro (itab rd fs tp lp p 60 m 10 40 (List.replicate 10 none)) (by simp)
 have htab := Zii hIt
 refine Zaa _ rfl rfl rfl rfl rfl (htab.get _ 0 fun r h => h.rd hS2) ?_
 rintro v w hV
 rw [h0] at hV;obtain ⟨rfl,hS'⟩ := hV
 replace hS := hS.plus hS';clear hS' hS2 hro hw hbk hIt htab;repeat (first|refine Yea ?_|(refine X_id ?_;first|refine Yaf ?_|refine Yag ?_|refine Yat ?_|refine Ybi ?_|refine Ybl ?_|refine Yao (fun _ hS _ => ?_)|refine Yar (fun _ _ hS _ => ?_))|refine Ye9 ?_|refine Yab ?_)
 refine Zaa _ rfl rfl rfl rfl rfl (Zkd none [] 0 _ (Zfq _ _ _) ⟨by decide,fun _ h => (by cases h)⟩ (hL.at_ hS)) ?_
 rintro _ w ⟨a,q,rfl,hq,hS'⟩
 replace hS := hS.plus hS';clear hS';repeat (first|refine Yaa ?_|refine Ybl ?_|refine Ybn (fun _ _ hS _ => ?_))
 rename_i b2 _ _;obtain ⟨_,hc,hr,hw,hbk⟩ := hS.call [false,false,false,true]
 have hro := hr (own 5 1 a q (bv (wrD []))) (by simp)
 have hrw := hr (own 193 7 (some ⟨b2,0,none⟩) 1 [.int .i64 0,.int .i64 1,.int .i64 493,.int .i64 0,.int .i64 0,.slice a (wrD []).length q,.bool false]) (by simp)
 have hC : Chgs _ _ (some ⟨b2,0,none⟩) [⟨Znu,a,q⟩] := ⟨hrw.own_row,fun x hx => by obtain rfl := List.mem_singleton.1 hx; exact hro.own_row⟩
 refine Zaa _ rfl rfl rfl rfl rfl (Z54 (some ⟨b2,0,none⟩) 1 [⟨Znu,a,q⟩] _ _ (hG.mono hw) hC (by simp) (by simp) hm hc) ?_
 rintro _ w ⟨rfl,hS⟩
 replace hS := hbk hS
 clear hc hr hw hbk hC hro hrw;have hap : Zjh (List.replicate 10 none) 40 (60 / 2) (([⟨Znu,a,q⟩] : List ChgA).map ChgA.c) = (0,Zc3 10) := Zvr
 rw [hap] at hS ⊢;simp only at hS ⊢
 repeat (first|refine Yer ?_|refine Yaf ?_|refine Yag ?_|refine Ybi ?_|refine Yeb ?_|refine Yei ?_)
 refine Zaa _ rfl rfl rfl rfl rfl (Zuv _ (hS.rd (r := itab rd fs tp lp p 60 (m + 1) 10 40 (Zc3 10)) (by simp)).ro (hL.at_ hS) rfl rfl) ?_
 rintro _ w ⟨rfl,hS'⟩
 replace hS := hS.plus hS';clear hS';repeat (first|refine Yer ?_|(refine X_id ?_;first|refine Yaf ?_|refine Yag ?_|refine Ya8 ?_|refine Ybd ?_|refine Ya4 ?_|refine Ybl ?_|refine Ya5 (fun _ _ hS _ => ?_))|refine Yfa ?_|refine Yex ?_)
 exact ⟨_,rfl,hS.took⟩
theorem St.newLog {W : World} {F : Nat → Prop} {rs : List Res} {w : World} {lp p j k : Nat} (hj : j ≤ 1024) (hS : St W F (Zcm lp p 1 0 0 j 0 false :: disk p (Zbf (1 + j + k)) :: rs) w) : St W F (qlog lp p j 0 (List.replicate k zero64) :: rs) w :=
 hS.shutQlog ⟨⟨rfl,rfl,by simp [Zbf]⟩,rfl,Int.le_refl _,Int.le_refl _,hj,fun i hi => by
  rw [List.length_replicate] at hi;simp only [Zbf,List.getD_eq_getElem?_getD,List.getElem?_replicate]
  rw [if_pos (by omega),if_pos hi]⟩
theorem Zo4 {k i : Nat} (h : i < k) : (List.replicate k zero64).getD i [] = zero64 := by
 rw [List.getD_eq_getElem?_getD,List.getElem?_replicate,if_pos h]; rfl
theorem Zy5 (b off : Nat) (x : Int) (l : List Value) (T : TypeId) (W : World) [hn : Nth l off (.int .i64 x)] (hc : W.heap[b]? = some (.cells l.toArray T)) :
  Calls Tryz.prog 41 #[.pointer (some ⟨b,off,none⟩)] W (Ret fun v w => v = .int .i64 x ∧ W = w) := by
 have hS := St.start W
 refine Zab Tryz.func41 rfl Tryz.ntmps41 rfl ?_
 repeat (first|refine Yea ?_|(refine X_id ?_;first|refine Yaf ?_|refine Yag ?_|refine Yau ?_|refine Yby ?_|refine Zym rfl rfl rfl (Za6 (by assumption)) rfl rfl ?_)|refine Ye1 ?_|refine Yec ?_)
 exact ⟨rfl,rfl⟩
def t0 : Tn := .mk [] 0 ⟨1,493,0,0⟩ [] []
theorem Z4d : TreeOk 10 t0 := by
 have hs : subT t0 = [t0] := by kernel_rfl
 refine ⟨fun u hu => ?_,?_,⟨rfl,rfl⟩,of_decide_eq_true (by kernel_rfl),of_decide_eq_true (by kernel_rfl)⟩
 case refine_2 =>
  rw [show (Zck t0).map (·.1) = [0] by kernel_rfl]
  simp
 rw [hs] at hu;obtain rfl := List.mem_singleton.1 hu
 exact ⟨by kernel_rfl,by decide,fun _ => ⟨rfl,of_decide_eq_true (by kernel_rfl)⟩,List.Pairwise.nil,fun k hk => (by cases hk),fun h => absurd rfl h⟩
theorem Z7o (no : Int) : Nt t0 no = atT (Zc3 10) no := by
 have he : Zck t0 = [(0,rootNd)] := by kernel_rfl
 unfold Nt
 rw [he];by_cases h0 : no = 0
 ·subst h0
  rfl
 ·unfold atT
  have h1 : getA no [((0 : Int),rootNd)] = none := by
   show (if _ then _ else _) = _
   rw [if_neg fun e => h0 e]
   rfl
  rw [h1]
  split
  ·next h =>
   obtain ⟨k,hk⟩ : ∃ k,no.toNat = k + 1 := ⟨no.toNat - 1,by omega⟩
   rw [hk,Zc3,List.getD_cons_succ,List.getD_eq_getElem?_getD,List.getElem?_replicate]
   split <;> rfl
  ·rfl
theorem Z2b {f tp : Nat} {b : Int} {T : Int → Option Nd} (W : World) (hb : Rd W (pts f (.cells (List.toArray [.pointer (some ⟨tp,0,none⟩),.int .i64 b]) 100 (0,0)))) :
  Calls Tryz.prog 8 #[.pointer (some ⟨f,0,none⟩)] W (Ret fun v w => ∃ c,v = .pointer (some ⟨c,0,none⟩) ∧ St W noF [chR c f b T T []] w) := by
 have hS := St.start W
 have hc := hb.ro
 refine Zab Tryz.func8 rfl Tryz.ntmps8 rfl ?_
 repeat (first|refine Yea ?_|(refine X_id ?_;first|refine Yaf ?_|refine Yag ?_|refine Yau ?_|refine Yan ?_|refine Ybu ?_)|refine Yem ?_|refine Yab ?_)
 refine Zaa _ rfl rfl rfl rfl rfl (Zy5 f 1 b _ _ _ (Rd.pts hb)) ?_
 rintro _ _ ⟨rfl,rfl⟩
 repeat (first|refine Yaa ?_)
 refine Zff (Value.int .i64) rfl rfl rfl hS (fun pm w hS => ?_)
 repeat (first|refine Yaa ?_)
 refine Zff (Value.int .i64) rfl rfl rfl hS (fun dm w hS => ?_)
 repeat (first|refine Yea ?_|refine Yag ?_|refine Ybl ?_|refine Ya5 (fun _ _ hS _ => ?_)|refine Yah ?_|refine Yec ?_)
 rename_i c _ _;have hS2 := hS.bagNil.pick [0,0,1,0]
 exact ⟨c,rfl,St.shutCh (P := []) (D := []) ⟨List.nodup_nil,List.nodup_nil,fun _ => rfl,fun x hx => (by cases hx)⟩ hS2⟩
theorem Z6u (W : World) : Calls Tryz.prog 40 #[.int .i64 10] W (Ret fun v w => ∃ r,v = .pointer (some ⟨r,0,none⟩) ∧ St W noF [] w) := by
 have hS := St.start W
 refine Zab Tryz.func40 rfl Tryz.ntmps40 rfl ?_
 repeat (first|refine Yea ?_|refine Yaf ?_|refine Yag ?_|refine Ybl ?_|refine Ya5 (fun _ _ hS _ => ?_)|refine Ye1 ?_|refine Yec ?_)
 exact ⟨_,rfl,hS.drops⟩
theorem Z2s (rd fs : List Int) : Zu3 rd fs (Zbf 112) 60 = ⟨0,Zbf 112,0,false⟩ := by kernel_rfl
theorem Z3b (rd fs : List Int) (W : World) (hG : Gl W noF rd fs) (hL : Lg W noF) : Calls Tryz.prog 7 #[] W (Ret fun v w => ∃ (q lp tp f r : Nat),v = .tuple #[.pointer (some ⟨q,0,none⟩),.pointer (some ⟨f,0,none⟩),.pointer (some ⟨r,0,none⟩)] ∧ St W noF [pts f (.cells (List.toArray [.pointer (some ⟨tp,0,none⟩),.int .i64 0]) 100 (0,0)),itab rd fs tp lp q 60 2 10 40 (Zc3 10)] w) := by
 have hS := St.start W
 refine Zab Tryz.func7 rfl Tryz.ntmps7 rfl ?_
 repeat (first|refine Yea ?_|refine Yag ?_|refine Yeb ?_|refine Yab ?_)
 refine Zaa _ rfl rfl rfl rfl rfl (new_ 112 _ (by omega) (by omega)) ?_
 rintro _ w ⟨q,rfl,hS'⟩
 replace hS := hS.plus hS';clear hS';repeat (first|refine Yea ?_|refine Yeo ?_|refine Yeb ?_|refine Yab ?_)
 have hopen := Z6z q (Zbf 112) 60 rd fs
 rw [Z2s] at hopen;obtain ⟨_,hc,hr,hw,hbk⟩ := hS.call [true]
 refine Zaa _ rfl rfl rfl rfl rfl (hopen _ _ (hG.mono hw) (by simp [Zbf]) hc) ?_
 rintro _ w (⟨h,_⟩ | ⟨_,lp,rfl,hS⟩)
 ·exact absurd rfl h
 replace hS := hbk hS
 clear hc hr hw hbk hopen;replace hS : St W noF [qlog lp q 60 0 (List.replicate 51 zero64)] w := St.newLog (k := 51) (by omega) hS
 repeat (first|refine Yea ?_|refine Yeo ?_|refine Yeb ?_|refine Yab ?_)
 obtain ⟨_,hc,hr,hw,hbk⟩ := hS.call [true]
 refine Zaa _ rfl rfl rfl rfl rfl (Z3c lp q 60 0 10 40 _ rd fs _ _ (hG.mono hw) (by simp) (by omega) (by omega) (by omega) (by omega) (by simp [last]) (Zo4 (by omega)) (fun i hi => Zo4 (by omega)) hc) ?_
 rintro _ w ⟨tp,rfl,hS⟩
 replace hS := hbk hS
 clear hc hr hw hbk;repeat (first|refine Yea ?_|refine Yeo ?_|refine Yeb ?_|refine Yab ?_)
 obtain ⟨_,hc,hr,hw,hbk⟩ := hS.call [true]
 refine Zaa _ rfl rfl rfl rfl rfl (Zv7 _ _ (hG.mono hw) (hL.mono hw) (by simp [last]) hc) ?_
 rintro _ w ⟨f,rfl,hS⟩
 replace hS := hbk hS
 clear hc hr hw hbk;repeat (first|refine Yer ?_|(refine X_id ?_;first|refine Yaf ?_|refine Yag ?_|refine Yat ?_|refine Ya1 ?_|refine Ya4 ?_)|refine Yem ?_|refine Yab ?_)
 refine Zaa _ rfl rfl rfl rfl rfl (Z6u _) ?_
 rintro _ w ⟨r,rfl,hS'⟩
 replace hS := hS.plus hS';clear hS';repeat (first|refine Yea ?_|refine Yag ?_|refine Yah ?_|refine Yab ?_|refine Ydo ?_)
 exact ⟨q,lp,tp,f,r,rfl,hS.took⟩
def logN : List UInt8 := [115,121,115,46,97,117,100,105,116]
abbrev tbC (c : Nat) (name : List UInt8) : Obj := .cells (List.toArray [.pointer (some ⟨c,0,none⟩),.string (str name)]) 107 (0,0)
theorem Zn2 : nameOk logN := by decide
theorem tof_ (c : Nat) (name : List UInt8) (hn : nameOk name) (W : World) : Calls Tryz.prog 9 #[.pointer (some ⟨c,0,none⟩),.string (str name)] W (Ret fun v w => ∃ tb,v = .tuple #[.pointer (some ⟨tb,0,none⟩),.int .i64 0] ∧ St W noF [pts tb (tbC c name)] w) := by
 have hS := St.start W
 have hN := fun W => Zwy name W
 simp only [decide_eq_true hn] at hN
 refine Zab Tryz.func9 rfl Tryz.ntmps9 rfl ?_
 repeat (first|refine Yea ?_|refine Yaf ?_|refine Yag ?_|refine Ybu ?_|refine Ye7 ?_|refine Yab ?_)
 refine Zaa _ rfl rfl rfl rfl rfl (hN _) ?_
 rintro _ w ⟨rfl,hS'⟩
 replace hS := hS.plus hS';clear hS';repeat (first|refine Yea ?_|(refine X_id ?_;first|refine Yaf ?_|refine Yag ?_|refine Ybd ?_|refine Ybl ?_|refine Ya5 (fun _ _ hS _ => ?_))|refine Yfa ?_|refine Yab ?_|refine Yaw ?_|refine Ybo ?_)
 exact ⟨_,rfl,hS⟩
theorem Z17 {rd fs : List Int} {tp lp p j m n nb f : Nat} {b : Int} {T : Tb} {W : World} {F : Nat → Prop} (h : Ro W F (pts f (.cells (List.toArray [.pointer (some ⟨tp,0,none⟩),.int .i64 b]) 100 (0,0)))) (hI : Ro W F (itab rd fs tp lp p j m n nb T)) : TreeRo W F f tp n b (atT T) := ⟨h,Zii hI⟩
section
variable {c f tp n : Nat} {b : Int} {T : Int → Option Nd} {t : Tn}
theorem Z40 (ht : TreeOk n t) {X : List RowD} (s : List UInt8) (cb pb kb : Nat) (z1 z2 z3 : Nat × Nat) (pa : Option Addr) (p : List (List UInt8)) (pc : Nat) (k : Int) (W : World) (F : Nat → Prop) (hT : TreeRo W F f tp n b T) (hG : Lg W F) (hp : Ro W F (row pa (strV p))) (hpl : p.length ≤ 1000)
  (h1 : Ro W F (pts cb (.cells (List.toArray [.pointer (some ⟨c,0,none⟩)]) 28 z1))) (h2 : Ro W F (pts pb (.cells (List.toArray [.slice pa p.length pc]) 40 z2))) (h3 : Ro W F (pts kb (.cells (List.toArray [.int .i64 k]) 3 z3))) (hS : St W F [chR c f b T (Nt t) X] W) :
  Calls Tryz.prog 191 #[.string (str s),.pointer (some ⟨cb,0,none⟩),.pointer (some ⟨pb,0,none⟩),.pointer (some ⟨kb,0,none⟩)] W (Ret fun v w => v = .bool (decide (Zb5 t (p ++ [s]) ≠ k)) ∧ ∃ X',(∀ x ∈ X,x ∈ X') ∧ St W F [chR c f b T (Nt t) X'] w) := by
 have hc := h1
 refine Zab Tryz.func191 rfl Tryz.ntmps191 rfl ?_
 repeat (first|refine Yea ?_|refine Yag ?_|refine Yeb ?_|refine Yab ?_)
 refine Zam (.s 0 (.s 1 (.s 3 (.s 7 (.h 2 (.h 4 (.h 5 (.h 6 (.s 8 (.s 9 .nil)) .no) .no) .no) (.h 4 (.h 2 (.h 5 (.h 6 (.s 8 (.s 9 .nil)) .no) .no) .no) .no)))))) mixed (by kernel_rfl) rfl ?_
 have hS := hS.drew
 have hq2 := (h2.rd hS).pts
 have hq3 := (h3.rd hS).pts
 repeat' (first|refine Zfg ?_ ?_|refine Ybn (fun _ _ hS _ => ?_)|(refine Zae ?_;first|refine Ya3 ?_|refine Yc1 ?_|refine Yas ?_|refine Ycy ?_)|(refine Zac ?_;first|refine Yc2 ?_))
 ·refine Zaa _ rfl rfl rfl rfl rfl (Zrn pa p pc _ (hp.rd hS) (by omega)) ?_
  rintro _ w ⟨a1,c1,rfl,hc1,hS'⟩
  replace hS := hS.plus hS';clear hS';repeat (first|refine Ybn (fun _ _ hS _ => ?_)|(refine Zae ?_;first|refine Yas ?_)|(refine Zac ?_;first|refine Yc2 ?_))
  have hnw := (hS.rd (List.mem_cons_self ..)).own_row
  refine Zar rfl rfl rfl rfl rfl hS (by rw [Zeu,Nat.mul_one]) hc1 hnw rfl (by simp [Value.oneCell']) (by omega) (by simp only [maxLen]; omega) (fun a2 c2 w hS hc2 _ => ?_)
  repeat (first|(refine Zae ?_;first|refine Yas ?_)|(refine Zac ?_;first|refine Yc2 ?_))
  obtain ⟨_,hcc,hr1,hw,hbk⟩ := hS.call [false,false,true]
  have hps : strV p ++ [Value.string (str s)] = strV (p ++ [s]) := by simp [strV]
  have hrow := hr1 _ (List.mem_cons_self ..)
  rw [hps] at hrow;have hln : p.length + 1 = (p ++ [s]).length := by simp
  rw [hln];refine Zaa _ rfl rfl rfl rfl rfl (Zpi ht _ (p ++ [s]) _ _ _ (hT.mono hw) (hG.mono hw) hrow.own_row (by simp; omega) hcc) ?_
  rintro _ w ⟨rfl,X',hX',hS⟩
  replace hS := hbk hS
  clear hbk hw hcc hr1;repeat (first|refine Yah ?_|refine Yec ?_|(refine Zae ?_;first|refine Yay ?_|refine Ybm ?_|refine Zak rfl rfl (fun _ => Zm0 rfl rfl rfl) rfl rfl ?_)|(refine Zac ?_;first|refine Yc2 ?_))
  exact ⟨rfl,X',hX',hS.took⟩
 ·refine Zaa _ rfl rfl rfl rfl rfl (Zrn pa p pc _ (hp.rd hS) (by omega)) ?_
  rintro _ w ⟨a1,c1,rfl,hc1,hS'⟩
  replace hS := hS.plus hS';clear hS';repeat (first|(refine Zae ?_;first|refine Yas ?_)|(refine Zac ?_;first|refine Yc2 ?_))
  have hnw := (hS.rd (List.mem_cons_of_mem _ (List.mem_cons_self ..))).own_row
  refine Zar rfl rfl rfl rfl rfl hS (by rw [Zeu,Nat.mul_one]) hc1 hnw rfl (by simp [Value.oneCell']) (by omega) (by simp only [maxLen]; omega) (fun a2 c2 w hS hc2 _ => ?_)
  repeat (first|(refine Zae ?_;first|refine Yas ?_)|(refine Zac ?_;first|refine Yc2 ?_))
  obtain ⟨_,hcc,hr1,hw,hbk⟩ := hS.call [false,false,true]
  have hps : strV p ++ [Value.string (str s)] = strV (p ++ [s]) := by simp [strV]
  have hrow := hr1 _ (List.mem_cons_self ..)
  rw [hps] at hrow;have hln : p.length + 1 = (p ++ [s]).length := by simp
  rw [hln];refine Zaa _ rfl rfl rfl rfl rfl (Zpi ht _ (p ++ [s]) _ _ _ (hT.mono hw) (hG.mono hw) hrow.own_row (by simp; omega) hcc) ?_
  rintro _ w ⟨rfl,X',hX',hS⟩
  replace hS := hbk hS
  clear hbk hw hcc hr1;repeat (first|refine Yah ?_|refine Yec ?_|(refine Zae ?_;first|refine Yay ?_|refine Ybm ?_|refine Zak rfl rfl (fun _ => Zm0 rfl rfl rfl) rfl rfl ?_)|(refine Zac ?_;first|refine Yc2 ?_))
  exact ⟨rfl,X',hX',hS.took⟩
end
section
variable {c f tp n : Nat} {b : Int} {T : Int → Option Nd} {t : Tn}
abbrev nmsF (cb pb kb : Nat) : Value := .func (.func 191) #[] #[.pointer (some ⟨cb,0,none⟩),.pointer (some ⟨pb,0,none⟩),.pointer (some ⟨kb,0,none⟩)]
theorem Z67 (ht : TreeOk n t) {X : List RowD} (a : Option Addr) (l : List (List UInt8)) (lc : Nat) (cb pb kb : Nat) (z1 z2 z3 : Nat × Nat) (pa : Option Addr) (p : List (List UInt8)) (pc : Nat) (k : Int) (W : World) (F : Nat → Prop) (hT : TreeRo W F f tp n b T) (hG : Lg W F) (hp : Ro W F (row pa (strV p))) (hpl : p.length ≤ 1000) (hl : Ro W F (row a (strV l))) (hll : l.length ≤ 1048576)
  (g1 : Ro W F (pts cb (.cells (List.toArray [.pointer (some ⟨c,0,none⟩)]) 28 z1))) (g2 : Ro W F (pts pb (.cells (List.toArray [.slice pa p.length pc]) 40 z2))) (g3 : Ro W F (pts kb (.cells (List.toArray [.int .i64 k]) 3 z3))) (hS : St W F [chR c f b T (Nt t) X] W) :
  Calls Tryz.prog 104 #[.slice a l.length lc,nmsF cb pb kb] W (Ret fun v w => (∃ X',(∀ x ∈ X,x ∈ X') ∧ St W F [chR c f b T (Nt t) X'] w) ∧ ((v = .int .i64 (-1) ∧ ∀ x ∈ l,Zb5 t (p ++ [x]) = k) ∨ ∃ i x,v = .int .i64 (i : Nat) ∧ l[i]? = some x ∧ Zb5 t (p ++ [x]) ≠ k ∧ ∀ j,j < i → ∀ y,l[j]? = some y → Zb5 t (p ++ [y]) = k)) := by
 refine Zab Tryz.func104 rfl Tryz.ntmps104 rfl ?_
 repeat (first|refine Yea ?_|refine Yfj ?_|refine Yed ?_|refine Yab ?_)
 refine Zal (α := Nat × List RowD) (fun z => [(0,.slice a l.length lc),(1,nmsF cb pb kb),(7,.int .i64 (l.length : Nat)),(8,.int .i64 (z.1 : Nat))])
  (fun z w => z.1 ≤ l.length ∧ (∀ j,j < z.1 → ∀ y,l[j]? = some y → Zb5 t (p ++ [y]) = k) ∧ (∀ x ∈ X,x ∈ z.2) ∧ St W F [chR c f b T (Nt t) z.2] w) (fun z => l.length - z.1) (0,X) ⟨rfl,rfl,rfl,rfl,trivial⟩ ⟨Nat.zero_le _,fun j hj => absurd hj (by simp),fun _ h => h,hS⟩ ?_
 clear hS;rintro ⟨i,X1⟩ w ⟨hi,hne,hX1,hS2⟩
 simp only at hi hne hX1 hS2
 by_cases hlt : i < l.length
 ·have hx0 : l[i]? = some l[i] := List.getElem?_eq_getElem hlt
  generalize l[i] = s at hx0;have hr := hl
  have hx : (strV l)[i]? = some (.string (str s)) := by unfold strV; rw [List.getElem?_map,hx0]; rfl
  obtain ⟨xb,xo,rfl⟩ := (hr.rd hS2).base (by intro e; rw [e] at hx; simp at hx)
  have hS := hS2
  repeat (first|refine Yea ?_|refine Yfk ?_|refine Yee ?_|refine Yab ?_)
  obtain ⟨_,hcc,hr1,hw,hbk⟩ := hS.call [true]
  refine Zb4 (first := []) (captured := [.pointer (some ⟨cb,0,none⟩),.pointer (some ⟨pb,0,none⟩),.pointer (some ⟨kb,0,none⟩)]) rfl rfl rfl rfl rfl (Z40 ht s cb pb kb z1 z2 z3 pa p pc k _ _ (hT.mono hw) (hG.mono hw) (hw _ hp) hpl (hw _ g1) (hw _ g2) (hw _ g3) hcc) ?_
  rintro _ w ⟨rfl,X2,hX2,hS⟩
  replace hS := hbk hS
  clear hbk hw hcc hr1;by_cases hk : Zb5 t (p ++ [s]) = k
  ·rw [decide_eq_false (fun h => h hk)]
   repeat (first|refine Yea ?_|refine Yef ?_|refine Yet ?_|refine Yei ?_)
   refine Zaf (z := (i,X1)) (i + 1,X2) ⟨rfl,rfl,rfl,rfl,trivial⟩ ⟨hlt,fun j hj y hy => ?_,fun x hx => hX2 x (hX1 x hx),hS⟩ (by dsimp only; omega)
   by_cases hji : j = i
   ·subst hji; rw [hx0] at hy; cases hy; exact hk
   ·exact hne j (by omega) y hy
  ·rw [decide_eq_true hk]
   repeat (first|refine Yea ?_|refine Yen ?_|refine Yek ?_|refine Yey ?_)
   exact ⟨⟨X2,fun x hx => hX2 x (hX1 x hx),hS⟩,.inr ⟨i,s,rfl,hx0,hk,hne⟩⟩
 ·obtain rfl : i = l.length := by omega
  have hS := hS2
  repeat (first|refine Yea ?_|refine Yag ?_|refine Ya6 ?_|refine Yej ?_|refine Yfe ?_)
  exact ⟨⟨X1,hX1,hS⟩,.inl ⟨rfl,fun x hx => (by
   obtain ⟨j,hj,he⟩ := List.mem_iff_getElem.1 hx
   exact hne j hj x (by rw [List.getElem?_eq_getElem hj,he]))⟩⟩
end
def kpN (t : Tn) (p : List (List UInt8)) (k : Int) (l : List (List UInt8)) : List (List UInt8) := l.filter fun s => decide (Zb5 t (p ++ [s]) = k)
section
variable {c f tp n : Nat} {b : Int} {T : Int → Option Nd} {t : Tn}
theorem Z5o (ht : TreeOk n t) {X : List RowD} (a : Option Addr) (l : List (List UInt8)) (lc : Nat) (cb pb kb : Nat) (z1 z2 z3 : Nat × Nat) (pa : Option Addr) (p : List (List UInt8)) (pc : Nat) (k : Int) (W : World) (F : Nat → Prop) (hT : TreeRo W F f tp n b T) (hG : Lg W F) (hp : Ro W F (row pa (strV p))) (hpl : p.length ≤ 1000) (hlc : l.length ≤ lc) (hll : l.length ≤ 1048576)
  (g1 : Ro W F (pts cb (.cells (List.toArray [.pointer (some ⟨c,0,none⟩)]) 28 z1))) (g2 : Ro W F (pts pb (.cells (List.toArray [.slice pa p.length pc]) 40 z2))) (g3 : Ro W F (pts kb (.cells (List.toArray [.int .i64 k]) 3 z3))) (hS : St W F [own 9 1 a lc (strV l),chR c f b T (Nt t) X] W) :
  Calls Tryz.prog 190 #[.slice a l.length lc,nmsF cb pb kb] W (Ret fun v w => ∃ a' c' X',v = .slice a' (kpN t p k l).length c' ∧ (kpN t p k l).length ≤ c' ∧ (∀ x ∈ X,x ∈ X') ∧ St W F [own 9 1 a' c' (strV (kpN t p k l)),chR c f b T (Nt t) X'] w) := by
 have hnl : (strV l).length = l.length := Zeu l
 refine Zab Tryz.func190 rfl Tryz.ntmps190 rfl ?_
 repeat (first|refine Yea ?_|refine Yen ?_|refine Yeb ?_|refine Yab ?_)
 obtain ⟨_,hcc,hr1,hw,hbk⟩ := hS.call [false,true]
 refine Zaa _ rfl rfl rfl rfl rfl (Z67 ht a l lc cb pb kb z1 z2 z3 pa p pc k _ _ (hT.mono hw) (hG.mono hw) (hw _ hp) hpl (hr1 _ (List.mem_cons_self ..)).own_row hll (hw _ g1) (hw _ g2) (hw _ g3) hcc) ?_
 rintro v w ⟨⟨X1,hX1,hS⟩,hv⟩
 replace hS := hbk hS
 clear hbk hw hcc hr1;rcases hv with ⟨rfl,hall⟩ | ⟨i,x,rfl,hx0,hxk,hne⟩
 ·have hkp : kpN t p k l = l := List.filter_eq_self.2 fun x hx => decide_eq_true (hall x hx)
  rw [hkp];repeat (first|refine Yea ?_|refine Yaf ?_|refine Yag ?_|refine Ybi ?_|refine Yek ?_|refine Yel ?_)
  exact ⟨a,lc,X1,rfl,hlc,hX1,hS.took⟩
 ·have hil := (List.getElem?_eq_some_iff.1 hx0).1
  have hki : kpN t p k (l.take (i + 1)) = l.take i := by
   obtain ⟨_,hxe⟩ := List.getElem?_eq_some_iff.1 hx0
   unfold kpN
   rw [List.take_succ_eq_append_getElem hil,List.filter_append,List.filter_eq_self.2 fun y hy => ?_]
   ·rw [hxe]; simp [hxk]
   ·obtain ⟨j,hj,he⟩ := List.mem_iff_getElem.1 hy
    rw [List.length_take] at hj;rw [List.getElem_take] at he;exact decide_eq_true (hne j (by omega) y (by rw [List.getElem?_eq_getElem (by omega),he]))
  replace hS := hS.took (out := [own 9 1 a lc (strV l),chR c f b T (Nt t) X1])
  obtain ⟨bl,cells,rfl,hcl,hct,hcm,hS⟩ := St.openOwn hS (by intro e; rw [e] at hnl; simp at hnl; omega)
  rw [Nat.mul_one] at hcl;rw [hnl] at hct;repeat (first|refine Yea ?_|refine Yaf ?_|refine Yag ?_|refine Ybh ?_|refine Ya0 ?_|refine Ye4 ?_|refine Yab ?_)
  refine Zbz (α := Nat × List RowD) (fun z => [(0,.slice (some ⟨bl,0,none⟩) l.length lc),(5,.int .i64 (z.1 : Nat))]) (fun z w => z.1 < l.length ∧ z.1 = (kpN t p k l).length ∧ (∀ x ∈ X,x ∈ z.2) ∧ ∃ L : List Value,L.length = lc ∧ L.take z.1 = strV (kpN t p k l) ∧ St W F [pts bl (.cells L.toArray 9 (0,0)),chR c f b T (Nt t) z.2] w) ?_ ?_
  ·refine Zal (α := Nat × Nat × List RowD) (fun z => [(0,.slice (some ⟨bl,0,none⟩) l.length lc),(1,nmsF cb pb kb),(5,.int .i64 (z.1 : Nat)),(6,.int .i64 (z.2.1 : Nat))])
    (fun z w => z.2.1 ≤ l.length ∧ z.1 < z.2.1 ∧ z.1 = (kpN t p k (l.take z.2.1)).length ∧ (∀ x ∈ X,x ∈ z.2.2) ∧ ∃ L : List Value,L.length = lc ∧ L.take z.1 = strV (kpN t p k (l.take z.2.1)) ∧ (L.drop z.2.1).take (l.length - z.2.1) = (strV l).drop z.2.1 ∧ St W F [pts bl (.cells L.toArray 9 (0,0)),chR c f b T (Nt t) z.2.2] w)
    (fun z => l.length - z.2.1) (i,i + 1,X1) ⟨rfl,rfl,rfl,rfl,trivial⟩ ⟨by dsimp only; omega,by dsimp only; omega,by dsimp only; rw [hki,List.length_take]; omega,hX1,cells,hcl,?_,?_,hS⟩ ?_
   ·dsimp only
    rw [hki];have := congrArg (List.take i) hct
    rw [List.take_take,Nat.min_eq_left (by omega)] at this;rw [this]; simp [strV]
   ·dsimp only
    have := congrArg (List.drop (i + 1)) hct
    rw [List.drop_take] at this;exact this
   clear hS;rintro ⟨m,j,X2⟩ w ⟨hj,hmj,hm,hX2,L,hL,ht2,hd,hS2⟩
   simp only at hj hmj hm hX2 ht2 hd hS2
   refine Z7v (σ' := [(0,.slice (some ⟨bl,0,none⟩) l.length lc),(1,nmsF cb pb kb),(5,.int .i64 (m : Nat)),(6,.int .i64 (j : Nat))]) ⟨rfl,rfl,rfl,rfl,trivial⟩ ?_
   by_cases hlt : j < l.length
   ·have hy0 : l[j]? = some l[j] := List.getElem?_eq_getElem hlt
    have htk : l.take (j + 1) = l.take j ++ [l[j]] := List.take_succ_eq_append_getElem hlt
    generalize l[j] = y at hy0 htk;have hLj : L[j]? = some (.string (str y)) := by
     have := congrArg (fun q => q[0]?) hd
     simp only [List.getElem?_take,List.getElem?_drop,Nat.add_zero] at this
     rw [if_pos (by omega),Znk hy0] at this;exact this
    have hd2 : (L.drop (j + 1)).take (l.length - (j + 1)) = (strV l).drop (j + 1) := by
     have := congrArg (List.drop 1) hd
     rw [List.drop_take,List.drop_drop,List.drop_drop] at this;rw [show l.length - (j + 1) = l.length - j - 1 by omega]; exact this
    have hS := hS2
    have hr := (hS2.rd (List.mem_cons_self ..)).mono (r' := row (some ⟨bl,0,none⟩) L) (fun g hg => ⟨g,.inr ⟨bl,0,L.toArray,_,(0,0),rfl,hg,fun j v hv => by simpa using hv⟩,fun _ _ e => e⟩)
    have hx := hLj
    repeat (first|refine Yea ?_|(refine X_id ?_;first|refine Yaf ?_|refine Yag ?_|refine Yav ?_|refine Ya2 ?_|refine Ybc ?_|refine Yb2 ?_)|refine Yee ?_|refine Yab ?_)
    obtain ⟨_,hcc,hr1,hw,hbk⟩ := hS.call [false,true]
    refine Zb4 (first := []) (captured := [.pointer (some ⟨cb,0,none⟩),.pointer (some ⟨pb,0,none⟩),.pointer (some ⟨kb,0,none⟩)]) rfl rfl rfl rfl rfl (Z40 ht y cb pb kb z1 z2 z3 pa p pc k _ _ (hT.mono hw) (hG.mono hw) (hw _ hp) hpl (hw _ g1) (hw _ g2) (hw _ g3) hcc) ?_
    rintro _ w ⟨rfl,X3,hX3,hS⟩
    replace hS := hbk hS
    clear hbk hw hcc hr1;by_cases hk : Zb5 t (p ++ [y]) = k
    ·have hre : kpN t p k (l.take (j + 1)) = kpN t p k (l.take j) ++ [y] := by unfold kpN; rw [htk,List.filter_append]; simp [hk]
     rw [decide_eq_false (fun h => h hk)];repeat (first|refine Yea ?_|refine Yaf ?_|refine Ybq ?_|refine Ybc ?_|refine Yev ?_|refine Yab ?_)
     replace hS := hS.pick [1,0]
     rw [show adr (some ⟨bl,0,none⟩) (((m : Nat) : Int).toNat * 1) = ⟨bl,m,none⟩ by simp [adr]]
     refine Zfp rfl rfl rfl rfl (by simp [Value.oneCell']) rfl hS (by simp; omega) (fun w hS _ => ?_)
     repeat (first|refine Yea ?_|refine Yes ?_|refine Yad ?_|refine Yei ?_)
     have hs1 : (Zai L m [.string (str y)]).length = L.length := Zbe (by simp; omega)
     refine Zaf (z := (m,j,X2)) (m + 1,j + 1,X3) ⟨rfl,rfl,rfl,rfl,trivial⟩ ⟨hlt,by dsimp only; omega,by rw [hre,List.length_append,← hm]; rfl,fun x hx => hX3 x (hX2 x hx),Zai L m [.string (str y)],by rw [hs1,hL],?_,?_,hS.took⟩ (by dsimp only; omega)
     ·rw [hre,show strV (kpN t p k (l.take j) ++ [y]) = strV (kpN t p k (l.take j)) ++ [.string (str y)] by simp [strV],← ht2]
      unfold Zai
      rw [List.take_append_of_le_length (by simp; omega),List.take_of_length_le (by simp; omega)]
     ·rw [← hd2]
      unfold Zai
      dsimp only
      rw [List.append_assoc,List.drop_append,List.drop_of_length_le (by simp; omega),List.nil_append,List.drop_append,List.drop_of_length_le (by simp; omega),List.nil_append,List.drop_drop]
      congr 2
      simp; omega
    ·have hre : kpN t p k (l.take (j + 1)) = kpN t p k (l.take j) := by unfold kpN; rw [htk,List.filter_append]; simp [hk]
     rw [decide_eq_true hk];repeat (first|refine Yea ?_|refine Yaf ?_|refine Yag ?_|refine Ybd ?_|refine Ya0 ?_|refine Yet ?_|refine Yei ?_)
     exact Zaf (z := (m,j,X2)) (m,j + 1,X3) ⟨rfl,rfl,rfl,rfl,trivial⟩ ⟨hlt,by dsimp only; omega,by rw [hre]; exact hm,fun x hx => hX3 x (hX2 x hx),L,hL,by rw [hre]; exact ht2,hd2,hS.took⟩ (by dsimp only; omega)
   ·obtain rfl : j = l.length := by omega
    have hS := hS2
    rw [List.take_length] at hm ht2;repeat (first|refine Yea ?_|refine Yaf ?_|refine Yav ?_|refine Ya6 ?_|refine Yeq ?_|refine Yeg ?_)
    exact Zbp (α := Nat × List RowD) (m,X2) ⟨rfl,rfl,trivial⟩ ⟨hmj,hm,hX2,L,hL,ht2,hS⟩
  ·rintro ⟨m,X2⟩ w ⟨hml,hm,hX2,L,hL,ht2,hS⟩
   simp only at hml hm hX2 ht2 hS ⊢
   repeat (first|refine Yaa ?_|refine Yaf ?_|refine Yeb ?_)
   refine X_yl (Zap (l := m) (h := l.length) rfl rfl rfl rfl (.inl ⟨rfl,rfl⟩) (.inr ⟨_,_,rfl,by omega,by omega,by omega⟩)) rfl rfl ?_
   rw [Zd7 (show m < lc by omega)]
   repeat (first|refine Yaa ?_)
   refine Zuk rfl rfl (by simp [Value.cells,Value.oneCell']) rfl hS (by omega) (fun w zs hzs hS => ?_)
   have hsl : (Zai L (m * 1) zs).length = L.length := Zbe (by rw [hzs]; omega)
   repeat (first|refine Yea ?_|refine Yaf ?_|refine Yeb ?_|refine Yab ?_)
   refine X_yl (Zap (l := 0) (h := m) rfl rfl rfl rfl (.inr ⟨_,_,rfl,by omega,by omega,by omega⟩) (.inl ⟨rfl,rfl⟩)) rfl rfl ?_
   rw [Zd7 (show 0 < lc by omega)]
   simp only [Nat.zero_mul,Nat.sub_zero]
   repeat (first|refine Yea ?_|refine Yag ?_|refine Yah ?_|refine Yec ?_)
   refine ⟨some ⟨bl,0,none⟩,lc,X2,by rw [hm],by omega,hX2,?_⟩
   refine hS.head fun g hg => Za7 (c := lc) (l := Zai L (m * 1) zs) (by rw [hsl,hL,Nat.mul_one]) hcm ?_ g hg
   rw [Zeu,← hm,← ht2,Nat.mul_one];unfold Zai
   rw [List.append_assoc,List.take_append_of_le_length (by rw [List.length_take]; omega),List.take_take,Nat.min_self]
end
def Zf1 (t : Tn) (p : List (List UInt8)) (k : Int) : List (List UInt8) × Int :=
 if Zb5 t p = -1 then ([],0) else if Zb5 t p ≠ 1 then ([],17) else if (lstR t p).2 ≠ 0 then ([],(lstR t p).2) else (kpN t p k (lstR t p).1,0)
section
variable {c f tp n : Nat} {b : Int} {T : Int → Option Nd} {t : Tn}
theorem Z18 (ht : TreeOk n t) {X : List RowD} (pa : Option Addr) (p : List (List UInt8)) (pc : Nat) (k : Int) (W : World) (F : Nat → Prop) (hT : TreeRo W F f tp n b T) (hG : Lg W F) (hp : Ro W F (row pa (strV p))) (hpl : p.length ≤ 1000) (hll : (lstR t p).1.length ≤ 1048576) (hS : St W F [chR c f b T (Nt t) X] W) :
  Calls Tryz.prog 123 #[.pointer (some ⟨c,0,none⟩),.int .i64 k,.slice pa p.length pc] W (Ret fun v w => ∃ X' a q,(∀ x ∈ X,x ∈ X') ∧ v = .tuple #[.slice a (Zf1 t p k).1.length q,.int .i64 (Zf1 t p k).2] ∧ (Zf1 t p k).1.length ≤ q ∧ St W F [own 9 1 a q (strV (Zf1 t p k).1),chR c f b T (Nt t) X'] w) := by
 unfold Zf1
 refine Zab Tryz.func123 rfl Tryz.ntmps123 rfl ?_
 repeat (first|refine Yea ?_|refine Yag ?_|refine Yap ?_|refine Ya5 (fun _ _ hS _ => ?_)|refine Yeb ?_|refine Yab ?_)
 rename_i cb _ _ _ kb _ _ _ pb _ _;obtain ⟨_,hcc,_,hw,hbk⟩ := hS.call [false,false,false,true]
 refine Zaa _ rfl rfl rfl rfl rfl (Zpi ht pa p pc _ _ (hT.mono hw) (hG.mono hw) (hw _ hp) (by omega) hcc) ?_
 rintro _ w ⟨rfl,X1,hX1,hS⟩
 replace hS := hbk hS
 clear hbk hw hcc;obtain ⟨K,hK⟩ : ∃ K,K = Zb5 t p := ⟨_,rfl⟩
 rw [← hK];by_cases k1 : K = -1
 ·subst k1
  rw [if_pos rfl];repeat (first|refine Yea ?_|refine Yag ?_|refine Ybi ?_|refine Yfb ?_|refine Yfh ?_)
  exact ⟨X1,none,0,hX1,rfl,Nat.le_refl _,(hS.took (out := [chR c f b T (Nt t) X1])).own_none _ _ _⟩
 rw [if_neg k1];by_cases k2 : K = 1
 case neg =>
  rw [if_pos k2];repeat (first|refine Yea ?_|refine Yag ?_|refine Ybh ?_|refine Yae ?_|refine Yad ?_|refine Yal ?_|refine Yah ?_|refine Yai ?_|refine Yfh ?_)
  exact ⟨X1,none,0,hX1,rfl,Nat.le_refl _,(hS.took (out := [chR c f b T (Nt t) X1])).own_none _ _ _⟩
 subst k2
 rw [if_neg (fun h => h rfl)];repeat (first|refine Yea ?_|refine Yag ?_|refine Ybi ?_|refine Ybh ?_|refine Yap ?_|refine Yeh ?_|refine Yei ?_)
 obtain ⟨_,hcc,_,hw,hbk⟩ := hS.call [true]
 refine Zaa _ rfl rfl rfl rfl rfl (Z63 ht pa p pc _ _ (hT.mono hw) (hG.mono hw) (hw _ hp) (by omega) hcc) ?_
 rintro _ w ⟨X2,a,q,hX2,rfl,hq,hS⟩
 replace hS := hbk hS
 clear hbk hw hcc;obtain ⟨E,hE⟩ : ∃ E,E = (lstR t p).2 := ⟨_,rfl⟩
 rw [← hE];generalize (lstR t p).1 = l at hll hq hS ⊢;by_cases e0 : E = 0
 case neg =>
  rw [if_pos e0];repeat (first|refine Yea ?_|refine Yfg ?_|refine Yek ?_|refine Yew ?_)
  exact ⟨X2,none,0,fun x hx => hX2 x (hX1 x hx),rfl,Nat.le_refl _,(hS.took (out := [chR c f b T (Nt t) X2])).own_none _ _ _⟩
 subst e0
 rw [if_neg (fun h => h rfl)];repeat (first|refine Yea ?_|(refine X_id ?_;first|refine Yaf ?_|refine Yag ?_|refine Yat ?_|refine Ycg ?_|refine Ya4 ?_)|refine Yem ?_|refine Yab ?_)
 obtain ⟨_,hcc,hr1,hw,hbk⟩ := hS.call [true,true]
 refine Zaa _ rfl rfl rfl rfl rfl (Z5o ht a l q cb pb kb (0,0) (0,0) (0,0) pa p pc k _ _ (hT.mono hw) (hG.mono hw) (hw _ hp) hpl hq hll (hr1 _ (by simp)) (hr1 _ (by simp)) (hr1 _ (by simp)) hcc) ?_
 rintro _ w ⟨a',c',X3,rfl,hc',hX3,hS⟩
 replace hS := hbk hS
 clear hbk hw hcc hr1;repeat (first|refine Yea ?_|refine Yag ?_|refine Yah ?_|refine Yex ?_)
 exact ⟨X3,a',c',fun x hx => hX3 x (hX2 x (hX1 x hx)),rfl,hc',hS.took⟩
end
section
variable {c f tp n : Nat} {b : Int} {T : Int → Option Nd} {t : Tn}
theorem Z22 (t : Tn) (p : List (List UInt8)) (ht : TreeOk n t) : (lstR t p).1.length ≤ 1048576 := by
 unfold lstR
 split
 ·simp
 ·rename_i x hg
  obtain ⟨_,u,_,hu,hxu⟩ := Zqd ht hg
  have hlen : x.2.data.length ≤ 512 := by rw [hxu]; exact ht.len hu
  have hrl := Zru x.2.data
  split
  ·simp; omega
  ·simp
theorem Z06 (ht : TreeOk n t) {X : List RowD} (tb : Nat) (name : List UInt8) (W : World) (F : Nat → Prop) (hT : TreeRo W F f tp n b T) (hG : Lg W F) (htb : Ro W F (pts tb (tbC c name))) (hS : St W F [chR c f b T (Nt t) X] W) :
  Calls Tryz.prog 72 #[.pointer (some ⟨tb,0,none⟩)] W (Ret fun v w => ∃ X' a q,(∀ x ∈ X,x ∈ X') ∧ v = .tuple #[.slice a (Zf1 t [dbN,name] 0).1.length q,.int .i64 (Zf1 t [dbN,name] 0).2] ∧ (Zf1 t [dbN,name] 0).1.length ≤ q ∧ St W F [own 9 1 a q (strV (Zf1 t [dbN,name] 0).1),chR c f b T (Nt t) X'] w) := by
 have hc := htb
 refine Zab Tryz.func72 rfl Tryz.ntmps72 rfl ?_
 repeat (first|refine Yea ?_|refine Yaf ?_|refine Yag ?_|refine Ybu ?_|refine Yem ?_|refine Yab ?_)
 refine Zam (.s 0 (.s 1 (.s 2 (.s 3 (.s 4 (.s 5 (.s 6 (.s 7 (.h 8 (.h 9 (.s 10 (.s 11 (.s 12 (.s 13 .nil)))) .no) .no))))))))) mixed (by kernel_rfl) rfl ?_
 have hS := hS.drew
 repeat (first|refine Ybn (fun _ _ hS _ => ?_)|(refine Zae ?_;first|refine Ya3 ?_|refine Ybr ?_|refine Ybe ?_|refine Yas ?_|refine Ycy ?_)|(refine Zac ?_;first|refine Yaz ?_))
 obtain ⟨_,hcc,hr1,hw,hbk⟩ := hS.call [false,true]
 refine Zaa _ rfl rfl rfl rfl rfl (Z18 ht _ [dbN,name] _ 0 _ _ (hT.mono hw) (hG.mono hw) (hr1 _ (List.mem_cons_self ..)).own_row (by simp) (Z22 t _ ht) hcc) ?_
 rintro _ w ⟨X1,a,q,hX1,rfl,hq,hS⟩
 replace hS := hbk hS
 clear hbk hw hcc hr1;repeat (first|refine Yah ?_|refine Yex ?_|(refine Zae ?_;first|refine Yay ?_|refine Ybm ?_|refine Ycq ?_)|(refine Zac ?_;first|refine Yaz ?_))
 exact ⟨X1,a,q,hX1,rfl,hq,hS.took⟩
end
abbrev chnC (n : Nat) (m : List UInt8) (tb : Nat) (ra : Option Addr) (rc : Nat) : Obj := .cells (List.toArray (.int .i64 (n : Nat) :: (bv m ++ [.pointer (some ⟨tb,0,none⟩),.slice ra n rc]))) 157 (0,0)
theorem Z7g (x n : Nat) (m : List UInt8) (tb : Nat) (ra : Option Addr) (rc : Nat) (W : World) (hx : Rd W (pts x (chnC n m tb ra rc))) :
  Calls Tryz.prog 65 #[.pointer (some ⟨x,0,none⟩)] W (Ret fun v w => v = .int .i64 (n : Nat) ∧ W = w) := by
 have hc := hx.ro
 have hS := St.start W
 refine Zab Tryz.func65 rfl Tryz.ntmps65 rfl ?_
 repeat (first|refine Yea ?_|(refine X_id ?_;first|refine Yaf ?_|refine Yag ?_|refine Yau ?_|refine Yan ?_|refine Ybu ?_|refine Yca ?_)|refine Yfa ?_|refine Yec ?_)
 exact ⟨rfl,rfl⟩
end Cr
namespace Go.Proofs
open Go.Shelf
def Tryz.lays105_ren : Go.Shelf.Ren := ⟨fun | 105 => 71 | 212 => 117 | 99 => 118 | 165 => 119 | 166 => 120 | 170 => 121 | 169 => 122 | 263 => 184 | 264 => 185 | 206 => 186 | 240 => 187 | 241 => 188 | 276 => 231 | 277 => 232 | n => n,fun | 9 => 9 | 3 => 3 | 4 => 4 | 20 => 20 | 0 => 0 | 46 => 243 | 109 => 244 | 5 => 5 | 72 => 248 | 76 => 251 | 51 => 166 | 146 => 318 | 53 => 45 | 148 => 320 | 70 => 246 | 37 => 35 | 75 => 250 | 127 => 322 | 164 => 365 | 80 => 253 | n => n,fun | n => n⟩
theorem Tryz.lays105 : Go.Proofs.Lays.n105 Tryz.prog Tryz.lays105_ren := {
 mixed := by kernel_rfl
 f99 := Tryz.func118.trans (congrArg some (by kernel_rfl))
 f105 := Tryz.func71.trans (congrArg some (by kernel_rfl))
 f165 := Tryz.func119.trans (congrArg some (by kernel_rfl))
 f166 := Tryz.func120.trans (congrArg some (by kernel_rfl))
 f169 := Tryz.func122.trans (congrArg some (by kernel_rfl))
 f170 := Tryz.func121.trans (congrArg some (by kernel_rfl))
 f206 := Tryz.func186.trans (congrArg some (by kernel_rfl))
 f212 := Tryz.func117.trans (congrArg some (by kernel_rfl))
 f240 := Tryz.func187.trans (congrArg some (by kernel_rfl))
 f241 := Tryz.func188.trans (congrArg some (by kernel_rfl))
 f263 := Tryz.func184.trans (congrArg some (by kernel_rfl))
 f264 := Tryz.func185.trans (congrArg some (by kernel_rfl))
 f276 := Tryz.func231.trans (congrArg some (by kernel_rfl))
 f277 := Tryz.func232.trans (congrArg some (by kernel_rfl))
 t0 := Tryz.underlying0
 a0 := Tryz.isAgg0
 z0 := Tryz.sizeOf0
 v0 := Tryz.zeroValue0
 t3 := Tryz.underlying3
 a3 := Tryz.isAgg3
 z3 := Tryz.sizeOf3
 v3 := Tryz.zeroValue3
 t4 := Tryz.underlying4
 a4 := Tryz.isAgg4
 z4 := Tryz.sizeOf4
 v4 := Tryz.zeroValue4
 t5 := Tryz.underlying5
 a5 := Tryz.isAgg5
 z5 := Tryz.sizeOf5
 v5 := Tryz.zeroValue5
 t9 := Tryz.underlying9
 a9 := Tryz.isAgg9
 z9 := Tryz.sizeOf9
 v9 := Tryz.zeroValue9
 t20 := Tryz.underlying20
 a20 := Tryz.isAgg20
 z20 := Tryz.sizeOf20
 v20 := Tryz.zeroValue20
 t37 := Tryz.underlying35
 a37 := Tryz.isAgg35
 z37 := Tryz.sizeOf35
 v37 := Tryz.zeroValue35
 t46 := Tryz.underlying243
 a46 := Tryz.isAgg243
 z46 := Tryz.sizeOf243
 v46 := Tryz.zeroValue243
 t51 := Tryz.underlying166
 a51 := Tryz.isAgg166
 z51 := Tryz.sizeOf166
 v51 := Tryz.zeroValue166
 t53 := Tryz.underlying45
 a53 := Tryz.isAgg45
 z53 := Tryz.sizeOf45
 v53 := Tryz.zeroValue45
 t70 := Tryz.underlying246
 a70 := Tryz.isAgg246
 z70 := Tryz.sizeOf246
 v70 := Tryz.zeroValue246
 t72 := Tryz.underlying248
 a72 := Tryz.isAgg248
 z72 := Tryz.sizeOf248
 v72 := Tryz.zeroValue248
 t75 := Tryz.underlying250
 a75 := Tryz.isAgg250
 z75 := Tryz.sizeOf250
 v75 := Tryz.zeroValue250
 t76 := Tryz.underlying251
 a76 := Tryz.isAgg251
 z76 := Tryz.sizeOf251
 v76 := Tryz.zeroValue251
 t109 := Tryz.underlying244
 a109 := Tryz.isAgg244
 z109 := Tryz.sizeOf244
 v109 := Tryz.zeroValue244
 t127 := Tryz.underlying322
 a127 := Tryz.isAgg322
 z127 := Tryz.sizeOf322
 v127 := Tryz.zeroValue322
 t146 := Tryz.underlying318
 a146 := Tryz.isAgg318
 z146 := Tryz.sizeOf318
 v146 := Tryz.zeroValue318
 t148 := Tryz.underlying320
 a148 := Tryz.isAgg320
 z148 := Tryz.sizeOf320
 v148 := Tryz.zeroValue320
 t164 := Tryz.underlying365
 a164 := Tryz.isAgg365
 z164 := Tryz.sizeOf365
 v164 := Tryz.zeroValue365 }
theorem Tryz.Builder_Extra_105 : Builder.Extra Tryz.prog Tryz.lays105_ren := {
 sizeBuilder := by kernel_rfl
 liesBuilder := by kernel_rfl
 t5 := Tryz.underlying5
 a5 := Tryz.isAgg5
 z5 := Tryz.sizeOf5
 v5 := Tryz.zeroValue5
 infoByte := by kernel_rfl
 cellsByte := by kernel_rfl
 sizeByte := by kernel_rfl
 neB5 := by decide }
open Go.RowKit Go.Lib in
theorem Tryz.strings_Repeat (s : ByteArray) (c : Nat) (w : World) (hc : c ≤ 9223372036854775807) (hlen : s.size * c ≤ 140737488355328) :
  Calls Tryz.prog 71 #[.string s,.int .i64 c] w fun e w' => e = .returned (.string ⟨(Lib.repeatL s.data.toList c).toArray⟩) ∧ Below w.heap.size w w' := Any.strings_Repeat Tryz.lays105 Tryz.Builder_Extra_105 s c w hc hlen
end Go.Proofs
namespace Cr
open Go Go.Proofs
set_option maxRecDepth 100000
set_option maxHeartbeats 64000000
attribute [local irreducible] Calls

theorem Z6s (s : List UInt8) (c : Nat) (W : World) (hc : c ≤ 1000) (hs : s.length ≤ 1000) :
  Calls Tryz.prog 71 #[.string (str s),.int .i64 (c : Nat)] W (Ret fun v w => v = .string (str (Lib.repeatL s c)) ∧ St W noF [] w) := by
 have hsz : (str s).size = s.length := by simp [str,ByteArray.size]
 refine (Tryz.strings_Repeat (str s) c W (by omega) (by rw [hsz]; have := Nat.mul_le_mul hs hc; omega)).mono ?_
 rintro e w ⟨rfl,hb⟩
 exact ⟨_,rfl,rfl,(St.start W).below hb⟩
def keyN (n : Nat) : List UInt8 := 114 :: (Lib.repeatL [48] (6 - (Lib.itoa (n : Nat)).length) ++ Lib.itoa (n : Nat))
theorem Z7h (n : Nat) (W : World) (hG : Lg W noF) (hn : n ≤ 999999) (hl : (Lib.itoa (n : Nat)).length ≤ 6) :
  Calls Tryz.prog 30 #[.int .i64 (n : Nat)] W (Ret fun v w => v = .string (str (keyN n)) ∧ St W noF [] w) := by
 have hS := St.start W
 obtain ⟨d,hd⟩ : ∃ d,d = 6 - (Lib.itoa (n : Nat)).length := ⟨_,rfl⟩
 have hlen : (str (Lib.itoa (n : Nat))).size = (Lib.itoa (n : Nat)).length := by simp [str,ByteArray.size]
 have hi := fun W h => Z26 (n : Nat) W noF h (by omega) (by omega)
 unfold keyN
 rw [← hd];generalize Lib.itoa (n : Nat) = l at hl hd hlen hi ⊢;refine Zab Tryz.func30 rfl Tryz.ntmps30 rfl ?_
 repeat (first|refine Yer ?_|(refine X_id ?_;first|refine Yaf ?_|refine Yag ?_|refine Ya1 ?_|refine Ya6 ?_|refine Ybs ?_)|refine Yem ?_|refine Yab ?_)
 refine Zaa _ rfl rfl rfl rfl rfl (hi _ (hG.at_ hS)) ?_
 rintro _ w ⟨rfl,hS'⟩
 replace hS := hS.plus hS';clear hS';repeat (first|refine Yea ?_|refine Yaf ?_|refine Yag ?_|refine Yb0 ?_|refine Ybz ?_|refine Yeb ?_|refine Yab ?_)
 rw [show (6 : Int) - ((str l).size : Nat) = (d : Nat) by rw [hlen]; omega]
 refine Zaa _ rfl rfl rfl rfl rfl (Z6s [48] d _ (by omega) (by simp)) ?_
 rintro _ w ⟨rfl,hS'⟩
 replace hS := hS.plus hS';clear hS';have hz : (Lib.repeatL [48] d).length = d := by
  have := Lib.repeatL_length [48] d
  simpa using this
 repeat (first|refine Yea ?_|refine Yaf ?_|refine Yag ?_|refine Ydz ?_|refine Yah ?_|refine Yec ?_)
 exact ⟨rfl,hS⟩
theorem Z5v {x n : Nat} {m : List UInt8} {tb : Nat} {ra : Option Addr} {rc : Nat} {w : World} (hm : m.length = 32) (h : w.heap[x]? = some (chnC n m tb ra rc)) {j : Nat} {v : Value} (hv : [Value.pointer (some ⟨tb,0,none⟩),.slice ra n rc][j]? = some v) : w.cell? ⟨x,33 + j,none⟩ = some v := by
 have hl : (bv m).length = 32 := by rw [Zah]; exact hm
 have := CellsAt.of_block h (33 + j) v (by rw [show 33 + j = (32 + j) + 1 by omega,List.getElem?_cons_succ,List.getElem?_append_right (by omega),hl,Nat.add_sub_cancel_left]; exact hv)
 simp only [Addr.add] at this
 rw [if_neg (by omega)] at this
 simpa using this
theorem Z0s {x n : Nat} {m : List UInt8} {tb : Nat} {ra : Option Addr} {rc : Nat} {w : World} (hm : m.length = 32) (h : w.heap[x]? = some (chnC n m tb ra rc)) : w.cell? ⟨x,34,none⟩ = some (.slice ra n rc) := Z5v hm h (j := 1) rfl
structure BsIn (L : List Bs) (X : List RowD) : Prop where
 inn : ∀ x ∈ L,(x.a,bv x.s) ∈ X
 cap : ∀ x ∈ L,x.s.length ≤ x.c
theorem Zxv (x : Nat) (m : List UInt8) (hm : m.length = 32) (tb : Nat) (ra : Option Addr) (rc : Nat) (L : List Bs) (W : World) (hn : L.length ≤ 1000) (hl : ∀ y ∈ L,y.s.length ≤ 1048576) (hx0 : Ro W noF (pts x (chnC L.length m tb ra rc))) (hB : Bss W noF ra L) :
  Calls Tryz.prog 61 #[.pointer (some ⟨x,0,none⟩)] W (Ret fun v w => ∃ a q M Y,v = .slice a L.length q ∧ Zax M = Zax L ∧ BsIn M Y ∧ L.length ≤ q ∧ St W noF [own 35 1 a q (M.map Bs.val),bag Y] w) := by
 have hc := hx0
 have hS := St.start W
 refine Zab Tryz.func61 rfl Tryz.ntmps61 rfl ?_
 repeat (first|refine Yea ?_|refine Yen ?_|refine Yeb ?_|refine Yab ?_)
 refine Zaa _ rfl rfl rfl rfl rfl (Z7g x L.length m tb ra rc _ (hc.rd hS)) ?_
 rintro _ _ ⟨rfl,rfl⟩
 repeat (first|refine Yea ?_|refine Yaf ?_|refine Yal ?_|refine Yab ?_)
 have hS := (hS.bagNil).own_none 35 1 none
 refine Zal (α := Nat × Option Addr × Nat × List Bs × List RowD) (fun z => [(0,.pointer (some ⟨x,0,none⟩)),(3,.slice z.2.1 z.1 z.2.2.1),(6,.int .i64 (L.length : Nat)),(7,.int .i64 (z.1 : Nat))])
  (fun z w => z.1 ≤ L.length ∧ z.1 ≤ z.2.2.1 ∧ Zax z.2.2.2.1 = Zax (L.take z.1) ∧ BsIn z.2.2.2.1 z.2.2.2.2 ∧ St W noF [own 35 1 z.2.1 z.2.2.1 (z.2.2.2.1.map Bs.val),bag z.2.2.2.2] w) (fun z => L.length - z.1) (0,none,0,[],[]) ⟨rfl,rfl,rfl,rfl,trivial⟩ ⟨Nat.zero_le _,Nat.le_refl _,rfl,⟨fun _ h => (List.not_mem_nil h).elim,fun _ h => (List.not_mem_nil h).elim⟩,hS⟩ ?_
 clear hS;rintro ⟨i,a1,c1,M,Y⟩ w ⟨hi,hc1,hT,hY,hS⟩
 simp only at hi hc1 hT hY hS ⊢
 have hM : M.length = i := by
  have := congrArg List.length hT
  simp [Zax] at this; omega
 by_cases hlt : i < L.length
 ·have hx0 : L[i]? = some L[i] := List.getElem?_eq_getElem hlt
  have htk : L.take (i + 1) = L.take i ++ [L[i]] := List.take_succ_eq_append_getElem hlt
  generalize L[i] = y at hx0 htk;have hym := List.mem_of_getElem? hx0
  have hyl := hl y hym
  have hr := hB.row
  have hb := hB.all y hym
  have hxx : (L.map Bs.val)[i]? = some (.slice y.a y.s.length y.c) := by simp [hx0,Bs.val]
  obtain ⟨ab,ao,rfl⟩ := (hr.rd hS).base (by intro e; rw [e] at hxx; simp at hxx)
  repeat (first|refine Yea ?_|(refine X_id ?_;first|refine Yaf ?_|refine Yag ?_|refine Yau ?_|refine Yan ?_|refine Ya2 ?_)|refine Yee ?_|refine Yab ?_)
  refine X_yl (Zas rfl rfl (Z0s hm (hc.rd hS).pts)) rfl rfl ?_
  have hx := hxx
  repeat (first|refine Yaa ?_|refine Yaf ?_|refine Ybc ?_|refine Yb2 ?_)
  refine Zaa _ rfl rfl rfl rfl rfl (Zeo y.a y.s.length y.c y.s _ (hb.rd hS) rfl (by omega)) ?_
  rintro _ w ⟨a',q',rfl,_,hq',hS'⟩
  replace hS := hS.plus hS';clear hS';repeat (first|refine Yaa ?_|refine Ybn (fun _ _ hS _ => ?_))
  have hnw := (hS.rd (List.mem_cons_self ..)).own_row
  refine Zar (T := 35) (a := a1) (m := 1) rfl rfl rfl rfl rfl hS (by rw [List.length_map,hM,Nat.mul_one]) hc1 hnw rfl (by simp [Value.oneCell']) (by omega) (by simp only [maxLen]; omega) (fun b' q'' w hS hq'' _ => ?_)
  repeat (first|refine Yea ?_|refine Yes ?_|refine Yad ?_|refine Yei ?_)
  have hS : St W noF [own 5 1 a' q' (bv y.s),bag Y,own 35 1 b' q'' (M.map Bs.val ++ [.slice a' y.s.length q'])] _ := hS.took
  have hS := hS.bagAdd (a := a') (cs := bv y.s) fun _ h => h.row
  refine Zaf (z := (i,a1,c1,M,Y)) (i + 1,b',q'',M ++ [⟨a',q',y.s⟩],(a',bv y.s) :: Y) ⟨rfl,rfl,rfl,rfl,trivial⟩ ⟨hlt,hq'',?_,⟨fun z hz => ?_,fun z hz => ?_⟩,?_⟩ (by dsimp only; omega)
  ·rw [htk]
   simp only [Zax,List.map_append] at hT ⊢
   rw [hT]; rfl
  ·rcases List.mem_append.1 hz with hz | hz
   ·exact List.mem_cons_of_mem _ (hY.inn z hz)
   ·rw [List.mem_singleton] at hz; rw [hz]; exact List.mem_cons_self ..
  ·rcases List.mem_append.1 hz with hz | hz
   ·exact hY.cap z hz
   ·rw [List.mem_singleton] at hz; rw [hz]; exact hq'
  ·have hS : St W noF [own 35 1 b' q'' (M.map Bs.val ++ [.slice a' y.s.length q']),bag ((a',bv y.s) :: Y)] _ := hS.took
   dsimp only
   rw [List.map_append];exact hS
 ·obtain rfl : i = L.length := by omega
  repeat (first|refine Yea ?_|refine Yfi ?_|refine Yej ?_|refine Yfe ?_)
  rw [List.take_length] at hT;exact ⟨a1,c1,M,Y,rfl,hT,hY,hc1,hS.took⟩
def keyD (i : Nat) : List UInt8 := [114,48,48,48,48,48,UInt8.ofNat (48 + i)]
theorem Z48 {i : Nat} (h : i < 10) : keyN i = keyD i := by
 unfold keyN
 rw [Zex,Lib.decDigits_one h]
 rfl
theorem Zw3 : ∀ i,i < 10 → ∀ k,k < 10 → keyD i = keyD k → i = k := by decide +kernel
theorem Zjt {i k : Nat} (hi : i < 10) (hk : k < 10) (h : keyD i = keyD k) : i = k := Zw3 i hi k hk h
theorem Zz6 : ∀ i,i < 10 → ∀ k,k < 10 → i < k → ltS (keyD i) (keyD k) := by decide +kernel
theorem Z25 {i k : Nat} (hi : i < 10) (hk : k < 10) (h : i < k) : ltS (keyD i) (keyD k) := Zz6 i hi k hk h
theorem Zz5 : ∀ i,i < 10 → nameOk (keyD i) := by decide +kernel
theorem Zn3 {i : Nat} (h : i < 10) : nameOk (keyD i) := Zz5 i h
def Zfm (i : Nat) (v : Mv) : Tn := .mk (keyD i) ((3 + i : Nat) : Int) ⟨0,384,0,0⟩ (encM v) []
def Zb2 : Nat → List Mv → List Tn
 | _,[] => []
 | i,v :: l => Zfm i v :: Zb2 (i + 1) l
def logT (vs : List Mv) : Tn := .mk logN 2 ⟨1,448,0,0⟩ [] (Zb2 0 vs)
def Zb6 (vs : List Mv) : Tn := .mk [] 0 ⟨1,493,0,0⟩ [] [.mk dbN 1 ⟨1,448,0,0⟩ [] [logT vs]]
def trV : List Mv → Tn
 | [] => t0
 | v :: l => Zb6 (v :: l)
theorem Zml (v : Mv) : ∀ (l : List Mv) (i : Nat),Zb2 i (l ++ [v]) = Zb2 i l ++ [Zfm (i + l.length) v]
 | [],i => rfl
 | x :: l,i => by
  rw [List.cons_append,Zb2,Zml v l,Zb2,List.cons_append,List.length_cons,show i + 1 + l.length = i + (l.length + 1) by omega]
theorem Zp6 (v : Mv) : ∀ (l : List Mv) (i k : Nat),i + l.length ≤ k → k < 10 → insT (Zfm k v) (Zb2 i l) = Zb2 i l ++ [Zfm k v]
 | [],i,k,_,_ => rfl
 | x :: l,i,k,h,hk => by
  rw [List.length_cons] at h;have hlt : ltS (Zfm i x).nm (Zfm k v).nm := Z25 (by omega) hk (by omega)
  rw [Zb2,insT,if_pos hlt,Zp6 v l (i + 1) k (by omega) hk,List.cons_append]
theorem Ze7 : ∀ (l : List Mv) (i k : Nat),i + l.length ≤ k → k < 10 → kidT (keyD k) (Zb2 i l) = none
 | [],i,k,_,_ => rfl
 | x :: l,i,k,h,hk => by
  rw [List.length_cons] at h;have hne : ¬ (Zfm i x).nm = keyD k := fun e => by have := Zjt (by omega) hk e; omega
  rw [Zb2,kidT,List.find?_cons_of_neg (by simpa using hne)];exact Ze7 l (i + 1) k (by omega) hk
theorem Zir : ∀ (l : List Mv) (i k : Nat) (v : Mv),i + l.length ≤ 10 → l[k]? = some v → kidT (keyD (i + k)) (Zb2 i l) = some (Zfm (i + k) v)
 | [],i,k,v,_,h => by simp at h
 | x :: l,i,0,v,h,hv => by
  obtain rfl : x = v := by simpa using hv
  rw [Zb2,kidT,List.find?_cons_of_pos (by simp [Zfm,Tn.nm])]
  rfl
 | x :: l,i,k + 1,v,h,hv => by
  rw [List.length_cons] at h;have hv' : l[k]? = some v := by simpa using hv
  have hk := (List.getElem?_eq_some_iff.1 hv').1
  have hne : ¬ (Zfm i x).nm = keyD (i + (k + 1)) := fun e => by have := Zjt (by omega) (by omega) e; omega
  rw [Zb2,kidT,List.find?_cons_of_neg (by simpa using hne),show i + (k + 1) = i + 1 + k by omega]
  exact Zir l (i + 1) k v (by omega) hv'
theorem Zl4 : ∀ (l : List Mv) (i : Nat),subL (Zb2 i l) = Zb2 i l
 | [],_ => rfl
 | x :: l,i => by rw [Zb2,subL,Zl4 l]; rfl
theorem Zmn : ∀ (l : List Mv) (i k : Nat),(getA ((3 + k : Nat) : Int) ((Zb2 i l).map ent)).isSome = decide (i ≤ k ∧ k < i + l.length)
 | [],i,k => by simp [Zb2,getA]
 | x :: l,i,k => by
  rw [Zb2,List.map_cons,Zei];by_cases h : k = i
  ·subst h
   rw [if_pos (by rfl)]; simp
  ·rw [if_neg (by show ¬ ((3 + k : Nat) : Int) = ((3 + i : Nat) : Int); omega),Zmn l (i + 1) k,List.length_cons]
   exact decide_eq_decide.2 (by omega)
theorem Zxl (vs : List Mv) : Zck (Zb6 vs) = ent (Zb6 vs) :: ent (.mk dbN 1 ⟨1,448,0,0⟩ [] [logT vs]) :: ent (logT vs) :: (Zb2 0 vs).map ent := by
 have h1 : subT (logT vs) = logT vs :: subL (Zb2 0 vs) := Zd8 _
 have h2 : subT (Zb6 vs) = Zb6 vs :: .mk dbN 1 ⟨1,448,0,0⟩ [] [logT vs] :: (subT (logT vs) ++ []) ++ [] := rfl
 unfold Zck
 rw [h2,h1,Zl4];simp
theorem Zk1 (vs : List Mv) (k : Nat) : (Nt (Zb6 vs) (k : Int)).isSome = decide (k < 3 + vs.length) := by
 unfold Nt
 rw [Zxl];rcases k with _ | _ | _ | k
 ·simp [getA,ent,Zb6,Tn.no]; omega
 ·simp [getA,ent,Zb6,Tn.no]; omega
 ·simp [getA,ent,Zb6,logT,Tn.no]; omega
 ·rw [Zei,if_neg (by show ¬ ((k + 1 + 1 + 1 : Nat) : Int) = 0; omega),Zei,if_neg (by show ¬ ((k + 1 + 1 + 1 : Nat) : Int) = 1; omega),Zei,if_neg (by show ¬ ((k + 1 + 1 + 1 : Nat) : Int) = 2; omega)]
  rw [show ((k + 1 + 1 + 1 : Nat) : Int) = ((3 + k : Nat) : Int) by omega,Zmn]
  exact decide_eq_decide.2 (by omega)
theorem Zvb {vs : List Mv} (h : vs.length < 7) : Ziw 10 (Nt (Zb6 vs)) = some (3 + vs.length) :=
 Zgn (by omega) (by have := Zk1 vs (3 + vs.length); rw [decide_eq_false (by omega)] at this; simpa using this) fun j hj e => by
  have := Zk1 vs j
  rw [e,decide_eq_true hj] at this;cases this
theorem Zva {vs : List Mv} (h : vs.length = 7) : Ziw 10 (Nt (Zb6 vs)) = none := Zmp fun j hj e => by
 have := Zk1 vs j
 rw [e,decide_eq_true (by omega)] at this;cases this
theorem Zk5 : ∀ {l : List Nm},(∀ x ∈ l,x.1.length ≤ 9 ∧ 0 ≤ x.2 ∧ x.2 ≤ 1000000) → (Zaz (l.map Zfa)).length ≤ 40 * l.length
 | [],_ => by simp [Zaz]
 | x :: l,h => by
  obtain ⟨h1,h2,h3⟩ := h x (List.mem_cons_self ..)
  have ih := Zk5 (l := l) fun y hy => h y (List.mem_cons_of_mem _ hy)
  have h4 := Zcb (n := (x.1.length : Nat)) (by omega) (by omega)
  have h5 := Zcb h2 h3
  have e : (encM (Zfa x)).length ≤ 40 := by
   rw [Zfa,Zbl,Zaz,Zaz,Zaz,Zbx,Zcq];simp only [List.length_cons,List.length_append,List.length_nil]
   omega
  rw [List.map_cons,Zaz,List.length_append,List.length_cons]; omega
theorem Zj7 {l : List Nm} (h : ∀ x ∈ l,x.1.length ≤ 9 ∧ 0 ≤ x.2 ∧ x.2 ≤ 1000000) (hl : l.length ≤ 12) : ¬ 512 < (wrD l).length := by
 have := Zk5 h
 rw [wrD,dirM,Zbl];simp only [List.length_cons,List.length_append,List.length_nil]
 omega
theorem Zr6 (vs : List Mv) : ∀ (i : Nat),(Zb2 i vs).map (fun k => ((k.nm,k.no) : Nm)) = (List.range' i vs.length).map fun j => (keyD j,((3 + j : Nat) : Int)) := by
 induction vs with
 | nil => intro i; rfl
 | cons x l ih => intro i; rw [Zb2,List.map_cons,ih,List.length_cons,List.range'_succ,List.map_cons]; rfl
end Cr
namespace Cr
open Go Go.Proofs
set_option maxRecDepth 100000
set_option maxHeartbeats 64000000

def recV (r m : List UInt8) : Mv := liM [txM r,txM m]
theorem Znw (r m : List UInt8) : chkM 8 (recV r m) = 0 := Zh7 fun x hx => by
 simp only [List.mem_cons,List.not_mem_nil,or_false] at hx
 rcases hx with rfl | rfl
 ·exact Zdz _ _
 ·exact Zdz _ _
theorem Zte {r m : List UInt8} (hr : r.length ≤ 1000000) (hm : m.length ≤ 1000000) : fitM (recV r m) := by
 rw [recV,fitM,Zda,Zda,Zda,fitM,fitM,Zda];exact ⟨by omega,by simp,⟨by omega,by omega,trivial⟩,⟨by omega,by omega,trivial⟩,trivial⟩
theorem Znv {r m : List UInt8} (hr : r.length ≤ 400) (hm : m.length = 32) : (encM (recV r m)).length ≤ 512 := by
 have h4 := Zcb (n := (r.length : Nat)) (by omega) (by omega)
 have h5 := Zcb (n := (m.length : Nat)) (by omega) (by omega)
 rw [recV,Zbl,Zaz,Zaz,Zaz,Zbx,Zbx];simp only [List.length_cons,List.length_append,List.length_nil]
 omega
theorem Z4p (r m : List UInt8) : wM (recV r m) = 3 + r.length + m.length := by
 simp only [recV,Zfs,wMs,List.length_nil]; omega
def Zbc (rd fs : List Int) (l : List (List UInt8)) : List Mv := (List.range l.length).map fun i => recV (l.getD i []) (Zaq rd fs l (i + 1))
theorem Zbi (rd fs : List Int) (l : List (List UInt8)) : (Zbc rd fs l).length = l.length := by simp [Zbc]
theorem Znd {rd fs : List Int} {l : List (List UInt8)} {i : Nat} (h : i < l.length) : (Zbc rd fs l)[i]? = some (recV (l.getD i []) (Zaq rd fs l (i + 1))) := by
 simp [Zbc,h]
end Cr
