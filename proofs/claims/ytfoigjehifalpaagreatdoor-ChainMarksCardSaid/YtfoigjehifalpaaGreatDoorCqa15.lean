/-
  Layer 7 (inode): Open: a node of its sector's bytes; does a block stand in two Zh4?
  Layer 7 (inode): Format; what nil tells; Same.
  Layer 7 (inode): does a block stand in two Zh4? Open.
  Layer 7 (inode): Open of a log that holds a table.
  Layer 7 (inode): Used: the keys of a map,gone through by a range over a function,and sorted.
  Layer 8 (tree): a tree is opened on a table that is new.
  Layer 8 (tree): a tree is opened on a table that is new.
  The laws' helpers To of layers 6 and 7.
  The laws' helper known of layer 7: the chapter's examples.
  Layer 8 (tree): a change is begun; a fresh disk,log,table,tree.
  Layer 8 (tree): a fresh disk,log,table,tree; a change begun on it.
  Layer 11 (chain): a fresh table for a chain.
  Layer 9 (table): the keys of a table (only that they are told).
  Layer 9 (table): the first key that is none.
  Layer 9 (table): the keys of a table.
  Layer 9 (table): names,Keys.
  Layer 9 (table): Keys.
  A list of rows of the run's own,as one resource. Over any program.
  Layer 11 (chain): begun,more,Marks.
  Layer 11 (chain): what a chain tells: Len,Head.
  DERIVED: THE SHELF's CONTRACTS AT THIS DUMP,IN PLAIN WORDS (tools/lay-plain.mjs out of 'TryzShelf.lean',which tools/lay-shelf.mjs wrote): THE SAME DECLARATIONS UNDER THE SAME NAMES: 'import','namespace','open','def','theorem' AND NOTHING ELSE: no command of the shelf's: FOR A HAND-IN. Each laying: the table of numbers ('.._ren') and one theorem,a field a fact of the dump's own or the kernel's comparison; each contract: ONE APPLICATION.
  Layer 11 (chain): a record's key.
  Layer 11 (chain): what lies behind a chain's mark.
  Layer 11 (chain): Get.
  Layer 11 (chain) in plain words: the tree of a change whose one table holds so many records,one behind the other; one more record put,a record told.
  The document's answers of layer 11: Key,of one digit.
-/
import Derived.Test.YtfoigjehifalpaaGreatDoorCqa14
import Derived.Test.YtfoigjehifalpaaGreatDoorCqa12
import Derived.Test.YtfoigjehifalpaaGreatDoorCqa6
import Derived.Test.YtfoigjehifalpaaGreatDoorCqa10
import Derived.Sort.Row
import Derived.Sort.Grow
import Derived.Test.YtfoigjehifalpaaGreatDoorCqa5
import Derived.Test.YtfoigjehifalpaaGreatDoorCqa4
import Derived.Shelf.Strings.Builder1
import Derived.Shelf.Strings.Builder2
import Derived.Shelf.Small.Strs
import Derived.Shelf.Strings.BuilderF
import Derived.Shelf.Strconv.Atoi
import Derived.Shelf.Strconv.Itoa0
import Derived.Shelf.Strconv.Itoa1
import Derived.Shelf.LaysM
import Derived.Shelf.Strconv.Itoa2
import Derived.Shelf.Strconv.Itoa3
import Derived.Shelf.Strconv.AtoiErrFast
import Derived.Shelf.Strconv.ParseIntEmpty
import Derived.Shelf.Strconv.AtoiFail
import Derived.Shelf.Strconv.Clone
import Derived.Shelf.Strconv.SyntaxError
import Derived.Shelf.LaysC
import Derived.Shelf.Strconv.ToError
import Derived.Shelf.Strconv.Lower
import Derived.Shelf.Strconv.ParseUint10
import Derived.Shelf.Strconv.ParseUint10Empty
import Derived.Shelf.Strconv.ParseUint10Any
import Derived.Shelf.Strconv.ParseInt10
import Derived.Shelf.Strconv.AtoiLong
import Derived.Shelf.Strconv.AtoiInnerAll
import Derived.Shelf.Strconv.RangeError
import Derived.Shelf.Strconv.ToErrorRange
import Derived.Shelf.Strconv.AtoiAll
import Derived.Shelf.Strconv.ErrVarAll
import Derived.Shelf.Sort.Plain
import Derived.Shelf.Strings.Prefix
import Derived.Shelf.Bits.Mul64
import Derived.Shelf.Strings.Repeat
import Derived.Shelf.Slices.In.SortNone
import Derived.Test.YtfoigjehifalpaaGreatDoorProg
namespace Cr
open Go Go.Proofs
set_option maxRecDepth 100000
set_option maxHeartbeats 64000000
attribute [local irreducible] Calls

theorem Zyh : Zdb [] = zero64 := by simp [Zdb,zero64]
theorem Zhv : zero64.length = 64 := by simp [zero64]
theorem Z44 (rd fs : List Int) {dat : List (List UInt8)} {n nb : Nat} (hd : dat.length = 1 + n + nb) (hz : ∀ i,i < n → dat.getD (1 + i) [] = zero64) : Enc rd fs (Zca dat [(0,Zcq rd fs n)]) n nb [] := by
 have hg : ∀ k,k < dat.length → (Zca dat [(0,Zcq rd fs n)]).getD k [] = if k = 0 then Zcq rd fs n else dat.getD k [] := fun k hk => by
  rw [Zds _ _ _ hk (fun v hv => by rw [List.mem_singleton] at hv; rw [hv]; exact Int.le_refl _),Zei]
  by_cases h : k = 0
  ·subst h; simp [Zcv]
  ·rw [if_neg h,if_neg (by simp only; omega)]; simp [Zcv]
 refine ⟨by rw [Zax]; exact hd,by rw [hg 0 (by omega),if_pos rfl],fun k hk => by simp [Zaw] at hk,by simp [Zaw],fun i hi => ?_,fun x hx => by simp at hx,fun x hx => by simp at hx,by simp [Za0]⟩
 rw [hg _ (by omega),if_neg (by omega),hz i hi]
 rfl
theorem Z3q (n : Nat) : tabOf [] n = List.replicate n none := by
 apply List.ext_getElem
 ·simp [tabOf]
 ·intro i h1 h2
  simp [tabOf,getA]
theorem Z43 (lp p j m n nb : Nat) (dat : List (List UInt8)) (rd fs : List Int) (W : World) (F : Nat → Prop) (hG : Gl W F rd fs) (hd : dat.length = 1 + n + nb) (h1 : 1 ≤ n) (h4 : n ≤ 400) (hnb : 1 ≤ nb) (hj : 2 ≤ j) (hm : (m : Int) < last)
  (h0 : dat.getD 0 [] = zero64) (hz : ∀ i,i < n → dat.getD (1 + i) [] = zero64) (hS : St W F [qlog lp p j m dat] W) :
  Calls Tryz.prog 39 #[.pointer (some ⟨lp,0,none⟩),.int .i64 (n : Nat)] W (Ret fun v w => ∃ tp,v = .tuple #[.pointer (some ⟨tp,0,none⟩),.int .i64 0] ∧ St W F [itab rd fs tp lp p j (m + 1) n nb (List.replicate n none)] w) := by
 have hqr : ∀ w rs,St W F (qlog lp p j m dat :: rs) w → Rd w (qlog lp p j m dat) := fun w rs h => h.rd (List.mem_cons_self ..)
 have hrd := fun w rs (h : St W F (qlog lp p j m dat :: rs) w) => Z7w lp p j m dat 0 w (hqr _ _ h) (by omega)
 rw [h0] at hrd
 have heq := fun w a c p h1 h2 => Zub a (some ⟨p,0,none⟩) 64 64 c 64 zero64 zero64 w h1 h2 Zhv Zhv
 rw [decide_eq_true rfl] at heq
 refine Zab Tryz.func39 rfl Tryz.ntmps39 rfl ?_
 repeat (first|refine Yeg ?_|refine Yaf ?_|refine Yag ?_|refine Ybu ?_|refine Ye3 ?_|refine Yab ?_)
 refine Zad _ rfl rfl rfl rfl rfl hS (may_ lp p j m n dat _ (hqr _ _ hS) h1 h4 (by omega)) ?_
 rintro _ w rfl hS
 repeat (first|refine Yeg ?_|refine Yaf ?_|refine Yag ?_|refine Ybc ?_|refine Yes ?_|refine Yeo ?_)
 refine Zaa _ rfl rfl rfl rfl rfl (hrd _ _ hS) ?_
 rintro _ w ⟨a,c,rfl,hc,hS'⟩
 replace hS := hS.plus hS'
 clear hS'
 repeat (first|refine Yeg ?_|refine Yfq ?_|refine Yes ?_|refine Yab ?_)
 refine Zaa _ rfl rfl rfl rfl rfl (Zon none 0 [] _ (Zno _ _)) ?_
 rintro _ w ⟨q,rfl,hS'⟩
 replace hS := hS.plus hS'
 clear hS'
 rw [Zyh] at hS
 repeat (first|refine Yeg ?_|(refine X_id ?_;first|(refine Zaa 58 rfl rfl rfl rfl rfl (heq _ a c q (hS.rd (by simp)) (hS.rd (by simp))) ?_;rintro _ _ ⟨rfl,rfl⟩)|refine Yaf ?_|refine Ybc ?_)|refine Yes ?_|refine Yab ?_)
 refine Zaa _ rfl rfl rfl rfl rfl (Z3m n rd fs _ (hG.mono fun r hr => (hr.rd hS).ro)) ?_
 rintro _ w ⟨q2,rfl,hS'⟩
 replace hS := hS.plus hS'
 clear hS'
 repeat (first|refine Yaa ?_|refine Ybn ?_|refine Ybd (fun _ _ hS _ => ?_))
 rename_i bw _ _
 obtain ⟨_,hc4,hr4,hw4,hbk4⟩ := hS.call [false,false,false,false,true]
 have hck : Zcj [((0 : Int),Zcq rd fs n)] = 0 := by
  have : (Zcq rd fs n).length = 64 := Zbx _
  simp [Zcj,badW,Zbl,this]
 refine Zaa _ rfl rfl rfl rfl rfl (Zth lp p j m dat (some ⟨bw,0,none⟩) 1 [⟨0,⟨some ⟨q2,0,none⟩,64,Zcq rd fs n⟩⟩] rd fs _ _ (hG.mono hw4) ⟨?_,fun v hv => ?_⟩ (by simp) hm hck ?_ hc4) ?_
 ·have h := (hr4 (own 181 2 (some ⟨bw,0,none⟩) 1 [.int .i64 0,.slice (some ⟨q2,0,none⟩) 64 64]) (by simp)).own_row
  have e : (List.flatMap Wr.cells [⟨0,⟨some ⟨q2,0,none⟩,64,Zcq rd fs n⟩⟩]) = [.int .i64 0,.slice (some ⟨q2,0,none⟩) 64 64] := by
   have : (Zcq rd fs n).length = 64 := Zbx _
   simp [Wr.cells,this]
  rw [e]; exact h
 ·rw [List.mem_singleton] at hv
  rw [hv]
  exact hr4 (bytes (some ⟨q2,0,none⟩) (Zcq rd fs n)) (by simp)
 ·simp [hasM,Wr.data]; omega
 rintro _ w (⟨hfull,_,_⟩ | ⟨_,rfl,hS⟩)
 ·simp only [List.length_cons,List.length_nil] at hfull; omega
 replace hS := hbk4 hS
 clear hc4 hr4 hw4 hbk4
 repeat (first|refine Yeg ?_|refine Yaf ?_|refine Yag ?_|refine Ybb ?_|refine Yes ?_|refine Yab ?_)
 refine Zfo (Value.int .i64) rfl rfl rfl hS (fun r w hS => ?_)
 repeat (first|refine Yeg ?_|refine Yag ?_|refine Ybn ?_|refine Ya7 (fun _ _ hS _ => ?_)|refine Yah ?_|refine Ye5 ?_)
 rename_i tp _ _
 refine ⟨tp,rfl,?_⟩
 have h := (hS.bagNil).took (out := [Ziz tp lp n r,mapq (Value.int .i64) r [],bag [],qlog lp p j (m + 1) (Zca dat (List.map Wr.data [⟨0,⟨some ⟨q2,0,none⟩,64,Zcq rd fs n⟩⟩]))])
 exact St.shutItab (A := []) (dat := Zca dat [(0,Zcq rd fs n)]) ⟨Z3q n,Z44 rd fs hd hz,h1,h4,hnb⟩ h
theorem St.sorted {W : World} {F : Nat → Prop} {rs : List Res} {w : World} {T : TypeId} {b c : Nat} {P : List Int} (Q : List Int) (hQ : Q.length = P.length) (hpos : 0 < P.length) (n : Nat) (os : Array Obj) (hS : St W F (own T 1 (some ⟨b,0,none⟩) c (ints .i64 P) :: rs) w) :
  St W F (own T 1 (some ⟨b,0,none⟩) c (ints .i64 Q) :: rs) (Sort.grow (Sort.putRow (Value.int .i64) (Sort.ahead w n) b 0 Q.toArray) os) := by
 obtain ⟨g,⟨g1,g2,hown,hrest,hdj,hun⟩,s⟩ := hS
 obtain ⟨hle,hcm,⟨rfl,_⟩ | ⟨b',cells,hbe,rfl,hcz,ht⟩⟩ := hown
 ·rw [Nat.zero_mul,ints_length] at hle; omega
 ·obtain rfl : b = b' := by simpa using hbe
  have hb : w.heap[b]? = some (.cells cells T (0,0)) := s.agrees b _ (by rw [hun,Zar]; rfl)
  have hS2 : St W F (pts b (.cells cells T (0,0)) :: rs) w := ⟨g,⟨_,g2,rfl,hrest,hdj,hun⟩,s⟩
  have u : SetBlock w (Sort.putRow (Value.int .i64) (Sort.ahead w n) b 0 Q.toArray) b (.cells (Sort.putCells (Value.int .i64) 0 Q.toArray cells) T (0,0)) := by
   refine ⟨by simp,?_,fun k hk => ?_,rfl,rfl,rfl⟩
   ·simp only [Sort.putRow,Sort.mapBlock,Sort.heap_ahead]
    rw [Array.getElem?_modify,if_pos rfl,hb]; rfl
   ·simp only [Sort.putRow,Sort.mapBlock,Sort.heap_ahead]
    rw [Array.getElem?_modify,if_neg (Ne.symm hk)]
  have hS3 := hS2.set u
  have hbel : RowKit.Below (Sort.putRow (Value.int .i64) (Sort.ahead w n) b 0 Q.toArray).heap.size (Sort.putRow (Value.int .i64) (Sort.ahead w n) b 0 Q.toArray) (Sort.grow (Sort.putRow (Value.int .i64) (Sort.ahead w n) b 0 Q.toArray) os) :=
   ⟨rfl,rfl,rfl,by simp [Sort.grow],fun k hk => by
    simp only [Sort.grow]
    rw [Array.getElem?_append_left hk]⟩
  refine (hS3.below hbel).head fun h hh => ?_
  have hPl : P.length ≤ cells.size := by rw [ints_length] at hle; omega
  have key := Zbc (T := T) (e := 1) (c := c) (b := b) (l := (Sort.putCells (Value.int .i64) 0 Q.toArray cells).toList) (cs := ints .i64 Q) (by simp [Sort.putCells,hcz]) hcm (by
   apply List.ext_getElem?
   intro k
   rw [List.getElem?_take,ints_length]
   by_cases hk : k < Q.length
   ·rw [if_pos hk]
    simp only [Sort.putCells,Array.toList_mapIdx,List.getElem?_mapIdx]
    have hkc : k < cells.toList.length := by simp; omega
    rw [List.getElem?_eq_getElem hkc]
    simp [ints,hk]
   ·rw [if_neg hk,List.getElem?_eq_none (by rw [ints_length]; omega)])
  exact key h (by simpa using hh)
theorem St.ownHolds {W : World} {F : Nat → Prop} {rs : List Res} {w : World} {T b c : Nat} {P : List Int} (hS : St W F (own T 1 (some ⟨b,0,none⟩) c (ints .i64 P) :: rs) w) (hpos : 0 < P.length) : Sort.Holds (Value.int .i64) w b 0 P.toArray ∧ b < w.heap.size := by
 obtain ⟨g,⟨g1,g2,hown,hrest,hdj,hun⟩,s⟩ := hS
 obtain ⟨hle,hcm,⟨rfl,_⟩ | ⟨b',cells,hbe,rfl,hcz,ht⟩⟩ := hown
 ·rw [Nat.zero_mul,ints_length] at hle; omega
 ·obtain rfl : b = b' := by simpa using hbe
  have hb : w.heap[b]? = some (.cells cells T (0,0)) := s.agrees b _ (by rw [hun,Zar]; rfl)
  refine ⟨fun j hj => ?_,Zb9 hb⟩
  have hj : j < P.length := by simpa using hj
  rw [Nat.zero_add]
  refine ⟨?_,frozen_of_row w b j cells T hb⟩
  rw [cell_of_row w b j cells T (0,0) hb]
  have h1 := congrArg (fun l => l[j]?) ht
  simp only [List.getElem?_take,ints_length,hj,if_true] at h1
  rw [ints_get hj] at h1
  have e : P.toArray[j]! = P.getD j 0 := by
   rw [getElem!_pos _ j (by simpa using hj)]
   simp [List.getD_eq_getElem?_getD,hj]
  rw [e]
  simpa using h1
theorem Z8g (l bx r : Nat) (A : AV) (T : TypeId) (w : World) (W : World) (F : Nat → Prop) (S : List Int → List Res) (hm : Ro W F (mapq (Value.int .i64) r A.vals)) (hbx : Ro W F (pts bx (.cells #[.map (some r)] T)))
  (hstep : ∀ (P : List Int) (k : Int) (it : Nat) (o : Obj) (w : World),P.length < A.length → St W F (pts it o :: S P) w → ∃ rc : Loop,rc.params.size = 1 ∧ w.heap[l]? = some (.loop rc) ∧
   RoundIn Fence.wide 0 Tryz.prog l rc.fn ((rc.params.zip #[.int .i64 k]).foldl (fun tmps (t,a) => tmps.setIfInBounds t a) rc.tmps) rc.assign rc.body w (Ret fun v w' => v = .bool true ∧ St W F (pts it o :: S (P ++ [k])) w'))
  (hS : St W F (S []) w) :
  CallsIn Fence.wide 0 Tryz.prog 235 #[.func (.yield l) #[] #[],.pointer (some ⟨bx,0,none⟩)] w (Ret fun _ w' => ∃ P it o,P.Perm (Zaw A) ∧ St W F (pts it o :: S P) w') := by
 refine callsIn_wide.2 ?_
 obtain ⟨es,clock,hes,hst,hmp⟩ := hm.openMap
 refine Zab Tryz.func235 rfl Tryz.ntmps235 rfl ?_
 repeat (first|refine Yaa ?_|refine Yeh ?_)
 refine X_yl (Zav rfl rfl ((cell_of_row _ bx 0 #[.map (some r)] T (0,0) (hbx.rd hS).pts).trans rfl)) rfl rfl ?_
 repeat (first|refine Yaa ?_)
 refine Znn rfl rfl (hmp.rd hS) rfl rfl hS (fun it w hS _ => ?_)
 repeat (first|refine Yac ?_|refine Yaj ?_|refine Yab ?_)
 refine Zaj (α := Array Nat × List Int) (fun _ => [(0,.func (.yield l) #[] #[]),(5,.pointer (some ⟨it,0,none⟩))])
  (fun z w => (z.2.map (Value.int .i64) ++ (Zdr es z.1).map (·.key)).Perm (es.toList.map (·.key)) ∧ St W F (pts it (.mapIter (some r) clock z.1 clock) :: S z.2) w) (fun z => (Zdr es z.1).length) (#[],[]) ⟨rfl,rfl,trivial⟩ ⟨by rw [Zlb]; exact List.Perm.refl _,hS⟩ ?_
 clear hS
 rintro ⟨seen,P⟩ w ⟨hp,hS⟩
 simp only at hp hS ⊢
 have hek : es.toList.map (·.key) = (Zaw A).map (Value.int .i64) := by
  have e1 : es.toList.map (·.key) = (kvs es).map (·.1) := by simp [kvs,Function.comp_def]
  rw [e1,hes]
  simp [AV.vals,Zaw,Function.comp_def]
 repeat (first|refine Yaa ?_|refine Yeh ?_)
 refine Zrg rfl rfl hst (hmp.rd hS) rfl rfl hS (fun h0 => ?_) (fun e he w hS => ?_)
 ·repeat (first|refine Yeg ?_|refine Ya3 ?_|refine Yae ?_|refine Ya4 ?_|refine Yai ?_|refine Yab ?_|refine Ya5 ?_|refine Ya6 ?_|refine Ybt ?_)
  rw [h0,List.map_nil,List.append_nil,hek] at hp
  have hp2 := hp.map (fun v => match v with | Value.int _ i => i | _ => 0)
  simp only [List.map_map,Function.comp_def,List.map_id'] at hp2
  exact ⟨P,it,_,hp2,hS⟩
 ·have hel : e ∈ es.toList := (List.mem_filter.1 he).1
  have hstep2 := Zm3 hst he
  obtain ⟨x,hxA,hk,hv⟩ := Zuc hes hel
  have hlt : (Zdr es (seen.push e.born)).length < (Zdr es seen).length := by rw [hstep2.length_eq]; simp
  have hp3 : ((P ++ [x.1]).map (Value.int .i64) ++ (Zdr es (seen.push e.born)).map (·.key)).Perm (es.toList.map (·.key)) := by
   refine List.Perm.trans ?_ hp
   rw [List.map_append,List.append_assoc]
   refine List.Perm.append_left _ ?_
   have := (hstep2.map (·.key)).symm
   rw [List.map_cons,hk] at this
   exact this
  repeat (first|refine Yeg ?_|refine Ya3 ?_|refine Yek ?_|refine Yab ?_)
  refine X_yl (Zuv rfl rfl hst hel hS.has (hmp.rd hS).pts) rfl rfl ?_
  rw [hk]
  iterate 12 (first | (refine G_id ?_; first | refine Zme ?_ | refine Zeq rfl rfl ?_) | (refine X_id ?_; first | refine X_yl (Zce rfl rfl) rfl rfl ?_ | refine X_yl (Zbf rfl rfl) rfl rfl ?_ | refine X_yl (Zdi rfl rfl) rfl rfl ?_) | (refine C_id ?_; first | refine Zdl ?_ | refine Zay ?_) | (refine E_id ?_; first | refine Zcx ?_))
  have hPl : P.length < A.length := by
   have h1 := hp3.length_eq
   rw [hek] at h1
   simp [Zaw] at h1
   omega
  obtain ⟨rc,hps,hl,hr⟩ := hstep P x.1 it _ w hPl hS
  refine Zsu rfl rfl rfl rfl rfl rfl hl (by rw [hps]; rfl) hr ?_
  rintro v w' ⟨rfl,hS⟩
  repeat (first|refine Yeg ?_|refine Ybc ?_|refine Yal ?_|refine Yai ?_|refine Yeo ?_)
  exact Zaf (z := (seen,P)) (seen.push e.born,P ++ [x.1]) ⟨rfl,rfl,trivial⟩ ⟨hp3,hS⟩ hlt
theorem Fr.round1 {σ : Env} {N : Nat} {tm : Array Value} (hsz : tm.size = N) (h : ∀ n v,look σ n = some v → tm[n]? = some v) (l : Nat) {a : Nat} (x : Value) (ha : a < N) :
  Fr ((a,x) :: σ) N ⟨[],some l⟩ { tmps := (#[a].zip #[x]).foldl (fun tmps (t,v) => tmps.setIfInBounds t v) tm,defers := [] } := by
 have := (Fr.round (σ := σ) (N := N) hsz h l).put ha x
 simpa [Act.put] using this
def seqR (b : Nat) (P : List Int) : Res := fun h => ∃ a c,P.length ≤ c ∧ Sep [pts b (.cells #[.slice a P.length c] 270),own 3 1 a c (ints .i64 P)] h
theorem St.openSeq {W : World} {F : Nat → Prop} {b : Nat} {P : List Int} {rs : List Res} {w : World} (hS : St W F (seqR b P :: rs) w) : ∃ a c,P.length ≤ c ∧ St W F (pts b (.cells #[.slice a P.length c] 270) :: own 3 1 a c (ints .i64 P) :: rs) w := by
 obtain ⟨h,⟨h1,h2,⟨a,c,hc,hs⟩,hr,hd,hu⟩,s⟩ := hS
 exact ⟨a,c,hc,h,Sep.append_mk hs hr hd hu,s⟩
theorem St.shutSeq {W : World} {F : Nat → Prop} {b c : Nat} {a : Option Addr} {P : List Int} {rs : List Res} {w : World} (hc : P.length ≤ c) (hS : St W F (pts b (.cells #[.slice a P.length c] 270) :: own 3 1 a c (ints .i64 P) :: rs) w) : St W F (seqR b P :: rs) w :=
 St.shutR (rs' := [pts b (.cells #[.slice a P.length c] 270),own 3 1 a c (ints .i64 P)]) hS fun _ hh => ⟨a,c,hc,hh⟩
theorem Zwl (bx r : Nat) (A : AV) (T : TypeId) (W : World) (hm : Rd W (mapq (Value.int .i64) r A.vals)) (hbx : Rd W (pts bx (.cells #[.map (some r)] T))) (hAl : A.length ≤ 1000) :
  Calls Tryz.prog 257 #[.slice none 0 0,.func (.func 235) #[] #[.pointer (some ⟨bx,0,none⟩)]] W (Ret fun v w => ∃ P a c,v = .slice a P.length c ∧ P.length ≤ c ∧ P.Perm (Zaw A) ∧ St W noF [own 3 1 a c (ints .i64 P)] w) := by
 have hmo := hm.ro
 have hbo := hbx.ro
 have hS := St.start W
 refine Zab Tryz.func257 rfl Tryz.ntmps257 rfl ?_
 repeat (first|refine Yeg ?_|refine Yev ?_|refine Ya7 (fun _ _ hS _ => ?_)|refine Yej ?_|refine Yab ?_)
 rename_i b2 _ _
 have hS := hS.own_none 3 1 none
 have hS : St W noF [seqR b2 []] _ := (hS.pick [1,0]).shutSeq (Nat.le_refl _)
 refine Zht (first := []) (captured := [.pointer (some ⟨bx,0,none⟩)])
  (fun l rr j w => j = none ∧ ∃ P it o lo,P.Perm (Zaw A) ∧ St W noF [pts l lo,pts rr (.deferred (some [])),pts it o,seqR b2 P] w) rfl rfl hS ?_ ?_ ?_
 ·intro Aa B hA hB fn tm l rr w1 htm hlook hS
  refine Zgl (Z8g l bx r A T w1 W noF (fun P => [pts l (.loop (recd fn tm #[7] Aa B rr .ready none)),pts rr (.deferred (some [])),seqR b2 P]) hmo hbo ?_ hS) ?_
  ·intro P k it o w hPl hS
   refine ⟨_,rfl,hS.has (b := l),?_⟩
   show RoundIn Fence.wide 0 Tryz.prog l fn ((#[7].zip _).foldl _ tm) Aa B w _
   refine Zry (Fr.round1 (a := 7) htm hlook l (.int .i64 k) (by decide)) ?_
   refine C_eq hA ?_
   repeat (first|refine Yeg ?_|refine Yag ?_|refine Yad ?_)
   refine Zo9 (hS.has (b := l)) (fun w hset => ?_)
   replace hS := hS.upd hset
   refine C_eq hB ?_
   obtain ⟨a,c,hc,hS⟩ := (hS.pick [3,0,0,0]).openSeq
   repeat (first|refine Yaa ?_|refine Yaf ?_|refine Yap ?_|refine Ybd (fun _ _ hS _ => ?_)|refine Yad ?_|refine Yaj ?_)
   refine Zap (m := 1) rfl rfl rfl rfl rfl hS (by rw [ints_length,Nat.mul_one]) hc ((hS.rd (List.mem_cons_self ..)).own_row) (by simp) (by simp [Value.oneCell']) (by omega) (by simp only [maxLen]; omega) (fun a' c' w hS hc' _ => ?_)
   repeat (first|refine Yeg ?_|refine Yao (fun _ hS _ => ?_)|refine Yat ?_)
   refine Zl5 (hS.has (b := l)) (fun w hset => ⟨_,rfl,rfl,?_⟩)
   replace hS := hS.upd hset
   have h := hS.took (out := [pts b2 (.cells #[.slice a' (P.length + 1) c'] 270),own 3 1 a' c' (ints .i64 P ++ [.int .i64 k]),pts it o,pts l (.loop (recd fn tm #[7] Aa B rr .ready none)),pts rr (.deferred (some []))])
   have h2 : St W noF [seqR b2 (P ++ [k]),pts it o,pts l (.loop (recd fn tm #[7] Aa B rr .ready none)),pts rr (.deferred (some []))] w := St.shutSeq (b := b2) (P := P ++ [k]) (a := a') (c := c') (by simpa using hc') (by rw [Zld,List.length_append]; exact h)
   exact h2.pick [1,1,1,0]
  ·rintro _ w3 ⟨P,it,o,hp,hS⟩
   exact ⟨_,_,by simp,hS.has (b := l),fun w4 hset => ⟨rfl,P,it,o,_,hp,(hS.upd hset).pick [1,1,0,0]⟩⟩
 ·rintro l rr w4 ⟨_,P,it,o,lo,hp,hS⟩
  obtain ⟨a,c,hc,hS⟩ := (hS.pick [3,0,0,0]).openSeq
  repeat (first|refine Yeg ?_|refine Yag ?_|refine Yap ?_|refine Yeu ?_|refine Yab ?_|refine Zo8 rfl ?_|refine Yat ?_)
  refine Zu0 (.inl rfl) hS.has (fun w hset => ?_)
  replace hS := hS.upd hset
  repeat (first|refine Yam ?_)
  exact ⟨P,a,c,rfl,hc,hp,hS.took⟩
 ·rintro l rr c w4 hJ
  cases hJ.1
theorem Z13 (bx r : Nat) (A : AV) (T : TypeId) (W : World) (hm : Rd W (mapq (Value.int .i64) r A.vals)) (hbx : Rd W (pts bx (.cells #[.map (some r)] T))) (hAl : A.length ≤ 1000) :
  Calls Tryz.prog 233 #[.func (.func 235) #[] #[.pointer (some ⟨bx,0,none⟩)]] W (Ret fun v w => ∃ P a c,v = .slice a P.length c ∧ P.length ≤ c ∧ P.Perm (Zaw A) ∧ St W noF [own 3 1 a c (ints .i64 P)] w) := by
 have hmo := hm.ro
 have hbo := hbx.ro
 have hS := St.start W
 refine Zab Tryz.func233 rfl Tryz.ntmps233 rfl ?_
 repeat (first|refine Yeg ?_|refine Yev ?_|refine Yeh ?_|refine Yab ?_)
 refine Zaa _ rfl rfl rfl rfl rfl (Zwl bx r A T _ (hmo.rd hS) (hbo.rd hS) hAl) ?_
 rintro _ w ⟨P,a,c,rfl,hc,hp,hS'⟩
 replace hS := hS.plus hS'
 clear hS'
 repeat (first|refine Yeg ?_|refine Yag ?_|refine Yah ?_|refine Yei ?_)
 exact ⟨P,a,c,rfl,hc,hp,hS.took⟩
theorem Z6a (a : Option Addr) (c : Nat) (w : World) : Calls Tryz.prog 234 #[.slice a 0 c] w (Ret fun _ w' => w' = w) :=
 (Tryz.slices_Sort_int_none a c w).mono fun _ _ h => ⟨_,h.1,h.2⟩
theorem Z59 (b c : Nat) (P : List Int) (w : World) (hH : Sort.Holds (Value.int .i64) w b 0 P.toArray) (hlt : b < w.heap.size) (hl : P.length < 4611686018427387904) :
  Calls Tryz.prog 234 #[.slice (some ⟨b,0,none⟩) P.length c] w (Ret fun _ w' => ∃ n os,w' = Sort.grow (Sort.putRow (Value.int .i64) (Sort.ahead w n) b 0 (P.mergeSort fun x y => decide (x ≤ y)).toArray) os) :=
 (Tryz.slices_Sort_int b 0 c P w hH hlt hl).mono fun _ _ h => ⟨_,h.1,h.2⟩
theorem Z3y (bx r : Nat) (A : AV) (T : TypeId) (W : World) (hm : Rd W (mapq (Value.int .i64) r A.vals)) (hbx : Rd W (pts bx (.cells #[.map (some r)] T))) (hAl : A.length ≤ 1000) :
    Calls Tryz.prog 203 #[.func (.func 235) #[] #[.pointer (some ⟨bx,0,none⟩)]] W (Ret fun v w => ∃ P a c,v = .slice a P.length c ∧ P.length ≤ c ∧ P.Perm (Zaw A) ∧ P.Pairwise (· ≤ ·) ∧ St W noF [own 3 1 a c (ints .i64 P)] w) := by
  have hmo := hm.ro
  have hbo := hbx.ro
  have hS := St.start W
  refine Zab Tryz.func203 rfl Tryz.ntmps203 rfl ?_
  repeat (first|refine Yeg ?_|refine Yev ?_|refine Yeh ?_|refine Yab ?_)
  refine Zaa _ rfl rfl rfl rfl rfl (Z13 bx r A T _ (hmo.rd hS) (hbo.rd hS) hAl) ?_
  rintro _ w ⟨P,a,c,rfl,hc,hp,hS'⟩
  replace hS := hS.plus hS'
  clear hS'
  repeat (first|refine Yeg ?_|refine Yev ?_|refine Yeh ?_|refine Yab ?_)
  by_cases h0 : P.length = 0
  · obtain rfl : P = [] := List.length_eq_zero_iff.1 h0
    refine Zaa _ rfl rfl rfl rfl rfl (Z6a a c _) ?_
    rintro v w' rfl
    repeat (first|refine Yeg ?_|refine Yev ?_|refine Yeu ?_|refine Yei ?_)
    exact ⟨[],a,c,rfl,hc,hp,List.Pairwise.nil,hS.took⟩
  · obtain ⟨b,rfl⟩ := hS.ownBase (by intro e; exact h0 (by simpa [ints] using congrArg List.length e))
    obtain ⟨hH,hlt⟩ := hS.ownHolds (by omega)
    have hlen := hp.length_eq
    rw [show (Zaw A).length = A.length by simp [Zaw]] at hlen
    refine Zaa _ rfl rfl rfl rfl rfl (Z59 b c P _ hH hlt (by omega)) ?_
    rintro v w' ⟨n,os,rfl⟩
    have hPm : (P.mergeSort fun x y => decide (x ≤ y)).length = P.length := List.length_mergeSort _
    replace hS := hS.sorted (P.mergeSort fun x y => decide (x ≤ y)) hPm (by omega) n os
    repeat (first|refine Yeg ?_|refine Yev ?_|refine Yeu ?_|refine Yei ?_)
    refine ⟨P.mergeSort fun x y => decide (x ≤ y),_,c,by rw [hPm],by rw [hPm]; exact hc,(List.mergeSort_perm _ _).trans hp,?_,hS.took⟩
    have := List.pairwise_mergeSort (le := fun x y => decide (x ≤ y)) (fun a b c h1 h2 => by simp only [decide_eq_true_eq] at h1 h2 ⊢; omega) (fun a b => by simp only [Bool.or_eq_true,decide_eq_true_eq]; omega) P
    exact this.imp (fun h => by simpa using h)
theorem Z8a (r : Nat) (W : World) : Calls Tryz.prog 204 #[.map (some r)] W (Ret fun v w => ∃ bx,v = .func (.func 235) #[] #[.pointer (some ⟨bx,0,none⟩)] ∧ St W noF [pts bx (.cells #[.map (some r)] 182)] w) := by
 have hS := St.start W
 refine Zab Tryz.func204 rfl Tryz.ntmps204 rfl ?_
 repeat (first|refine Yeg ?_|refine Yag ?_|refine Ycg ?_|refine Ya7 (fun _ _ hS _ => ?_)|refine Yeu ?_|refine Yei ?_)
 exact ⟨_,rfl,hS.took⟩
def Zph (T : Tb) : List Int := ((List.range T.length).filter fun i => (T.getD i none).isSome).map fun i => ((i : Nat) : Int)
theorem Zpg (T : Tb) : (Zph T).Pairwise (· < ·) := by
  unfold Zph
  rw [List.pairwise_map]
  exact (List.pairwise_lt_range.sublist List.filter_sublist).imp (fun h => by omega)
theorem Zmp : ∀ {P Q : List Int},P.Pairwise (· < ·) → Q.Pairwise (· < ·) → (∀ x,x ∈ P ↔ x ∈ Q) → P = Q
  | [],[],_,_,_ => rfl
  | [],y :: Q,_,_,h => absurd ((h y).2 (List.mem_cons_self ..)) (List.not_mem_nil)
  | x :: P,[],_,_,h => absurd ((h x).1 (List.mem_cons_self ..)) (List.not_mem_nil)
  | x :: P,y :: Q,hP,hQ,h => by
    have hP' := List.pairwise_cons.1 hP
    have hQ' := List.pairwise_cons.1 hQ
    have e : x = y := by
      rcases List.mem_cons.1 ((h x).1 (List.mem_cons_self ..)) with e | hx
      · exact e
      · rcases List.mem_cons.1 ((h y).2 (List.mem_cons_self ..)) with e | hy
        · exact e.symm
        · have h1 := hQ'.1 x hx
          have h2 := hP'.1 y hy
          omega
    subst e
    congr 1
    refine Zmp hP'.2 hQ'.2 fun z => ⟨fun hz => ?_,fun hz => ?_⟩
    · rcases List.mem_cons.1 ((h z).1 (List.mem_cons_of_mem _ hz)) with e | hz'
      · subst e; exact absurd (hP'.1 z hz) (by omega)
      · exact hz'
    · rcases List.mem_cons.1 ((h z).2 (List.mem_cons_of_mem _ hz)) with e | hz'
      · subst e; exact absurd (hQ'.1 z hz) (by omega)
      · exact hz'
section
variable {rd fs : List Int} {tp lp p j m n nb : Nat} {T : Tb}
theorem Zu2 {A : AV} {dat : List (List UInt8)} (h : TabOk rd fs n nb T A dat) {P : List Int} (hp : P.Perm (Zaw A)) (hs : P.Pairwise (· ≤ ·)) : P = Zph T := by
  have hn : P.Nodup := hp.nodup_iff.2 (by rw [← Zp9]; exact h.enc.nodup)
  refine Zmp ?_ (Zpg T) fun x => ?_
  · have := hs.and hn
    exact this.imp (fun h => by omega)
  · rw [hp.mem_iff]
    have hat := h.at_ x
    have hk : x ∈ Zaw A ↔ (atT T x).isSome = true := by
      rw [← hat,Option.isSome_map]
      have := getA_none (k := x) (l := A)
      cases hg : getA x A with
      | none => simp [this.1 hg]
      | some v =>
        simp only [Option.isSome_some,iff_true]
        exact Decidable.byContradiction fun q => by rw [this.2 q] at hg; cases hg
    rw [hk]
    unfold Zph atT
    constructor
    · intro hx
      split at hx
      · rename_i h0
        have hlt : x.toNat < T.length := by
          rcases Nat.lt_or_ge x.toNat T.length with h | h
          · exact h
          · rw [List.getD_eq_getElem?_getD,List.getElem?_eq_none h] at hx; cases hx
        exact List.mem_map.2 ⟨x.toNat,List.mem_filter.2 ⟨List.mem_range.2 hlt,hx⟩,by omega⟩
      · cases hx
    · intro hx
      obtain ⟨i,hi,rfl⟩ := List.mem_map.1 hx
      rw [if_pos (by omega),Int.toNat_natCast]
      exact (List.mem_filter.1 hi).2
theorem Z9y {r : Nat} {A : AV} {dat : List (List UInt8)} (W : World) (hI : ItabRd W rd fs tp lp p j m n nb T r A dat) : Calls Tryz.prog 151 #[.pointer (some ⟨tp,0,none⟩)] W (Ret fun v w => ∃ a c,v = .slice a (Zph T).length c ∧ (Zph T).length ≤ c ∧ St W noF [own 3 1 a c (ints .i64 (Zph T))] w) := by
 have hc := hI.t.ro
 have hmo := hI.mp.ro
 have hAl : A.length ≤ 1000 := by
  have h1 := hI.ok.enc.nodup
  have h2 := hI.ok.enc.keys
  have h4 := hI.ok.n4
  have h3 : (Zaw A.ents).length ≤ ((List.range n).map fun i => ((i : Nat) : Int)).length := h1.length_le_of_subset fun k hk => by
   have := h2 k hk
   exact List.mem_map.2 ⟨k.toNat,List.mem_range.2 (by omega),by omega⟩
  simp [Zaw,AV.ents] at h3
  omega
 have hS := St.start W
 refine Zab Tryz.func151 rfl Tryz.ntmps151 rfl ?_
 repeat (first|refine Yeg ?_|(refine X_id ?_;first|refine Yaf ?_|refine Yag ?_|refine Yav ?_|refine Yan ?_|refine Ybu ?_|refine Ycd ?_)|refine Yes ?_|refine Yab ?_)
 refine Zaa _ rfl rfl rfl rfl rfl (Z8a r _) ?_
 rintro _ w ⟨bx,rfl,hS'⟩
 replace hS := hS.plus hS'
 clear hS'
 repeat (first|refine Yaa ?_)
 refine Zaa _ rfl rfl rfl rfl rfl (Z3y bx r A _ _ (hmo.rd hS) (hS.rd (List.mem_cons_self ..)) hAl) ?_
 rintro _ w ⟨P,a,c,rfl,hc2,hp,hs,hS'⟩
 replace hS := hS.plus hS'
 clear hS'
 obtain rfl := Zu2 hI.ok hp hs
 repeat (first|refine Yeg ?_|refine Yag ?_|refine Yah ?_|refine Yei ?_)
 exact ⟨a,c,rfl,hc2,hS.took⟩
end
section
open Go.MapKept
variable {α : Type} [DecidableEq α]
variable {P : Program} {o : Oper} {σ : Env} {w : World} {x y : Operand} {t kt et : TypeId} {N : Nat} {ds : Md} {K : Env → World → Prop} {mk : α → Value} {dd : TypeDesc}
theorem Zzo {r : Nat} {L : List (α × Value)} {k : α} {v : Value} {W : World} {F : Nat → Prop} {rs : List Res} {z : Operand} (ho : o.op = .insert t x y z) (hx : ev σ x = some (.map (some r))) (hy : ev σ y = some (mk k)) (hz : ev σ z = some v) [hu : Und P t (.map kt et)] [hkt : Und P kt dd] [hK : Key dd mk]
  (hd : o.dst = none) (hS : St W F (mapq mk r L :: rs) w) (hk : ∀ w',St W F (mapq mk r (setM k v L) :: rs) w' → K σ w') : X P o N ds σ w K := ⟨fun f ha K' Q' hKK => by
 obtain ⟨es,clock,hes,hst,hS2⟩ := hS.openMap
 have hb : w.heap[r]? = some (.map es clock) := hS2.get
 obtain ⟨q,g1,g2,_⟩ := Zdc (hk := hK) k L es.toList 0 hes
 have hc := run_checkKey (P := P) (w := w) hkt.und (hK.isKey k) false 9999
 have hf := run_findKey (P := P) (w := w) hkt.und g1
 have hg : (getObj r).run P w = .ok (.map es clock) w := by simp [getObj,Sem.run,hb]
 have hset : ∀ o',(setObj r o').run P w = .ok () { w with heap := w.heap.setIfInBounds r o' } := fun o' => run_setObj_map o' hb
 unfold Oper.wp
 have key : ∃ es' clock',(execOp f.eval o).run P w = .ok .skip { w with heap := w.heap.setIfInBounds r (.map es' clock') } ∧ kvs es' = (setM k v L).map (fun x => (mk x.1,x.2)) ∧ StampOk es' clock' := by
  cases hq : q with
  | none =>
   subst hq
   refine ⟨es.push { key := mk k,val := v,born := clock },clock + 1,?_,?_,Zmn hst _ _⟩
   ·simp only [execOp,ho,ha.eval hx,ha.eval hy,ha.eval hz,Instr.mapUpdate,Sem.run_bind,run_underlying hu.und,hg,hc,hf,hset,Result.andThen_ok,Sem.run_pure]
   ·rw [Zh2 (by rw [← g2]; rfl)]
    have hes' : es.toList.map (fun e => (e.key,e.val)) = L.map (fun x => (mk x.1,x.2)) := hes
    simp [kvs,hes']
  | some p =>
   obtain ⟨j,u⟩ := p
   subst hq
   obtain ⟨g4,g5,g6⟩ := Zh1 (v := v) L es.toList 0 hes j u g1
   simp only [Nat.sub_zero] at g4 g6
   have hek : ((es[j]?).map (·.key)).getD (mk k) = mk k := by
    rw [← Array.getElem?_toList,g6]; rfl
   refine ⟨es.modify j fun e => { e with key := mk k,val := v },clock,?_,?_,Zjl hst _ _ (fun _ => rfl)⟩
   ·simp only [execOp,ho,ha.eval hx,ha.eval hy,ha.eval hz,Instr.mapUpdate,Sem.run_bind,run_underlying hu.und,hg,hc,hf,hset,Result.andThen_ok,Sem.run_pure,hek,Instr.keyThatStays,hK.bits,if_true]
   ·simpa [kvs,Array.toList_modify] using g4
 obtain ⟨es',clock',hexec,hes',hst'⟩ := key
 rw [hexec]
 have u := Za8 (o' := .map es' clock') hb
 refine hKK _ _ _ (?_ : Fr σ N ds _) (hk _ ((hS2.set u).head fun h hh => ⟨es',clock',hes',hst',hh⟩))
 rw [hd]; exact ha⟩
end
section
open Go.MapKept
variable {α : Type}
variable {P : Program} {o : Oper} {σ : Env} {w : World} {x : Operand} {t kt et : TypeId} {mk : α → Value}
theorem Zzf {r : Nat} {L : List (α × Value)} (ho : o.op = .call { callee := .builtin .len,args := #[x],argTypes := #[t] }) (hx : ev σ x = some (.map (some r))) [h : Und P t (.map kt et)] (hr : Rd w (mapr mk r L)) : Yl P o σ w (.int .i64 L.length) := ⟨fun N ds f ha => by
 obtain ⟨g,⟨es,clock,hes,rfl⟩,hag⟩ := hr
 have hb : w.heap[r]? = some (.map es clock) := hag r _ (Zar _ _)
 have hg : (getObj r).run P w = .ok (.map es clock) w := by simp [getObj,Sem.run,hb]
 have hl : es.size = L.length := by
  have := congrArg List.length hes
  simpa using this
 simp [execOp,ho,resolve,invoke,builtin,Builtin.len_,ha.eval hx,run_underlying h.und,goInt,hg,hl]⟩
end
theorem Ziy {rd fs : List Int} {tp lp p j m n nb : Nat} {T : Tb} {W : World} {F : Nat → Prop} (h : Ro W F (itab rd fs tp lp p j m n nb T)) : TabOf W F tp n (atT T) := by
 refine ⟨fun w hw => ?_,fun w no hw => ?_⟩
 ·obtain ⟨r,A,dat,hI⟩ := (hw _ h).itab
  exact Z76 w hI
 ·obtain ⟨r,A,dat,hI⟩ := (hw _ h).itab
  cases hT : atT T no with
  | none => exact Z1s no hT w hI
  | some x => exact Z1r no x hT w hI
def rootNd : Nd := ⟨⟨1,493,0,0⟩,wrD []⟩
theorem Zve (W : World) (a : Option Addr) (c : Nat) : Calls Tryz.prog 150 #[.slice a 0 c] W (Ret fun v w => v = .bool true ∧ St W noF [] w) := by
 have hS := St.start W
 refine Zab Tryz.func150 rfl Tryz.ntmps150 rfl ?_
 repeat (first|refine Yeg ?_|refine Yfh ?_|refine Yej ?_|refine Yab ?_)
 refine Zaj (α := Unit) (fun _ => [(6,.int .i64 0),(7,.int .i64 0)]) (fun _ w => St W noF [] w) (fun _ => 0) () ⟨rfl,rfl,trivial⟩ hS ?_
 clear hS
 rintro _ w hS
 repeat (first|refine Yeg ?_|refine Yag ?_|refine Yaz ?_|refine Yep ?_|refine Yfc ?_)
 exact ⟨rfl,hS⟩
theorem Zu9 {rd fs : List Int} {tp lp p j m n nb : Nat} {T : Tb} (W : World) (hIt : Ro W noF (itab rd fs tp lp p j m n nb T)) (hG : Lg W noF) (h0 : atT T 0 = some rootNd) (hu : (Zph T).length = 1) :
  Calls Tryz.prog 89 #[.pointer (some ⟨tp,0,none⟩)] W (Ret fun v w => v = .bool true ∧ St W noF [] w) := by
 have hS := St.start W
 have htab := Ziy hIt
 have hrl : rootNd.data.length = 2 := by show (wrD []).length = 2; rw [Zrj]; rfl
 have hrd : rdD rootNd.data = [] := Zxj (l := []) fun x hx => by cases hx
 refine Zab Tryz.func89 rfl Tryz.ntmps89 rfl ?_
 repeat (first|refine Yeg ?_|refine Yag ?_|refine Yeh ?_|refine Yab ?_)
 refine Zfo (Value.int .i64) rfl rfl rfl hS (fun mr w hS => ?_)
 repeat (first|refine Yaa ?_)
 refine Zzo (mk := Value.int .i64) (k := 0) rfl rfl rfl rfl rfl hS (fun w hS => ?_)
 repeat (first|refine Yeg ?_|refine Yev ?_|refine Ybd (fun _ _ hS _ => ?_)|refine Yej ?_|refine Yab ?_)
 have hS1 : St W noF [mapq (Value.int .i64) mr [((0 : Int),Value.bool true)]] _ := hS.drop
 rename_i lb _ _
 have hS0 : St W noF [own 3 1 (some ⟨lb,0,none⟩) 1 [.int .i64 0],mapq (Value.int .i64) mr [((0 : Int),Value.bool true)]] _ := hS
 clear hS hS1
 refine Zaj (α := Nat × Option Addr × Nat × Nat) (fun z => [(0,.pointer (some ⟨tp,0,none⟩)),(3,.map (some mr)),(4,.slice z.2.1 z.2.2.1 z.2.2.2),(5,.int .i64 (z.1 : Nat))])
  (fun z w => (z = (0,some ⟨lb,0,none⟩,1,1) ∧ St W noF [own 3 1 (some ⟨lb,0,none⟩) 1 [.int .i64 0],mapq (Value.int .i64) mr [((0 : Int),Value.bool true)]] w) ∨ (z = (1,none,0,0) ∧ St W noF [mapq (Value.int .i64) mr [((0 : Int),Value.bool true)]] w)) (fun z => z.2.2.1) (0,some ⟨lb,0,none⟩,1,1) ⟨rfl,rfl,rfl,rfl,trivial⟩ (.inl ⟨rfl,hS0⟩) ?_
 clear hS0
 rintro z w (⟨rfl,hS⟩ | ⟨rfl,hS⟩)
 ·simp only
  repeat (first|refine Yeg ?_|refine Yaf ?_|refine Yag ?_|refine Yau ?_|refine Ybz ?_|refine Yek ?_|refine Yab ?_)
  refine Zaj (α := Nat) (fun i => [(0,.pointer (some ⟨tp,0,none⟩)),(3,.map (some mr)),(5,.int .i64 (0 : Nat)),(6,.slice none 0 0),(22,.slice (some ⟨lb,0,none⟩) 1 1),(23,.int .i64 (1 : Nat)),(24,.int .i64 (i : Nat))]) (fun i w => i ≤ 1 ∧ St W noF [own 3 1 (some ⟨lb,0,none⟩) 1 [.int .i64 0],mapq (Value.int .i64) mr [((0 : Int),Value.bool true)]] w) (fun i => 1 - i) 0 ⟨rfl,rfl,rfl,rfl,rfl,rfl,rfl,trivial⟩ ⟨Nat.zero_le _,hS⟩ ?_
  clear hS
  rintro i w ⟨hi,hS⟩
  by_cases hi0 : i = 0
  ·subst hi0
   have hr := (hS.rd (List.mem_cons_self ..)).own_row
   have hx : ([Value.int .i64 0] : List Value)[0]? = some (.int .i64 0) := rfl
   repeat (first|refine Yeg ?_|refine Yff ?_|refine Yek ?_|refine Yab ?_)
   clear hr
   refine Zaa _ rfl rfl rfl rfl rfl (htab.get _ 0 fun r h => h.rd hS) ?_
   rintro v w hV
   rw [h0] at hV
   obtain ⟨a,q,rfl,hq,hS'⟩ := hV
   replace hS := hS.plus hS'
   clear hS'
   repeat (first|refine Yex ?_|(refine X_id ?_;first|refine Yaf ?_|refine Yag ?_|refine Yan ?_|refine Ya3 ?_|refine Ya9 ?_|refine Ybb ?_|refine X_yl (Znl rfl rfl rfl) rfl rfl ?_|refine X_yl (Zzg rfl rfl rfl) rfl rfl ?_|refine Yap ?_|refine Yao (fun _ hS _ => ?_)|refine Yar (fun _ _ hS _ => ?_))|refine Yes ?_|refine Yab ?_)
   refine Zaa _ rfl rfl rfl rfl rfl (Z2e a rootNd.data q _ ((hS.rd (r := own 5 1 a q (bv rootNd.data)) (by simp)).own_row.ro) hq (by rw [hrl]; decide) (hG.at_ hS)) ?_
   rintro _ w ⟨nb,nc,rfl,hS'⟩
   replace hS := hS.plus hS'
   clear hS'
   rw [hrd] at hS ⊢
   simp only [List.length_nil]
   repeat (first|refine Yeg ?_|refine Yag ?_|refine Yae ?_|refine Yab ?_)
   refine Zan (.s 0 (.s 2 (.s 3 (.h 1 (.h 4 (.s 5 (.s 6 (.s 7 (.h 8 (.s 9 (.s 10 (.s 11 (.s 12 (.s 13 (.s 14 (.s 15 (.s 16 (.s 17 (.s 18 (.s 19 .nil))))))))))) .no)))) .no) .no)))) mixed (by kernel_rfl) rfl ?_
   have hS := hS.drew
   repeat (first|(refine Zae ?_;first|refine Ya0 ?_|refine Ybg ?_|refine Ybm ?_|refine Yas ?_))
   refine Zaa _ rfl rfl rfl rfl rfl (Zku nb [] nc _ (Zit _ _ _) ⟨by decide,fun _ h => (by cases h)⟩ (hG.at_ hS)) ?_
   rintro _ w ⟨b3,q3,rfl,hq3,hS'⟩
   replace hS := hS.plus hS'
   clear hS'
   repeat (first|(refine Zae ?_;first|refine Yas ?_)|(refine Zac ?_;first|refine Yax ?_))
   refine Zaa _ rfl rfl rfl rfl rfl (Z5j b3 a (wrD []).length rootNd.data.length q3 q (wrD []) rootNd.data _ ((hS.rd (r := own 5 1 b3 q3 (bv (wrD []))) (by simp)).own_row) ((hS.rd (r := own 5 1 a q (bv rootNd.data)) (by simp)).own_row) rfl rfl) ?_
   rintro _ _ ⟨rfl,rfl⟩
   rw [decide_eq_true (show wrD [] = rootNd.data from rfl)]
   repeat (first|(refine Zae ?_;first|refine Ya0 ?_|refine Zak rfl rfl (fun _ => Zir rfl rfl) rfl rfl ?_|refine Yca ?_|refine Ycv ?_)|(refine Zac ?_;first|refine Yax ?_))
   refine Zaa _ rfl rfl rfl rfl rfl (Zve _ nb nc) ?_
   rintro _ w ⟨rfl,hS'⟩
   replace hS := hS.plus hS'
   clear hS'
   repeat (first|refine Yeg ?_|refine Yaf ?_|refine Yau ?_|refine Ye9 ?_|refine Yab ?_|(refine Zae ?_;first|refine Yaw ?_|refine Ya0 ?_|refine Ycc ?_|refine Yca ?_|refine Zcg rfl rfl rfl rfl (fun _ => Ziq rfl rfl rfl) rfl rfl ?_|refine Zcg rfl rfl rfl rfl (fun _ => Zir rfl rfl) rfl rfl ?_|refine Ydo ?_|refine Zcg rfl rfl rfl rfl (fun _ => Zoz rfl rfl rfl (by omega)) rfl rfl ?_|refine Ycr ?_)|(refine Zac ?_;first|refine Yax ?_))
   have hS : St W noF [own 3 1 (some ⟨lb,0,none⟩) 1 [.int .i64 0],mapq (Value.int .i64) mr [((0 : Int),Value.bool true)]] _ := hS.took
   refine Zaj (α := Unit) (fun _ => [(0,.pointer (some ⟨tp,0,none⟩)),(3,.map (some mr)),(5,.int .i64 (0 : Nat)),(6,.slice none 0 0),(22,.slice (some ⟨lb,0,none⟩) 1 1),(23,.int .i64 (1 : Nat)),(24,.int .i64 (0 : Nat)),(70,.int .i64 0),(71,.int .i64 0)]) (fun _ w => St W noF [own 3 1 (some ⟨lb,0,none⟩) 1 [.int .i64 0],mapq (Value.int .i64) mr [((0 : Int),Value.bool true)]] w) (fun _ => 0) () ⟨rfl,rfl,rfl,rfl,rfl,rfl,rfl,rfl,rfl,trivial⟩ hS ?_
   clear hS
   rintro _ w hS
   repeat (first|refine Yeg ?_|refine Yaf ?_|refine Yaz ?_|refine Yay ?_|refine Yet ?_|refine Yfa ?_)
   exact Zaf (z := 0) 1 ⟨rfl,rfl,rfl,rfl,rfl,rfl,rfl,trivial⟩ ⟨Nat.le_refl _,hS⟩ (by omega)
  ·obtain rfl : i = 1 := by omega
   repeat (first|refine Yeg ?_|refine Yaf ?_|refine Yag ?_|refine Yaz ?_|refine Yay ?_|refine Yet ?_|refine Yfa ?_)
   exact Zaf (z := (0,some ⟨lb,0,none⟩,1,1)) (1,none,0,0) ⟨rfl,rfl,rfl,rfl,trivial⟩ (.inr ⟨rfl,hS.drop⟩) (by simp)
 ·simp only
  repeat (first|refine Yeg ?_|refine Yaf ?_|refine Yau ?_|refine Ybs ?_|refine Yet ?_|refine Yem ?_)
  refine X_yl (Zzf (mk := Value.int .i64) (L := [((0 : Int),Value.bool true)]) rfl rfl ((hS.rd (List.mem_cons_self ..)).mapq_r)) rfl rfl ?_
  repeat (first|refine Yaa ?_|refine Yaf ?_)
  obtain ⟨r,A,dat,hI⟩ := (hIt.rd hS).itab
  refine Zaa _ rfl rfl rfl rfl rfl (Z9y _ hI) ?_
  rintro _ w ⟨ua,uc,rfl,_,hS'⟩
  replace hS := hS.plus hS'
  clear hS'
  rw [hu]
  repeat (first|refine Yeg ?_|refine Yag ?_|refine Yau ?_|refine Yc0 ?_|refine Yah ?_|refine Yei ?_)
  exact ⟨rfl,hS.drops⟩
def Zn9 : Chg := ⟨0,rootNd,false⟩
def Zeu (n : Nat) : Tb := some rootNd :: List.replicate (n - 1) none
theorem Zwk : Zjw (List.replicate 10 none) 40 30 [Zn9] = (0,Zeu 10) := by kernel_rfl
theorem Zw1 {rd fs : List Int} {tp lp p m : Nat} (W : World) (F : Nat → Prop) (hG : Gl W F rd fs) (hL : Lg W F) (hm : (m : Int) < last) (hS : St W F [itab rd fs tp lp p 60 m 10 40 (List.replicate 10 none)] W) :
  Calls Tryz.prog 40 #[.pointer (some ⟨tp,0,none⟩)] W (Ret fun v w => ∃ f,v = .tuple #[.pointer (some ⟨f,0,none⟩),.int .i64 0] ∧ St W F [pts f (.cells (List.toArray [.pointer (some ⟨tp,0,none⟩),.int .i64 0]) 107 (0,0)),itab rd fs tp lp p 60 (m + 1) 10 40 (Zeu 10)] w) := by
 have h0 : atT (List.replicate 10 none) 0 = none := by kernel_rfl
 refine Zab Tryz.func40 rfl Tryz.ntmps40 rfl ?_
 repeat (first|refine Yeg ?_|refine Yev ?_|refine Yeh ?_|refine Yab ?_)
 obtain ⟨F2,hS2,hro,hw,hbk⟩ := hS.call []
 have hIt := hro (itab rd fs tp lp p 60 m 10 40 (List.replicate 10 none)) (by simp)
 have htab := Ziy hIt
 refine Zaa _ rfl rfl rfl rfl rfl (htab.get _ 0 fun r h => h.rd hS2) ?_
 rintro v w hV
 rw [h0] at hV
 obtain ⟨rfl,hS'⟩ := hV
 replace hS := hS.plus hS'
 clear hS' hS2 hro hw hbk hIt htab
 repeat (first|refine Yeg ?_|(refine X_id ?_;first|refine Yaf ?_|refine Yag ?_|refine Ya3 ?_|refine Ybh ?_|refine Ybn ?_|refine Yao (fun _ hS _ => ?_)|refine Yar (fun _ _ hS _ => ?_))|refine Yfl ?_|refine Yab ?_)
 refine Zaa _ rfl rfl rfl rfl rfl (Zku none [] 0 _ (Zit _ _ _) ⟨by decide,fun _ h => (by cases h)⟩ (hL.at_ hS)) ?_
 rintro _ w ⟨a,q,rfl,hq,hS'⟩
 replace hS := hS.plus hS'
 clear hS'
 repeat (first|refine Yaa ?_|refine Ybn ?_|refine Ybd (fun _ _ hS _ => ?_))
 rename_i b2 _ _
 obtain ⟨_,hc,hr,hw,hbk⟩ := hS.call [false,false,false,true]
 have hro := hr (own 5 1 a q (bv (wrD []))) (by simp)
 have hrw := hr (own 189 7 (some ⟨b2,0,none⟩) 1 [.int .i64 0,.int .i64 1,.int .i64 493,.int .i64 0,.int .i64 0,.slice a (wrD []).length q,.bool false]) (by simp)
 have hC : Chgs _ _ (some ⟨b2,0,none⟩) [⟨Zn9,a,q⟩] := ⟨hrw.own_row,fun x hx => by obtain rfl := List.mem_singleton.1 hx; exact hro.own_row⟩
 refine Zaa _ rfl rfl rfl rfl rfl (Z9h (some ⟨b2,0,none⟩) 1 [⟨Zn9,a,q⟩] _ _ (hG.mono hw) hC (by simp) (by simp) hm hc) ?_
 rintro _ w ⟨rfl,hS⟩
 replace hS := hbk hS
 clear hc hr hw hbk hC hro hrw
 have hap : Zjw (List.replicate 10 none) 40 (60 / 2) (([⟨Zn9,a,q⟩] : List ChgA).map ChgA.c) = (0,Zeu 10) := Zwk
 rw [hap] at hS ⊢
 simp only at hS ⊢
 repeat (first|refine Yex ?_|refine Yaf ?_|refine Yag ?_|refine Ybh ?_|refine Yeh ?_|refine Yeo ?_)
 refine Zaa _ rfl rfl rfl rfl rfl (Zu9 _ (hS.rd (r := itab rd fs tp lp p 60 (m + 1) 10 40 (Zeu 10)) (by simp)).ro (hL.at_ hS) rfl rfl) ?_
 rintro _ w ⟨rfl,hS'⟩
 replace hS := hS.plus hS'
 clear hS'
 repeat (first|refine Yex ?_|(refine X_id ?_;first|refine Yaf ?_|refine Yag ?_|refine Ybe ?_|refine Ybc ?_|refine Ybb ?_|refine Ybn ?_|refine Ya7 (fun _ _ hS _ => ?_))|refine Ye6 ?_|refine Ye5 ?_)
 exact ⟨_,rfl,hS.took⟩
theorem St.newLog {W : World} {F : Nat → Prop} {rs : List Res} {w : World} {lp p j k : Nat} (hj : j ≤ 1024) (hS : St W F (Zco lp p 1 0 0 j 0 false :: disk p (Zbh (1 + j + k)) :: rs) w) : St W F (qlog lp p j 0 (List.replicate k zero64) :: rs) w :=
 hS.shutQlog ⟨⟨rfl,rfl,by simp [Zbh]⟩,rfl,Int.le_refl _,Int.le_refl _,hj,fun i hi => by
  rw [List.length_replicate] at hi
  simp only [Zbh,List.getD_eq_getElem?_getD,List.getElem?_replicate]
  rw [if_pos (by omega),if_pos hi]⟩
theorem Zpa {k i : Nat} (h : i < k) : (List.replicate k zero64).getD i [] = zero64 := by
 rw [List.getD_eq_getElem?_getD,List.getElem?_replicate,if_pos h]; rfl
theorem Z0b (b off : Nat) (x : Int) (l : List Value) (T : TypeId) (W : World) [hn : Nth l off (.int .i64 x)] (hc : W.heap[b]? = some (.cells l.toArray T)) :
  Calls Tryz.prog 42 #[.pointer (some ⟨b,off,none⟩)] W (Ret fun v w => v = .int .i64 x ∧ W = w) := by
 have hS := St.start W
 refine Zab Tryz.func42 rfl Tryz.ntmps42 rfl ?_
 repeat (first|refine Yeg ?_|(refine X_id ?_;first|refine Yaf ?_|refine Yag ?_|refine Yav ?_|refine Yb0 ?_|refine Zzq rfl rfl rfl (Zbb (by assumption)) rfl rfl ?_)|refine Yeu ?_|refine Yei ?_)
 exact ⟨rfl,rfl⟩
def t0 : Tn := .mk [] 0 ⟨1,493,0,0⟩ [] []
theorem Z96 : TreeOk 10 t0 := by
 have hs : subT t0 = [t0] := by kernel_rfl
 refine ⟨fun u hu => ?_,?_,⟨rfl,rfl⟩,of_decide_eq_true (by kernel_rfl),of_decide_eq_true (by kernel_rfl)⟩
 case refine_2 =>
  rw [show (Zcm t0).map (·.1) = [0] by kernel_rfl]
  simp
 rw [hs] at hu
 obtain rfl := List.mem_singleton.1 hu
 exact ⟨by kernel_rfl,by decide,fun _ => ⟨rfl,of_decide_eq_true (by kernel_rfl)⟩,List.Pairwise.nil,fun k hk => (by cases hk),fun h => absurd rfl h⟩
theorem Qbs (no : Int) : Nt t0 no = atT (Zeu 10) no := by
 have he : Zcm t0 = [(0,rootNd)] := by kernel_rfl
 unfold Nt
 rw [he]
 by_cases h0 : no = 0
 ·subst h0
  rfl
 ·unfold atT
  have h1 : getA no [((0 : Int),rootNd)] = none := by
   show (if _ then _ else _) = _
   rw [if_neg fun e => h0 e]
   rfl
  rw [h1]
  split
  ·next h =>
   obtain ⟨k,hk⟩ : ∃ k,no.toNat = k + 1 := ⟨no.toNat - 1,by omega⟩
   rw [hk,Zeu,List.getD_cons_succ,List.getD_eq_getElem?_getD,List.getElem?_replicate]
   split <;> rfl
  ·rfl
theorem Z3p {f tp : Nat} {b : Int} {T : Int → Option Nd} (W : World) (hb : Rd W (pts f (.cells (List.toArray [.pointer (some ⟨tp,0,none⟩),.int .i64 b]) 107 (0,0)))) :
  Calls Tryz.prog 7 #[.pointer (some ⟨f,0,none⟩)] W (Ret fun v w => ∃ c,v = .pointer (some ⟨c,0,none⟩) ∧ St W noF [chR c f b T T []] w) := by
 have hS := St.start W
 have hc := hb.ro
 refine Zab Tryz.func7 rfl Tryz.ntmps7 rfl ?_
 repeat (first|refine Yeg ?_|(refine X_id ?_;first|refine Yaf ?_|refine Yag ?_|refine Yav ?_|refine Yan ?_|refine Ybu ?_)|refine Yes ?_|refine Yab ?_)
 refine Zaa _ rfl rfl rfl rfl rfl (Z0b f 1 b _ _ _ (Rd.pts hb)) ?_
 rintro _ _ ⟨rfl,rfl⟩
 repeat (first|refine Yaa ?_)
 refine Zfo (Value.int .i64) rfl rfl rfl hS (fun pm w hS => ?_)
 repeat (first|refine Yaa ?_)
 refine Zfo (Value.int .i64) rfl rfl rfl hS (fun dm w hS => ?_)
 repeat (first|refine Yeg ?_|refine Yag ?_|refine Ybn ?_|refine Ya7 (fun _ _ hS _ => ?_)|refine Yah ?_|refine Yei ?_)
 rename_i c _ _
 have hS2 := hS.bagNil.pick [0,0,1,0]
 exact ⟨c,rfl,St.shutCh (P := []) (D := []) ⟨List.nodup_nil,List.nodup_nil,fun _ => rfl,fun x hx => (by cases hx)⟩ hS2⟩
theorem Z99 (W : World) : Calls Tryz.prog 41 #[.int .i64 10] W (Ret fun v w => ∃ r,v = .pointer (some ⟨r,0,none⟩) ∧ St W noF [] w) := by
 have hS := St.start W
 refine Zab Tryz.func41 rfl Tryz.ntmps41 rfl ?_
 repeat (first|refine Yeg ?_|refine Yaf ?_|refine Yag ?_|refine Ybn ?_|refine Ya7 (fun _ _ hS _ => ?_)|refine Yeu ?_|refine Yei ?_)
 exact ⟨_,rfl,hS.drops⟩
theorem Z4d (rd fs : List Int) : Zvn rd fs (Zbh 112) 60 = ⟨0,Zbh 112,0,false⟩ := by kernel_rfl
theorem Z41 (rd fs : List Int) (W : World) (hG : Gl W noF rd fs) (hL : Lg W noF) : Calls Tryz.prog 6 #[] W (Ret fun v w => ∃ (q lp tp f r : Nat),v = .tuple #[.pointer (some ⟨q,0,none⟩),.pointer (some ⟨f,0,none⟩),.pointer (some ⟨r,0,none⟩)] ∧ St W noF [pts f (.cells (List.toArray [.pointer (some ⟨tp,0,none⟩),.int .i64 0]) 107 (0,0)),itab rd fs tp lp q 60 2 10 40 (Zeu 10)] w) := by
 have hS := St.start W
 refine Zab Tryz.func6 rfl Tryz.ntmps6 rfl ?_
 repeat (first|refine Yeg ?_|refine Yag ?_|refine Yeh ?_|refine Yab ?_)
 refine Zaa _ rfl rfl rfl rfl rfl (new_ 112 _ (by omega) (by omega)) ?_
 rintro _ w ⟨q,rfl,hS'⟩
 replace hS := hS.plus hS'
 clear hS'
 repeat (first|refine Yeg ?_|refine Yfk ?_|refine Yeh ?_|refine Yab ?_)
 have hopen := Qa2 q (Zbh 112) 60 rd fs
 rw [Z4d] at hopen
 obtain ⟨_,hc,hr,hw,hbk⟩ := hS.call [true]
 refine Zaa _ rfl rfl rfl rfl rfl (hopen _ _ (hG.mono hw) (by simp [Zbh]) hc) ?_
 rintro _ w (⟨h,_⟩ | ⟨_,lp,rfl,hS⟩)
 ·exact absurd rfl h
 replace hS := hbk hS
 clear hc hr hw hbk hopen
 replace hS : St W noF [qlog lp q 60 0 (List.replicate 51 zero64)] w := St.newLog (k := 51) (by omega) hS
 repeat (first|refine Yeg ?_|refine Yfk ?_|refine Yeh ?_|refine Yab ?_)
 obtain ⟨_,hc,hr,hw,hbk⟩ := hS.call [true]
 refine Zaa _ rfl rfl rfl rfl rfl (Z43 lp q 60 0 10 40 _ rd fs _ _ (hG.mono hw) (by simp) (by omega) (by omega) (by omega) (by omega) (by simp [last]) (Zpa (by omega)) (fun i hi => Zpa (by omega)) hc) ?_
 rintro _ w ⟨tp,rfl,hS⟩
 replace hS := hbk hS
 clear hc hr hw hbk
 repeat (first|refine Yeg ?_|refine Yfk ?_|refine Yeh ?_|refine Yab ?_)
 obtain ⟨_,hc,hr,hw,hbk⟩ := hS.call [true]
 refine Zaa _ rfl rfl rfl rfl rfl (Zw1 _ _ (hG.mono hw) (hL.mono hw) (by simp [last]) hc) ?_
 rintro _ w ⟨f,rfl,hS⟩
 replace hS := hbk hS
 clear hc hr hw hbk
 repeat (first|refine Yex ?_|(refine X_id ?_;first|refine Yaf ?_|refine Yag ?_|refine Ya3 ?_|refine Ya9 ?_|refine Ybb ?_)|refine Yes ?_|refine Yab ?_)
 refine Zaa _ rfl rfl rfl rfl rfl (Z99 _) ?_
 rintro _ w ⟨r,rfl,hS'⟩
 replace hS := hS.plus hS'
 clear hS'
 repeat (first|refine Yeg ?_|refine Yag ?_|refine Yah ?_|refine Yab ?_|refine Yds ?_)
 exact ⟨q,lp,tp,f,r,rfl,hS.took⟩
def logN : List UInt8 := [108,111,103]
abbrev tbC (c : Nat) (name : List UInt8) : Obj := .cells (List.toArray [.pointer (some ⟨c,0,none⟩),.string (str name)]) 114 (0,0)
theorem Z4r : nameOk logN := by decide
theorem tof_ (c : Nat) (name : List UInt8) (hn : nameOk name) (W : World) : Calls Tryz.prog 8 #[.pointer (some ⟨c,0,none⟩),.string (str name)] W (Ret fun v w => ∃ tb,v = .tuple #[.pointer (some ⟨tb,0,none⟩),.int .i64 0] ∧ St W noF [pts tb (tbC c name)] w) := by
 have hS := St.start W
 have hN := fun W => Z08 name W
 simp only [decide_eq_true hn] at hN
 refine Zab Tryz.func8 rfl Tryz.ntmps8 rfl ?_
 repeat (first|refine Yeg ?_|refine Yaf ?_|refine Yag ?_|refine Ybu ?_|refine Ye3 ?_|refine Yab ?_)
 refine Zaa _ rfl rfl rfl rfl rfl (hN _) ?_
 rintro _ w ⟨rfl,hS'⟩
 replace hS := hS.plus hS'
 clear hS'
 repeat (first|refine Yeg ?_|(refine X_id ?_;first|refine Yaf ?_|refine Yag ?_|refine Ybc ?_|refine Ybn ?_|refine Ya7 (fun _ _ hS _ => ?_))|refine Ye6 ?_|refine Yab ?_|refine Yat ?_|refine Ybp ?_)
 exact ⟨_,rfl,hS⟩
theorem Z1v (rd fs : List Int) (W : World) (hG : Gl W noF rd fs) (hL : Lg W noF) : Calls Tryz.prog 27 #[] W (Ret fun v w => ∃ (lp tp p f c tb : Nat),v = .tuple #[.pointer (some ⟨c,0,none⟩),.pointer (some ⟨tb,0,none⟩)] ∧
  St W noF [chR c f 0 (atT (Zeu 10)) (Nt t0) [],pts tb (tbC c logN),pts f (.cells (List.toArray [.pointer (some ⟨tp,0,none⟩),.int .i64 0]) 107 (0,0)),itab rd fs tp lp p 60 2 10 40 (Zeu 10)] w) := by
 have hS := St.start W
 refine Zab Tryz.func27 rfl Tryz.ntmps27 rfl ?_
 repeat (first|refine Yeg ?_|refine Yag ?_|refine Yeh ?_|refine Yab ?_)
 refine Zaa _ rfl rfl rfl rfl rfl (Z41 rd fs _ (hG.mono fun _ hr => (hr.rd hS).ro) (hL.at_ hS)) ?_
 rintro _ w ⟨q,lp,tp,f,r,rfl,hS'⟩
 replace hS := hS.plus hS'
 clear hS'
 repeat (first|refine Yeg ?_|refine Yfk ?_|refine Yeh ?_|refine Yab ?_)
 refine Zaa _ rfl rfl rfl rfl rfl (Z3p (T := atT (Zeu 10)) _ (hS.rd (r := pts f (.cells (List.toArray [.pointer (some ⟨tp,0,none⟩),.int .i64 0]) 107 (0,0))) (by simp))) ?_
 rintro _ w ⟨c,rfl,hS'⟩
 replace hS := hS.plus hS'
 clear hS'
 repeat (first|refine Yeg ?_|refine Yev ?_|refine Yeh ?_|refine Yab ?_)
 refine Zaa _ rfl rfl rfl rfl rfl (tof_ c logN Z4r _) ?_
 rintro _ w ⟨tb,rfl,hS'⟩
 replace hS := hS.plus hS'
 clear hS'
 repeat (first|refine Yeg ?_|refine Yfk ?_|refine Yeu ?_|refine Ye5 ?_)
 have hN : Nt t0 = atT (Zeu 10) := funext Qbs
 rw [hN]
 exact ⟨lp,tp,q,f,c,tb,rfl,hS.took⟩
theorem Z3k {rd fs : List Int} {tp lp p j m n nb f : Nat} {b : Int} {T : Tb} {W : World} {F : Nat → Prop} (h : Ro W F (pts f (.cells (List.toArray [.pointer (some ⟨tp,0,none⟩),.int .i64 b]) 107 (0,0)))) (hI : Ro W F (itab rd fs tp lp p j m n nb T)) : TreeRo W F f tp n b (atT T) := ⟨h,Ziy hI⟩
section
variable {c f tp n : Nat} {b : Int} {T : Int → Option Nd} {t : Tn}
theorem Z77 (ht : TreeOk n t) {X : List RowD} (s : List UInt8) (cb pb kb : Nat) (z1 z2 z3 : Nat × Nat) (pa : Option Addr) (p : List (List UInt8)) (pc : Nat) (k : Int) (W : World) (F : Nat → Prop) (hT : TreeRo W F f tp n b T) (hG : Lg W F) (hp : Ro W F (row pa (strV p))) (hpl : p.length ≤ 1000)
  (h1 : Ro W F (pts cb (.cells (List.toArray [.pointer (some ⟨c,0,none⟩)]) 28 z1))) (h2 : Ro W F (pts pb (.cells (List.toArray [.slice pa p.length pc]) 40 z2))) (h3 : Ro W F (pts kb (.cells (List.toArray [.int .i64 k]) 3 z3))) (hS : St W F [chR c f b T (Nt t) X] W) :
  Calls Tryz.prog 181 #[.string (str s),.pointer (some ⟨cb,0,none⟩),.pointer (some ⟨pb,0,none⟩),.pointer (some ⟨kb,0,none⟩)] W (Ret fun v w => v = .bool (decide (Zch t (p ++ [s]) ≠ k)) ∧ ∃ X',(∀ x ∈ X,x ∈ X') ∧ St W F [chR c f b T (Nt t) X'] w) := by
 have hc := h1
 refine Zab Tryz.func181 rfl Tryz.ntmps181 rfl ?_
 repeat (first|refine Yeg ?_|refine Yag ?_|refine Yeh ?_|refine Yab ?_)
 refine Zan (.s 0 (.s 1 (.s 3 (.s 7 (.h 2 (.h 4 (.h 5 (.h 6 (.s 8 (.s 9 .nil)) .no) .no) .no) (.h 4 (.h 2 (.h 5 (.h 6 (.s 8 (.s 9 .nil)) .no) .no) .no) .no)))))) mixed (by kernel_rfl) rfl ?_
 have hS := hS.drew
 have hq2 := (h2.rd hS).pts
 have hq3 := (h3.rd hS).pts
 repeat' (first|refine Zer ?_ ?_|refine Ybd (fun _ _ hS _ => ?_)|(refine Zae ?_;first|refine Ya0 ?_|refine Yc7 ?_|refine Yas ?_|refine Yc8 ?_)|(refine Zac ?_;first|refine Yc9 ?_))
 ·refine Zaa _ rfl rfl rfl rfl rfl (Zrt pa p pc _ (hp.rd hS) (by omega)) ?_
  rintro _ w ⟨a1,c1,rfl,hc1,hS'⟩
  replace hS := hS.plus hS'
  clear hS'
  repeat (first|refine Ybd (fun _ _ hS _ => ?_)|(refine Zae ?_;first|refine Yas ?_)|(refine Zac ?_;first|refine Yc9 ?_))
  have hnw := (hS.rd (List.mem_cons_self ..)).own_row
  refine Zap rfl rfl rfl rfl rfl hS (by rw [Zet,Nat.mul_one]) hc1 hnw rfl (by simp [Value.oneCell']) (by omega) (by simp only [maxLen]; omega) (fun a2 c2 w hS hc2 _ => ?_)
  repeat (first|(refine Zae ?_;first|refine Yas ?_)|(refine Zac ?_;first|refine Yc9 ?_))
  obtain ⟨_,hcc,hr1,hw,hbk⟩ := hS.call [false,false,true]
  have hps : strV p ++ [Value.string (str s)] = strV (p ++ [s]) := by simp [strV]
  have hrow := hr1 _ (List.mem_cons_self ..)
  rw [hps] at hrow
  have hln : p.length + 1 = (p ++ [s]).length := by simp
  rw [hln]
  refine Zaa _ rfl rfl rfl rfl rfl (Zpn ht _ (p ++ [s]) _ _ _ (hT.mono hw) (hG.mono hw) hrow.own_row (by simp; omega) hcc) ?_
  rintro _ w ⟨rfl,X',hX',hS⟩
  replace hS := hbk hS
  clear hbk hw hcc hr1
  repeat (first|refine Yah ?_|refine Yei ?_|(refine Zae ?_;first|refine Yaw ?_|refine Ybj ?_|refine Zak rfl rfl (fun _ => Znl rfl rfl rfl) rfl rfl ?_)|(refine Zac ?_;first|refine Yc9 ?_))
  exact ⟨rfl,X',hX',hS.took⟩
 ·refine Zaa _ rfl rfl rfl rfl rfl (Zrt pa p pc _ (hp.rd hS) (by omega)) ?_
  rintro _ w ⟨a1,c1,rfl,hc1,hS'⟩
  replace hS := hS.plus hS'
  clear hS'
  repeat (first|(refine Zae ?_;first|refine Yas ?_)|(refine Zac ?_;first|refine Yc9 ?_))
  have hnw := (hS.rd (List.mem_cons_of_mem _ (List.mem_cons_self ..))).own_row
  refine Zap rfl rfl rfl rfl rfl hS (by rw [Zet,Nat.mul_one]) hc1 hnw rfl (by simp [Value.oneCell']) (by omega) (by simp only [maxLen]; omega) (fun a2 c2 w hS hc2 _ => ?_)
  repeat (first|(refine Zae ?_;first|refine Yas ?_)|(refine Zac ?_;first|refine Yc9 ?_))
  obtain ⟨_,hcc,hr1,hw,hbk⟩ := hS.call [false,false,true]
  have hps : strV p ++ [Value.string (str s)] = strV (p ++ [s]) := by simp [strV]
  have hrow := hr1 _ (List.mem_cons_self ..)
  rw [hps] at hrow
  have hln : p.length + 1 = (p ++ [s]).length := by simp
  rw [hln]
  refine Zaa _ rfl rfl rfl rfl rfl (Zpn ht _ (p ++ [s]) _ _ _ (hT.mono hw) (hG.mono hw) hrow.own_row (by simp; omega) hcc) ?_
  rintro _ w ⟨rfl,X',hX',hS⟩
  replace hS := hbk hS
  clear hbk hw hcc hr1
  repeat (first|refine Yah ?_|refine Yei ?_|(refine Zae ?_;first|refine Yaw ?_|refine Ybj ?_|refine Zak rfl rfl (fun _ => Znl rfl rfl rfl) rfl rfl ?_)|(refine Zac ?_;first|refine Yc9 ?_))
  exact ⟨rfl,X',hX',hS.took⟩
end
section
variable {c f tp n : Nat} {b : Int} {T : Int → Option Nd} {t : Tn}
abbrev nmsF (cb pb kb : Nat) : Value := .func (.func 181) #[] #[.pointer (some ⟨cb,0,none⟩),.pointer (some ⟨pb,0,none⟩),.pointer (some ⟨kb,0,none⟩)]
theorem Qba (ht : TreeOk n t) {X : List RowD} (a : Option Addr) (l : List (List UInt8)) (lc : Nat) (cb pb kb : Nat) (z1 z2 z3 : Nat × Nat) (pa : Option Addr) (p : List (List UInt8)) (pc : Nat) (k : Int) (W : World) (F : Nat → Prop) (hT : TreeRo W F f tp n b T) (hG : Lg W F) (hp : Ro W F (row pa (strV p))) (hpl : p.length ≤ 1000) (hl : Ro W F (row a (strV l))) (hll : l.length ≤ 1048576)
  (g1 : Ro W F (pts cb (.cells (List.toArray [.pointer (some ⟨c,0,none⟩)]) 28 z1))) (g2 : Ro W F (pts pb (.cells (List.toArray [.slice pa p.length pc]) 40 z2))) (g3 : Ro W F (pts kb (.cells (List.toArray [.int .i64 k]) 3 z3))) (hS : St W F [chR c f b T (Nt t) X] W) :
  Calls Tryz.prog 103 #[.slice a l.length lc,nmsF cb pb kb] W (Ret fun v w => (∃ X',(∀ x ∈ X,x ∈ X') ∧ St W F [chR c f b T (Nt t) X'] w) ∧ ((v = .int .i64 (-1) ∧ ∀ x ∈ l,Zch t (p ++ [x]) = k) ∨ ∃ i x,v = .int .i64 (i : Nat) ∧ l[i]? = some x ∧ Zch t (p ++ [x]) ≠ k ∧ ∀ j,j < i → ∀ y,l[j]? = some y → Zch t (p ++ [y]) = k)) := by
 refine Zab Tryz.func103 rfl Tryz.ntmps103 rfl ?_
 repeat (first|refine Yeg ?_|refine Yfh ?_|refine Yej ?_|refine Yab ?_)
 refine Zaj (α := Nat × List RowD) (fun z => [(0,.slice a l.length lc),(1,nmsF cb pb kb),(7,.int .i64 (l.length : Nat)),(8,.int .i64 (z.1 : Nat))])
  (fun z w => z.1 ≤ l.length ∧ (∀ j,j < z.1 → ∀ y,l[j]? = some y → Zch t (p ++ [y]) = k) ∧ (∀ x ∈ X,x ∈ z.2) ∧ St W F [chR c f b T (Nt t) z.2] w) (fun z => l.length - z.1) (0,X) ⟨rfl,rfl,rfl,rfl,trivial⟩ ⟨Nat.zero_le _,fun j hj => absurd hj (by simp),fun _ h => h,hS⟩ ?_
 clear hS
 rintro ⟨i,X1⟩ w ⟨hi,hne,hX1,hS2⟩
 simp only at hi hne hX1 hS2
 by_cases hlt : i < l.length
 ·have hx0 : l[i]? = some l[i] := List.getElem?_eq_getElem hlt
  generalize l[i] = s at hx0
  have hr := hl
  have hx : (strV l)[i]? = some (.string (str s)) := by unfold strV; rw [List.getElem?_map,hx0]; rfl
  obtain ⟨xb,xo,rfl⟩ := (hr.rd hS2).base (by intro e; rw [e] at hx; simp at hx)
  have hS := hS2
  repeat (first|refine Yeg ?_|refine Yff ?_|refine Yek ?_|refine Yab ?_)
  obtain ⟨_,hcc,hr1,hw,hbk⟩ := hS.call [true]
  refine Zb2 (first := []) (captured := [.pointer (some ⟨cb,0,none⟩),.pointer (some ⟨pb,0,none⟩),.pointer (some ⟨kb,0,none⟩)]) rfl rfl rfl rfl rfl (Z77 ht s cb pb kb z1 z2 z3 pa p pc k _ _ (hT.mono hw) (hG.mono hw) (hw _ hp) hpl (hw _ g1) (hw _ g2) (hw _ g3) hcc) ?_
  rintro _ w ⟨rfl,X2,hX2,hS⟩
  replace hS := hbk hS
  clear hbk hw hcc hr1
  by_cases hk : Zch t (p ++ [s]) = k
  ·rw [decide_eq_false (fun h => h hk)]
   repeat (first|refine Yeg ?_|refine Yel ?_|refine Ye8 ?_|refine Yeo ?_)
   refine Zaf (z := (i,X1)) (i + 1,X2) ⟨rfl,rfl,rfl,rfl,trivial⟩ ⟨hlt,fun j hj y hy => ?_,fun x hx => hX2 x (hX1 x hx),hS⟩ (by dsimp only; omega)
   by_cases hji : j = i
   ·subst hji; rw [hx0] at hy; cases hy; exact hk
   ·exact hne j (by omega) y hy
  ·rw [decide_eq_true hk]
   repeat (first|refine Yeg ?_|refine Yev ?_|refine Yey ?_|refine Ye2 ?_)
   exact ⟨⟨X2,fun x hx => hX2 x (hX1 x hx),hS⟩,.inr ⟨i,s,rfl,hx0,hk,hne⟩⟩
 ·obtain rfl : i = l.length := by omega
  have hS := hS2
  repeat (first|refine Yeg ?_|refine Yag ?_|refine Yaz ?_|refine Yep ?_|refine Yfc ?_)
  exact ⟨⟨X1,hX1,hS⟩,.inl ⟨rfl,fun x hx => (by
   obtain ⟨j,hj,he⟩ := List.mem_iff_getElem.1 hx
   exact hne j hj x (by rw [List.getElem?_eq_getElem hj,he]))⟩⟩
end
def kpN (t : Tn) (p : List (List UInt8)) (k : Int) (l : List (List UInt8)) : List (List UInt8) := l.filter fun s => decide (Zch t (p ++ [s]) = k)
section
variable {c f tp n : Nat} {b : Int} {T : Int → Option Nd} {t : Tn}
theorem Z8z (ht : TreeOk n t) {X : List RowD} (a : Option Addr) (l : List (List UInt8)) (lc : Nat) (cb pb kb : Nat) (z1 z2 z3 : Nat × Nat) (pa : Option Addr) (p : List (List UInt8)) (pc : Nat) (k : Int) (W : World) (F : Nat → Prop) (hT : TreeRo W F f tp n b T) (hG : Lg W F) (hp : Ro W F (row pa (strV p))) (hpl : p.length ≤ 1000) (hlc : l.length ≤ lc) (hll : l.length ≤ 1048576)
  (g1 : Ro W F (pts cb (.cells (List.toArray [.pointer (some ⟨c,0,none⟩)]) 28 z1))) (g2 : Ro W F (pts pb (.cells (List.toArray [.slice pa p.length pc]) 40 z2))) (g3 : Ro W F (pts kb (.cells (List.toArray [.int .i64 k]) 3 z3))) (hS : St W F [own 9 1 a lc (strV l),chR c f b T (Nt t) X] W) :
  Calls Tryz.prog 180 #[.slice a l.length lc,nmsF cb pb kb] W (Ret fun v w => ∃ a' c' X',v = .slice a' (kpN t p k l).length c' ∧ (kpN t p k l).length ≤ c' ∧ (∀ x ∈ X,x ∈ X') ∧ St W F [own 9 1 a' c' (strV (kpN t p k l)),chR c f b T (Nt t) X'] w) := by
 have hnl : (strV l).length = l.length := Zet l
 refine Zab Tryz.func180 rfl Tryz.ntmps180 rfl ?_
 repeat (first|refine Yeg ?_|refine Yev ?_|refine Yeh ?_|refine Yab ?_)
 obtain ⟨_,hcc,hr1,hw,hbk⟩ := hS.call [false,true]
 refine Zaa _ rfl rfl rfl rfl rfl (Qba ht a l lc cb pb kb z1 z2 z3 pa p pc k _ _ (hT.mono hw) (hG.mono hw) (hw _ hp) hpl (hr1 _ (List.mem_cons_self ..)).own_row hll (hw _ g1) (hw _ g2) (hw _ g3) hcc) ?_
 rintro v w ⟨⟨X1,hX1,hS⟩,hv⟩
 replace hS := hbk hS
 clear hbk hw hcc hr1
 rcases hv with ⟨rfl,hall⟩ | ⟨i,x,rfl,hx0,hxk,hne⟩
 ·have hkp : kpN t p k l = l := List.filter_eq_self.2 fun x hx => decide_eq_true (hall x hx)
  rw [hkp]
  repeat (first|refine Yeg ?_|refine Yaf ?_|refine Yag ?_|refine Ybh ?_|refine Yey ?_|refine Yez ?_)
  exact ⟨a,lc,X1,rfl,hlc,hX1,hS.took⟩
 ·have hil := (List.getElem?_eq_some_iff.1 hx0).1
  have hki : kpN t p k (l.take (i + 1)) = l.take i := by
   obtain ⟨_,hxe⟩ := List.getElem?_eq_some_iff.1 hx0
   unfold kpN
   rw [List.take_succ_eq_append_getElem hil,List.filter_append,List.filter_eq_self.2 fun y hy => ?_]
   ·rw [hxe]; simp [hxk]
   ·obtain ⟨j,hj,he⟩ := List.mem_iff_getElem.1 hy
    rw [List.length_take] at hj
    rw [List.getElem_take] at he
    exact decide_eq_true (hne j (by omega) y (by rw [List.getElem?_eq_getElem (by omega),he]))
  replace hS := hS.took (out := [own 9 1 a lc (strV l),chR c f b T (Nt t) X1])
  obtain ⟨bl,cells,rfl,hcl,hct,hcm,hS⟩ := St.openOwn hS (by intro e; rw [e] at hnl; simp at hnl; omega)
  rw [Nat.mul_one] at hcl
  rw [hnl] at hct
  repeat (first|refine Yeg ?_|refine Yaf ?_|refine Yag ?_|refine Ybi ?_|refine Yay ?_|refine Ye9 ?_|refine Yab ?_)
  refine Zbk (α := Nat × List RowD) (fun z => [(0,.slice (some ⟨bl,0,none⟩) l.length lc),(5,.int .i64 (z.1 : Nat))]) (fun z w => z.1 < l.length ∧ z.1 = (kpN t p k l).length ∧ (∀ x ∈ X,x ∈ z.2) ∧ ∃ L : List Value,L.length = lc ∧ L.take z.1 = strV (kpN t p k l) ∧ St W F [pts bl (.cells L.toArray 9 (0,0)),chR c f b T (Nt t) z.2] w) ?_ ?_
  ·refine Zaj (α := Nat × Nat × List RowD) (fun z => [(0,.slice (some ⟨bl,0,none⟩) l.length lc),(1,nmsF cb pb kb),(5,.int .i64 (z.1 : Nat)),(6,.int .i64 (z.2.1 : Nat))])
    (fun z w => z.2.1 ≤ l.length ∧ z.1 < z.2.1 ∧ z.1 = (kpN t p k (l.take z.2.1)).length ∧ (∀ x ∈ X,x ∈ z.2.2) ∧ ∃ L : List Value,L.length = lc ∧ L.take z.1 = strV (kpN t p k (l.take z.2.1)) ∧ (L.drop z.2.1).take (l.length - z.2.1) = (strV l).drop z.2.1 ∧ St W F [pts bl (.cells L.toArray 9 (0,0)),chR c f b T (Nt t) z.2.2] w)
    (fun z => l.length - z.2.1) (i,i + 1,X1) ⟨rfl,rfl,rfl,rfl,trivial⟩ ⟨by dsimp only; omega,by dsimp only; omega,by dsimp only; rw [hki,List.length_take]; omega,hX1,cells,hcl,?_,?_,hS⟩ ?_
   ·dsimp only
    rw [hki]
    have := congrArg (List.take i) hct
    rw [List.take_take,Nat.min_eq_left (by omega)] at this
    rw [this]; simp [strV]
   ·dsimp only
    have := congrArg (List.drop (i + 1)) hct
    rw [List.drop_take] at this
    exact this
   clear hS
   rintro ⟨m,j,X2⟩ w ⟨hj,hmj,hm,hX2,L,hL,ht2,hd,hS2⟩
   simp only at hj hmj hm hX2 ht2 hd hS2
   refine Qbz (σ' := [(0,.slice (some ⟨bl,0,none⟩) l.length lc),(1,nmsF cb pb kb),(5,.int .i64 (m : Nat)),(6,.int .i64 (j : Nat))]) ⟨rfl,rfl,rfl,rfl,trivial⟩ ?_
   by_cases hlt : j < l.length
   ·have hy0 : l[j]? = some l[j] := List.getElem?_eq_getElem hlt
    have htk : l.take (j + 1) = l.take j ++ [l[j]] := List.take_succ_eq_append_getElem hlt
    generalize l[j] = y at hy0 htk
    have hLj : L[j]? = some (.string (str y)) := by
     have := congrArg (fun q => q[0]?) hd
     simp only [List.getElem?_take,List.getElem?_drop,Nat.add_zero] at this
     rw [if_pos (by omega),Zn1 hy0] at this
     exact this
    have hd2 : (L.drop (j + 1)).take (l.length - (j + 1)) = (strV l).drop (j + 1) := by
     have := congrArg (List.drop 1) hd
     rw [List.drop_take,List.drop_drop,List.drop_drop] at this
     rw [show l.length - (j + 1) = l.length - j - 1 by omega]; exact this
    have hS := hS2
    have hr := (hS2.rd (List.mem_cons_self ..)).mono (r' := row (some ⟨bl,0,none⟩) L) (fun g hg => ⟨g,.inr ⟨bl,0,L.toArray,_,(0,0),rfl,hg,fun j v hv => by simpa using hv⟩,fun _ _ e => e⟩)
    have hx := hLj
    repeat (first|refine Yeg ?_|(refine X_id ?_;first|refine Yaf ?_|refine Yag ?_|refine Yau ?_|refine Ya1 ?_|refine Yba ?_|refine Yb1 ?_)|refine Yek ?_|refine Yab ?_)
    obtain ⟨_,hcc,hr1,hw,hbk⟩ := hS.call [false,true]
    refine Zb2 (first := []) (captured := [.pointer (some ⟨cb,0,none⟩),.pointer (some ⟨pb,0,none⟩),.pointer (some ⟨kb,0,none⟩)]) rfl rfl rfl rfl rfl (Z77 ht y cb pb kb z1 z2 z3 pa p pc k _ _ (hT.mono hw) (hG.mono hw) (hw _ hp) hpl (hw _ g1) (hw _ g2) (hw _ g3) hcc) ?_
    rintro _ w ⟨rfl,X3,hX3,hS⟩
    replace hS := hbk hS
    clear hbk hw hcc hr1
    by_cases hk : Zch t (p ++ [y]) = k
    ·have hre : kpN t p k (l.take (j + 1)) = kpN t p k (l.take j) ++ [y] := by unfold kpN; rw [htk,List.filter_append]; simp [hk]
     rw [decide_eq_false (fun h => h hk)]
     repeat (first|refine Yeg ?_|refine Yaf ?_|refine Ybq ?_|refine Yba ?_|refine Yer ?_|refine Yab ?_)
     replace hS := hS.pick [1,0]
     rw [show adr (some ⟨bl,0,none⟩) (((m : Nat) : Int).toNat * 1) = ⟨bl,m,none⟩ by simp [adr]]
     refine Ze1 rfl rfl rfl rfl (by simp [Value.oneCell']) rfl hS (by simp; omega) (fun w hS _ => ?_)
     repeat (first|refine Yeg ?_|refine Yew ?_|refine Yad ?_|refine Yeo ?_)
     have hs1 : (Zai L m [.string (str y)]).length = L.length := Zbg (by simp; omega)
     refine Zaf (z := (m,j,X2)) (m + 1,j + 1,X3) ⟨rfl,rfl,rfl,rfl,trivial⟩ ⟨hlt,by dsimp only; omega,by rw [hre,List.length_append,← hm]; rfl,fun x hx => hX3 x (hX2 x hx),Zai L m [.string (str y)],by rw [hs1,hL],?_,?_,hS.took⟩ (by dsimp only; omega)
     ·rw [hre,show strV (kpN t p k (l.take j) ++ [y]) = strV (kpN t p k (l.take j)) ++ [.string (str y)] by simp [strV],← ht2]
      unfold Zai
      rw [List.take_append_of_le_length (by simp; omega),List.take_of_length_le (by simp; omega)]
     ·rw [← hd2]
      unfold Zai
      dsimp only
      rw [List.append_assoc,List.drop_append,List.drop_of_length_le (by simp; omega),List.nil_append,List.drop_append,List.drop_of_length_le (by simp; omega),List.nil_append,List.drop_drop]
      congr 2
      simp; omega
    ·have hre : kpN t p k (l.take (j + 1)) = kpN t p k (l.take j) := by unfold kpN; rw [htk,List.filter_append]; simp [hk]
     rw [decide_eq_true hk]
     repeat (first|refine Yeg ?_|refine Yaf ?_|refine Yag ?_|refine Ybc ?_|refine Yay ?_|refine Ye8 ?_|refine Yeo ?_)
     exact Zaf (z := (m,j,X2)) (m,j + 1,X3) ⟨rfl,rfl,rfl,rfl,trivial⟩ ⟨hlt,by dsimp only; omega,by rw [hre]; exact hm,fun x hx => hX3 x (hX2 x hx),L,hL,by rw [hre]; exact ht2,hd2,hS.took⟩ (by dsimp only; omega)
   ·obtain rfl : j = l.length := by omega
    have hS := hS2
    rw [List.take_length] at hm ht2
    repeat (first|refine Yeg ?_|refine Yaf ?_|refine Yau ?_|refine Yaz ?_|refine Yet ?_|refine Yem ?_)
    exact Zbj (α := Nat × List RowD) (m,X2) ⟨rfl,rfl,trivial⟩ ⟨hmj,hm,hX2,L,hL,ht2,hS⟩
  ·rintro ⟨m,X2⟩ w ⟨hml,hm,hX2,L,hL,ht2,hS⟩
   simp only at hml hm hX2 ht2 hS ⊢
   repeat (first|refine Yaa ?_|refine Yaf ?_|refine Yeh ?_)
   refine X_yl (Zas (l := m) (h := l.length) rfl rfl rfl rfl (.inl ⟨rfl,rfl⟩) (.inr ⟨_,_,rfl,by omega,by omega,by omega⟩)) rfl rfl ?_
   rw [Zed (show m < lc by omega)]
   repeat (first|refine Yaa ?_)
   refine Zux rfl rfl (by simp [Value.cells,Value.oneCell']) rfl hS (by omega) (fun w zs hzs hS => ?_)
   have hsl : (Zai L (m * 1) zs).length = L.length := Zbg (by rw [hzs]; omega)
   repeat (first|refine Yeg ?_|refine Yaf ?_|refine Yeh ?_|refine Yab ?_)
   refine X_yl (Zas (l := 0) (h := m) rfl rfl rfl rfl (.inr ⟨_,_,rfl,by omega,by omega,by omega⟩) (.inl ⟨rfl,rfl⟩)) rfl rfl ?_
   rw [Zed (show 0 < lc by omega)]
   simp only [Nat.zero_mul,Nat.sub_zero]
   repeat (first|refine Yeg ?_|refine Yag ?_|refine Yah ?_|refine Yei ?_)
   refine ⟨some ⟨bl,0,none⟩,lc,X2,by rw [hm],by omega,hX2,?_⟩
   refine hS.head fun g hg => Zbc (c := lc) (l := Zai L (m * 1) zs) (by rw [hsl,hL,Nat.mul_one]) hcm ?_ g hg
   rw [Zet,← hm,← ht2,Nat.mul_one]
   unfold Zai
   rw [List.append_assoc,List.take_append_of_le_length (by rw [List.length_take]; omega),List.take_take,Nat.min_self]
end
def Zgd (t : Tn) (p : List (List UInt8)) (k : Int) : List (List UInt8) × Int :=
 if Zch t p = -1 then ([],0) else if Zch t p ≠ 1 then ([],17) else if (lstR t p).2 ≠ 0 then ([],(lstR t p).2) else (kpN t p k (lstR t p).1,0)
section
variable {c f tp n : Nat} {b : Int} {T : Int → Option Nd} {t : Tn}
theorem Z3l (ht : TreeOk n t) {X : List RowD} (pa : Option Addr) (p : List (List UInt8)) (pc : Nat) (k : Int) (W : World) (F : Nat → Prop) (hT : TreeRo W F f tp n b T) (hG : Lg W F) (hp : Ro W F (row pa (strV p))) (hpl : p.length ≤ 1000) (hll : (lstR t p).1.length ≤ 1048576) (hS : St W F [chR c f b T (Nt t) X] W) :
  Calls Tryz.prog 121 #[.pointer (some ⟨c,0,none⟩),.int .i64 k,.slice pa p.length pc] W (Ret fun v w => ∃ X' a q,(∀ x ∈ X,x ∈ X') ∧ v = .tuple #[.slice a (Zgd t p k).1.length q,.int .i64 (Zgd t p k).2] ∧ (Zgd t p k).1.length ≤ q ∧ St W F [own 9 1 a q (strV (Zgd t p k).1),chR c f b T (Nt t) X'] w) := by
 unfold Zgd
 refine Zab Tryz.func121 rfl Tryz.ntmps121 rfl ?_
 repeat (first|refine Yeg ?_|refine Yag ?_|refine Yap ?_|refine Ya7 (fun _ _ hS _ => ?_)|refine Yeh ?_|refine Yab ?_)
 rename_i cb _ _ _ kb _ _ _ pb _ _
 obtain ⟨_,hcc,_,hw,hbk⟩ := hS.call [false,false,false,true]
 refine Zaa _ rfl rfl rfl rfl rfl (Zpn ht pa p pc _ _ (hT.mono hw) (hG.mono hw) (hw _ hp) (by omega) hcc) ?_
 rintro _ w ⟨rfl,X1,hX1,hS⟩
 replace hS := hbk hS
 clear hbk hw hcc
 obtain ⟨K,hK⟩ : ∃ K,K = Zch t p := ⟨_,rfl⟩
 rw [← hK]
 by_cases k1 : K = -1
 ·subst k1
  rw [if_pos rfl]
  repeat (first|refine Yeg ?_|refine Yag ?_|refine Ybh ?_|refine Ye4 ?_|refine Yfi ?_)
  exact ⟨X1,none,0,hX1,rfl,Nat.le_refl _,(hS.took (out := [chR c f b T (Nt t) X1])).own_none _ _ _⟩
 rw [if_neg k1]
 by_cases k2 : K = 1
 case neg =>
  rw [if_pos k2]
  repeat (first|refine Yeg ?_|refine Yag ?_|refine Ybi ?_|refine Yae ?_|refine Yad ?_|refine Yaj ?_|refine Yah ?_|refine Yai ?_|refine Yfi ?_)
  exact ⟨X1,none,0,hX1,rfl,Nat.le_refl _,(hS.took (out := [chR c f b T (Nt t) X1])).own_none _ _ _⟩
 subst k2
 rw [if_neg (fun h => h rfl)]
 repeat (first|refine Yeg ?_|refine Yag ?_|refine Ybh ?_|refine Ybi ?_|refine Yap ?_|refine Yen ?_|refine Yeo ?_)
 obtain ⟨_,hcc,_,hw,hbk⟩ := hS.call [true]
 refine Zaa _ rfl rfl rfl rfl rfl (Qa7 ht pa p pc _ _ (hT.mono hw) (hG.mono hw) (hw _ hp) (by omega) hcc) ?_
 rintro _ w ⟨X2,a,q,hX2,rfl,hq,hS⟩
 replace hS := hbk hS
 clear hbk hw hcc
 obtain ⟨E,hE⟩ : ∃ E,E = (lstR t p).2 := ⟨_,rfl⟩
 rw [← hE]
 generalize (lstR t p).1 = l at hll hq hS ⊢
 by_cases e0 : E = 0
 case neg =>
  rw [if_pos e0]
  repeat (first|refine Yeg ?_|refine Yfj ?_|refine Yey ?_|refine Yab ?_|refine Yaq ?_|refine Ybp ?_)
  exact ⟨X2,none,0,fun x hx => hX2 x (hX1 x hx),rfl,Nat.le_refl _,(hS.took (out := [chR c f b T (Nt t) X2])).own_none _ _ _⟩
 subst e0
 rw [if_neg (fun h => h rfl)]
 repeat (first|refine Yeg ?_|(refine X_id ?_;first|refine Yaf ?_|refine Yag ?_|refine Ya3 ?_|refine Ycg ?_|refine Ybb ?_)|refine Yes ?_|refine Yab ?_)
 obtain ⟨_,hcc,hr1,hw,hbk⟩ := hS.call [true,true]
 refine Zaa _ rfl rfl rfl rfl rfl (Z8z ht a l q cb pb kb (0,0) (0,0) (0,0) pa p pc k _ _ (hT.mono hw) (hG.mono hw) (hw _ hp) hpl hq hll (hr1 _ (by simp)) (hr1 _ (by simp)) (hr1 _ (by simp)) hcc) ?_
 rintro _ w ⟨a',c',X3,rfl,hc',hX3,hS⟩
 replace hS := hbk hS
 clear hbk hw hcc hr1
 repeat (first|refine Yeg ?_|refine Yag ?_|refine Yah ?_|refine Ye5 ?_)
 exact ⟨X3,a',c',fun x hx => hX3 x (hX2 x (hX1 x hx)),rfl,hc',hS.took⟩
end
section
variable {c f tp n : Nat} {b : Int} {T : Int → Option Nd} {t : Tn}
theorem Z4q (t : Tn) (p : List (List UInt8)) (ht : TreeOk n t) : (lstR t p).1.length ≤ 1048576 := by
 unfold lstR
 split
 ·simp
 ·rename_i x hg
  obtain ⟨_,u,_,hu,hxu⟩ := Zqg ht hg
  have hlen : x.2.data.length ≤ 512 := by rw [hxu]; exact ht.len hu
  have hrl := Zr0 x.2.data
  split
  ·simp; omega
  ·simp
theorem Z2f (ht : TreeOk n t) {X : List RowD} (tb : Nat) (name : List UInt8) (W : World) (F : Nat → Prop) (hT : TreeRo W F f tp n b T) (hG : Lg W F) (htb : Ro W F (pts tb (tbC c name))) (hS : St W F [chR c f b T (Nt t) X] W) :
  Calls Tryz.prog 71 #[.pointer (some ⟨tb,0,none⟩)] W (Ret fun v w => ∃ X' a q,(∀ x ∈ X,x ∈ X') ∧ v = .tuple #[.slice a (Zgd t [dbN,name] 0).1.length q,.int .i64 (Zgd t [dbN,name] 0).2] ∧ (Zgd t [dbN,name] 0).1.length ≤ q ∧ St W F [own 9 1 a q (strV (Zgd t [dbN,name] 0).1),chR c f b T (Nt t) X'] w) := by
 have hc := htb
 refine Zab Tryz.func71 rfl Tryz.ntmps71 rfl ?_
 repeat (first|refine Yeg ?_|refine Yaf ?_|refine Yag ?_|refine Ybu ?_|refine Yes ?_|refine Yab ?_)
 refine Zan (.s 0 (.s 1 (.s 2 (.s 3 (.s 4 (.s 5 (.s 6 (.s 7 (.h 8 (.h 9 (.s 10 (.s 11 (.s 12 (.s 13 .nil)))) .no) .no))))))))) mixed (by kernel_rfl) rfl ?_
 have hS := hS.drew
 repeat (first|refine Ybd (fun _ _ hS _ => ?_)|(refine Zae ?_;first|refine Ya0 ?_|refine Ybo ?_|refine Ybg ?_|refine Yas ?_|refine Yc8 ?_)|(refine Zac ?_;first|refine Yax ?_))
 obtain ⟨_,hcc,hr1,hw,hbk⟩ := hS.call [false,true]
 refine Zaa _ rfl rfl rfl rfl rfl (Z3l ht _ [dbN,name] _ 0 _ _ (hT.mono hw) (hG.mono hw) (hr1 _ (List.mem_cons_self ..)).own_row (by simp) (Z4q t _ ht) hcc) ?_
 rintro _ w ⟨X1,a,q,hX1,rfl,hq,hS⟩
 replace hS := hbk hS
 clear hbk hw hcc hr1
 repeat (first|refine Yah ?_|refine Ye5 ?_|(refine Zae ?_;first|refine Yaw ?_|refine Ybj ?_|refine Ycz ?_)|(refine Zac ?_;first|refine Yax ?_))
 exact ⟨X1,a,q,hX1,rfl,hq,hS.took⟩
end
end Cr
namespace Cr
open Go
set_option maxHeartbeats 64000000
section
variable {W : World} {F : Nat → Prop} {rs : List Res} {w : World} {r : Res} {l : List Res}
end
end Cr
namespace Cr
open Go Go.Proofs
set_option maxRecDepth 100000
set_option maxHeartbeats 64000000
attribute [local irreducible] Calls

def Zaz (rd fs : List Int) (l : List (List UInt8)) : Nat → List UInt8
 | 0 => Zb0 rd fs Zcb
 | i + 1 => digest rd fs [Zaz rd fs l i,be8 (i : Nat),l.getD i []]
theorem Zbi (rd fs : List Int) (l : List (List UInt8)) : ∀ i,(Zaz rd fs l i).length = 32
 | 0 => Zbq _ _ _
 | _ + 1 => Zao _ _ _
abbrev endV (n : Nat) (m : List UInt8) : List Value := .int .i64 (n : Nat) :: bv m
theorem Z27 (rd fs : List Int) (W : World) (hG : Gl W noF rd fs) : Calls Tryz.prog 62 #[] W (Ret fun v w => v = .agg (endV 0 (Zb0 rd fs Zcb)).toArray ∧ St W noF [] w) := by
 have hS := St.start W
 have hl32 : LenO (bv (Zb0 rd fs Zcb)) 32 := ⟨by rw [Zag]; exact Zbq _ _ _⟩
 refine Zab Tryz.func62 rfl Tryz.ntmps62 rfl ?_
 repeat (first|refine Yeg ?_|(refine X_id ?_;first|(refine Zad 21 rfl rfl rfl rfl rfl hS (Z2g rd fs _ (hG.mono fun r hr => (hr.rd hS).ro)) ?_;rintro _ _ rfl hS)|refine Ybn ?_|refine Yao (fun _ hS _ => ?_)|refine Yar (fun _ _ hS _ => ?_))|refine Yeu ?_|refine Yab ?_|refine Ybv ?_)
 exact ⟨rfl,hS.drops⟩
theorem Qa3 (p : Nat) (n : Nat) (m : List UInt8) (a : Option Addr) (c : Nat) (b : List UInt8) (rd fs : List Int) (W : World) (F : Nat → Prop) (hm : m.length = 32) (hn : n < 1000000) (hG : Gl W F rd fs) (hb : Ro W F (bytes a b)) (hbl : b.length < 1000000000) (hS0 : St W F [pts p (.cells (endV n m).toArray 136)] W) :
  Calls Tryz.prog 63 #[.pointer (some ⟨p,0,none⟩),.slice a b.length c] W (Ret fun v w => v = .agg (bv (digest rd fs [m,be8 (n : Nat),b])).toArray ∧ St W F [pts p (.cells (endV (n + 1) (digest rd fs [m,be8 (n : Nat),b])).toArray 136)] w) := by
 have hS := hS0
 have hm32 : LenO (bv m) 32 := ⟨by rw [Zag]; exact hm⟩
 have hd32 : LenO (bv (digest rd fs [m,be8 (n : Nat),b])) 32 := ⟨by rw [Zag]; exact Zao _ _ _⟩
 refine Zab Tryz.func63 rfl Tryz.ntmps63 rfl ?_
 repeat (first|refine Yeg ?_|refine Yar (fun _ _ hS _ => ?_)|refine Yeh ?_|refine Yab ?_)
 refine Zan (.s 0 (.s 1 (.s 2 (.s 3 (.s 4 (.s 5 (.s 6 (.s 7 (.s 8 (.s 9 (.h 10 (.s 11 (.s 12 (.h 13 .nil .no))) .no))))))))))) mixed (by kernel_rfl) rfl ?_
 have hS := hS.drew
 repeat (first|(refine Zae ?_;first|refine Ya0 ?_|refine Ybo ?_|refine Ybg ?_|refine Ybm ?_|refine Ybx ?_|refine Yas ?_))
 refine Zad 26 rfl rfl rfl rfl rfl hS (Zvs m (n : Nat) a c b rd fs _ hm (hG.mono fun r hr => (hr.rd hS).ro) (hb.rd hS).ro hbl) ?_
 rintro _ w rfl hS
 repeat (first|(refine Zae ?_;first|refine Ybo ?_|refine Ybg ?_|refine Yas ?_)|(refine Zac ?_;first|refine Yax ?_))
 have hsp : Zai (endV n m) 1 (bv (digest rd fs [m,be8 (n : Nat),b])) = endV n (digest rd fs [m,be8 (n : Nat),b]) := by
  simp [Zai,Zag,hm,Zao]
 refine Ze1 rfl rfl rfl (by rw [Zag,Zao]) Zc6 rfl hS (by simp [Zag,hm,Zao]) (fun w hS _ => ?_)
 rw [hsp] at hS
 repeat (first|refine Yeg ?_|(refine X_id ?_;first|refine Yaf ?_|refine Yav ?_|refine Yan ?_|refine Yay ?_|refine Yap ?_|refine Ybf ?_|refine Yao (fun _ hS _ => ?_))|refine Yeu ?_|refine Yab ?_|refine Ybv ?_|(refine Zae ?_;first|refine Yaw ?_)|(refine Zac ?_;first|refine Yax ?_))
 refine ⟨rfl,?_⟩
 have h := hS.pick [1]
 exact h
def Zg6 (rd fs : List Int) (l : List (List UInt8)) (n : Nat) : List Value := (List.range n).flatMap fun i => bv (Zaz rd fs l (i + 1))
theorem Zie (rd fs : List Int) (l : List (List UInt8)) : ∀ n,(Zg6 rd fs l n).length = n * 32
 | 0 => rfl
 | n + 1 => by
  have ih := Zie rd fs l n
  unfold Zg6 at ih ⊢
  rw [List.range_succ,List.flatMap_append,List.length_append,ih,List.flatMap_cons,List.flatMap_nil,List.append_nil,Zag,Zbi]
  omega
theorem Z8c (a : Option Addr) (c : Nat) (l : List Bs) (rd fs : List Int) (W : World) (hG : Gl W noF rd fs) (hB : Bss W noF a l) (hl : l.length ≤ 1000) (hbl : ∀ x ∈ l,x.s.length < 1000000000) :
  Calls Tryz.prog 20 #[.slice a l.length c] W (Ret fun v w => ∃ (a' : Option Addr) (c' : Nat),v = .slice a' l.length c' ∧ l.length ≤ c' ∧ St W noF [own 56 32 a' c' (Zg6 rd fs (Zam l) l.length)] w) := by
 have hS := St.start W
 have hl33 : LenO (endV 0 (Zb0 rd fs Zcb)) 33 := ⟨by rw [List.length_cons,Zag,Zbq]⟩
 refine Zab Tryz.func20 rfl Tryz.ntmps20 rfl ?_
 repeat (first|refine Yeg ?_|(refine X_id ?_;first|(refine Zad 62 rfl rfl rfl rfl rfl hS (Z27 rd fs _ (hG.mono fun r hr => (hr.rd hS).ro)) ?_;rintro _ _ rfl hS)|refine Yfh ?_|refine Yb6 (fun _ hS => ?_)|refine Yar (fun _ _ hS _ => ?_))|refine Yej ?_|refine Yab ?_)
 rename_i b3 _ _ _ _
 have hS0 := hS.own_none 56 32 none
 refine Zaj (α := Nat × Option Addr × Nat) (fun z => [(3,.pointer (some ⟨b3,0,none⟩)),(4,.slice z.2.1 z.1 z.2.2),(8,.slice a l.length c),(9,.int .i64 (l.length : Nat)),(10,.int .i64 (z.1 : Nat))])
  (fun z w => z.1 ≤ l.length ∧ z.1 ≤ z.2.2 ∧ St W noF [own 56 32 z.2.1 z.2.2 (Zg6 rd fs (Zam l) z.1),pts b3 (.cells (endV z.1 (Zaz rd fs (Zam l) z.1)).toArray 136)] w) (fun z => l.length - z.1) (0,none,0) ⟨rfl,rfl,rfl,rfl,rfl,trivial⟩ ⟨Nat.zero_le _,Nat.le_refl _,hS0⟩ ?_
 clear hS hS0
 rintro ⟨i,a2,c2⟩ w ⟨hi,hc2,hS⟩
 simp only at hi hc2 hS ⊢
 obtain ⟨m,hm⟩ : ∃ m,m = Zaz rd fs (Zam l) i := ⟨_,rfl⟩
 have hm32 : m.length = 32 := by rw [hm]; exact Zbi _ _ _ _
 rw [← hm] at hS
 by_cases hlt : i < l.length
 ·have hx0 : l[i]? = some l[i] := List.getElem?_eq_getElem hlt
  generalize l[i] = x at hx0
  have hxm := List.mem_of_getElem? hx0
  have hr := hB.row
  have hx : (l.map Bs.val)[i]? = some (.slice x.a x.s.length x.c) := by simp [hx0,Bs.val]
  obtain ⟨ab,ao,rfl⟩ := (hr.rd hS).base (by intro e; rw [e] at hx; simp at hx)
  have hnext : Zaz rd fs (Zam l) (i + 1) = digest rd fs [m,be8 (i : Nat),x.s] := by
   show digest rd fs [Zaz rd fs (Zam l) i,be8 (i : Nat),(Zam l).getD i []] = _
   rw [← hm]
   simp [Zam,List.getD,hx0]
  repeat (first|refine Yeg ?_|refine Yff ?_|refine Yek ?_|refine Yab ?_)
  obtain ⟨F2,hc,hro,hw,hbk⟩ := hS.call [false,true]
  refine Zaa 63 rfl rfl rfl rfl rfl (Qa3 b3 i m x.a x.c x.s rd fs _ _ hm32 (by omega) (hG.mono hw) (hw _ (hB.all x hxm)) (hbl x hxm) hc) ?_
  rintro _ w ⟨rfl,hS⟩
  replace hS := hbk hS
  clear hc hro hw hbk
  rw [← hnext] at hS ⊢
  have hn32 : LenO (bv (Zaz rd fs (Zam l) (i + 1))) 32 := ⟨by rw [Zag]; exact Zbi _ _ _ _⟩
  repeat (first|refine Yaa ?_|refine Ybd (fun _ _ hS _ => ?_))
  refine Zap (T := 56) (a := a2) (m := 1) rfl rfl rfl rfl rfl hS (by rw [Zie]) hc2 ((hS.rd (List.mem_cons_self ..)).own_row) (by rw [Zag,Zbi]) Zc6 (by omega) (by simp only [maxLen]; omega) (fun a3 c3 w hS hc3 _ => ?_)
  repeat (first|refine Yeg ?_|refine Yew ?_|refine Yad ?_|refine Yeo ?_)
  refine Zaf (α := Nat × Option Addr × Nat) (z := (i,a2,c2)) (i + 1,a3,c3) ⟨rfl,rfl,rfl,rfl,rfl,trivial⟩ ⟨by simp only; omega,by simp only; omega,?_⟩ (by simp only; omega)
  have hS := hS.pick [0,1]
  have e : Zg6 rd fs (Zam l) (i + 1) = Zg6 rd fs (Zam l) i ++ bv (Zaz rd fs (Zam l) (i + 1)) := by
   unfold Zg6
   rw [List.range_succ,List.flatMap_append,List.flatMap_cons,List.flatMap_nil,List.append_nil]
  simp only [e]
  exact hS
 ·obtain rfl : i = l.length := by omega
  repeat (first|refine Yeg ?_|refine Yfb ?_|refine Yep ?_|refine Yfc ?_)
  exact ⟨a2,c2,rfl,hc2,by have h := hS.pick [0]; exact h⟩
abbrev chnC (n : Nat) (m : List UInt8) (tb : Nat) (ra : Option Addr) (rc : Nat) : Obj := .cells (List.toArray (.int .i64 (n : Nat) :: (bv m ++ [.pointer (some ⟨tb,0,none⟩),.slice ra n rc]))) 150 (0,0)
end Cr
namespace Go.Proofs
open Go.Shelf
def Tryz.lays105_ren : Go.Shelf.Ren := ⟨fun | 105 => 66 | 212 => 115 | 99 => 116 | 165 => 117 | 166 => 118 | 170 => 119 | 169 => 120 | 263 => 174 | 264 => 175 | 206 => 176 | 240 => 177 | 241 => 178 | 276 => 220 | 277 => 221 | n => n,fun | 9 => 9 | 3 => 3 | 4 => 4 | 20 => 20 | 0 => 0 | 46 => 238 | 109 => 239 | 5 => 5 | 72 => 244 | 76 => 247 | 51 => 164 | 146 => 309 | 53 => 45 | 148 => 311 | 70 => 242 | 37 => 35 | 75 => 246 | 127 => 313 | 164 => 353 | 80 => 249 | n => n,fun | n => n⟩
theorem Tryz.lays105 : Go.Proofs.Lays.n105 Tryz.prog Tryz.lays105_ren := {
 mixed := by kernel_rfl
 f99 := Tryz.func116.trans (congrArg some (by kernel_rfl))
 f105 := Tryz.func66.trans (congrArg some (by kernel_rfl))
 f165 := Tryz.func117.trans (congrArg some (by kernel_rfl))
 f166 := Tryz.func118.trans (congrArg some (by kernel_rfl))
 f169 := Tryz.func120.trans (congrArg some (by kernel_rfl))
 f170 := Tryz.func119.trans (congrArg some (by kernel_rfl))
 f206 := Tryz.func176.trans (congrArg some (by kernel_rfl))
 f212 := Tryz.func115.trans (congrArg some (by kernel_rfl))
 f240 := Tryz.func177.trans (congrArg some (by kernel_rfl))
 f241 := Tryz.func178.trans (congrArg some (by kernel_rfl))
 f263 := Tryz.func174.trans (congrArg some (by kernel_rfl))
 f264 := Tryz.func175.trans (congrArg some (by kernel_rfl))
 f276 := Tryz.func220.trans (congrArg some (by kernel_rfl))
 f277 := Tryz.func221.trans (congrArg some (by kernel_rfl))
 t0 := Tryz.underlying0
 a0 := Tryz.isAgg0
 z0 := Tryz.sizeOf0
 v0 := Tryz.zeroValue0
 t3 := Tryz.underlying3
 a3 := Tryz.isAgg3
 z3 := Tryz.sizeOf3
 v3 := Tryz.zeroValue3
 t4 := Tryz.underlying4
 a4 := Tryz.isAgg4
 z4 := Tryz.sizeOf4
 v4 := Tryz.zeroValue4
 t5 := Tryz.underlying5
 a5 := Tryz.isAgg5
 z5 := Tryz.sizeOf5
 v5 := Tryz.zeroValue5
 t9 := Tryz.underlying9
 a9 := Tryz.isAgg9
 z9 := Tryz.sizeOf9
 v9 := Tryz.zeroValue9
 t20 := Tryz.underlying20
 a20 := Tryz.isAgg20
 z20 := Tryz.sizeOf20
 v20 := Tryz.zeroValue20
 t37 := Tryz.underlying35
 a37 := Tryz.isAgg35
 z37 := Tryz.sizeOf35
 v37 := Tryz.zeroValue35
 t46 := Tryz.underlying238
 a46 := Tryz.isAgg238
 z46 := Tryz.sizeOf238
 v46 := Tryz.zeroValue238
 t51 := Tryz.underlying164
 a51 := Tryz.isAgg164
 z51 := Tryz.sizeOf164
 v51 := Tryz.zeroValue164
 t53 := Tryz.underlying45
 a53 := Tryz.isAgg45
 z53 := Tryz.sizeOf45
 v53 := Tryz.zeroValue45
 t70 := Tryz.underlying242
 a70 := Tryz.isAgg242
 z70 := Tryz.sizeOf242
 v70 := Tryz.zeroValue242
 t72 := Tryz.underlying244
 a72 := Tryz.isAgg244
 z72 := Tryz.sizeOf244
 v72 := Tryz.zeroValue244
 t75 := Tryz.underlying246
 a75 := Tryz.isAgg246
 z75 := Tryz.sizeOf246
 v75 := Tryz.zeroValue246
 t76 := Tryz.underlying247
 a76 := Tryz.isAgg247
 z76 := Tryz.sizeOf247
 v76 := Tryz.zeroValue247
 t109 := Tryz.underlying239
 a109 := Tryz.isAgg239
 z109 := Tryz.sizeOf239
 v109 := Tryz.zeroValue239
 t127 := Tryz.underlying313
 a127 := Tryz.isAgg313
 z127 := Tryz.sizeOf313
 v127 := Tryz.zeroValue313
 t146 := Tryz.underlying309
 a146 := Tryz.isAgg309
 z146 := Tryz.sizeOf309
 v146 := Tryz.zeroValue309
 t148 := Tryz.underlying311
 a148 := Tryz.isAgg311
 z148 := Tryz.sizeOf311
 v148 := Tryz.zeroValue311
 t164 := Tryz.underlying353
 a164 := Tryz.isAgg353
 z164 := Tryz.sizeOf353
 v164 := Tryz.zeroValue353 }
theorem Tryz.Builder_Extra_105 : Builder.Extra Tryz.prog Tryz.lays105_ren := {
 sizeBuilder := by kernel_rfl
 liesBuilder := by kernel_rfl
 t5 := Tryz.underlying5
 a5 := Tryz.isAgg5
 z5 := Tryz.sizeOf5
 v5 := Tryz.zeroValue5
 infoByte := by kernel_rfl
 cellsByte := by kernel_rfl
 sizeByte := by kernel_rfl
 neB5 := by decide }
open Go.RowKit Go.Lib in
theorem Tryz.strings_Repeat (s : ByteArray) (c : Nat) (w : World) (hc : c ≤ 9223372036854775807) (hlen : s.size * c ≤ 140737488355328) :
  Calls Tryz.prog 66 #[.string s,.int .i64 c] w fun e w' => e = .returned (.string ⟨(Lib.repeatL s.data.toList c).toArray⟩) ∧ Below w.heap.size w w' := Any.strings_Repeat Tryz.lays105 Tryz.Builder_Extra_105 s c w hc hlen
end Go.Proofs
namespace Cr
open Go Go.Proofs
set_option maxRecDepth 100000
set_option maxHeartbeats 64000000
attribute [local irreducible] Calls

theorem Z97 (s : List UInt8) (c : Nat) (W : World) (hc : c ≤ 1000) (hs : s.length ≤ 1000) :
  Calls Tryz.prog 66 #[.string (str s),.int .i64 (c : Nat)] W (Ret fun v w => v = .string (str (Lib.repeatL s c)) ∧ St W noF [] w) := by
 have hsz : (str s).size = s.length := by simp [str,ByteArray.size]
 refine (Tryz.strings_Repeat (str s) c W (by omega) (by rw [hsz]; have := Nat.mul_le_mul hs hc; omega)).mono ?_
 rintro e w ⟨rfl,hb⟩
 exact ⟨_,rfl,rfl,(St.start W).below hb⟩
def keyN (n : Nat) : List UInt8 := 114 :: (Lib.repeatL [48] (6 - (Lib.itoa (n : Nat)).length) ++ Lib.itoa (n : Nat))
theorem Z87 (n : Nat) (W : World) (hG : Lg W noF) (hn : n ≤ 999999) (hl : (Lib.itoa (n : Nat)).length ≤ 6) :
  Calls Tryz.prog 22 #[.int .i64 (n : Nat)] W (Ret fun v w => v = .string (str (keyN n)) ∧ St W noF [] w) := by
 have hS := St.start W
 obtain ⟨d,hd⟩ : ∃ d,d = 6 - (Lib.itoa (n : Nat)).length := ⟨_,rfl⟩
 have hlen : (str (Lib.itoa (n : Nat))).size = (Lib.itoa (n : Nat)).length := by simp [str,ByteArray.size]
 have hi := fun W h => Z4v (n : Nat) W noF h (by omega) (by omega)
 unfold keyN
 rw [← hd]
 generalize Lib.itoa (n : Nat) = l at hl hd hlen hi ⊢
 refine Zab Tryz.func22 rfl Tryz.ntmps22 rfl ?_
 repeat (first|refine Yex ?_|(refine X_id ?_;first|refine Yaf ?_|refine Yag ?_|refine Ya9 ?_|refine Yaz ?_|refine Ybs ?_)|refine Yes ?_|refine Yab ?_)
 refine Zaa _ rfl rfl rfl rfl rfl (hi _ (hG.at_ hS)) ?_
 rintro _ w ⟨rfl,hS'⟩
 replace hS := hS.plus hS'
 clear hS'
 repeat (first|refine Yeg ?_|refine Yaf ?_|refine Yag ?_|refine Ycq ?_|refine Ybw ?_|refine Yeh ?_|refine Yab ?_)
 rw [show (6 : Int) - ((str l).size : Nat) = (d : Nat) by rw [hlen]; omega]
 refine Zaa _ rfl rfl rfl rfl rfl (Z97 [48] d _ (by omega) (by simp)) ?_
 rintro _ w ⟨rfl,hS'⟩
 replace hS := hS.plus hS'
 clear hS'
 have hz : (Lib.repeatL [48] d).length = d := by
  have := Lib.repeatL_length [48] d
  simpa using this
 repeat (first|refine Yeg ?_|refine Yaf ?_|refine Yag ?_|refine Ydr ?_|refine Yah ?_|refine Yei ?_)
 exact ⟨rfl,hS⟩
def keyD (i : Nat) : List UInt8 := [114,48,48,48,48,48,UInt8.ofNat (48 + i)]
theorem Z8h {i : Nat} (h : i < 10) : keyN i = keyD i := by
 unfold keyN
 rw [Zd4,Lib.decDigits_one h]
 rfl
theorem Zx5 : ∀ i,i < 10 → ∀ k,k < 10 → keyD i = keyD k → i = k := by decide +kernel
theorem Ztx {i k : Nat} (hi : i < 10) (hk : k < 10) (h : keyD i = keyD k) : i = k := Zx5 i hi k hk h
theorem Z1j : ∀ i,i < 10 → ∀ k,k < 10 → i < k → ltS (keyD i) (keyD k) := by decide +kernel
theorem Z4u {i k : Nat} (hi : i < 10) (hk : k < 10) (h : i < k) : ltS (keyD i) (keyD k) := Z1j i hi k hk h
theorem Z1i : ∀ i,i < 10 → nameOk (keyD i) := by decide +kernel
theorem Zr9 {i : Nat} (h : i < 10) : nameOk (keyD i) := Z1i i h
def Zi9 (i : Nat) (v : Mv) : Tn := .mk (keyD i) ((3 + i : Nat) : Int) ⟨0,384,0,0⟩ (encM v) []
def Zc9 : Nat → List Mv → List Tn
 | _,[] => []
 | i,v :: l => Zi9 i v :: Zc9 (i + 1) l
def logT (vs : List Mv) : Tn := .mk logN 2 ⟨1,448,0,0⟩ [] (Zc9 0 vs)
def Zcs (vs : List Mv) : Tn := .mk [] 0 ⟨1,493,0,0⟩ [] [.mk dbN 1 ⟨1,448,0,0⟩ [] [logT vs]]
def trV : List Mv → Tn
 | [] => t0
 | v :: l => Zcs (v :: l)
theorem Zm6 (v : Mv) : ∀ (l : List Mv) (i : Nat),Zc9 i (l ++ [v]) = Zc9 i l ++ [Zi9 (i + l.length) v]
 | [],i => rfl
 | x :: l,i => by
  rw [List.cons_append,Zc9,Zm6 v l,Zc9,List.cons_append,List.length_cons,show i + 1 + l.length = i + (l.length + 1) by omega]
theorem Zp8 (v : Mv) : ∀ (l : List Mv) (i k : Nat),i + l.length ≤ k → k < 10 → insT (Zi9 k v) (Zc9 i l) = Zc9 i l ++ [Zi9 k v]
 | [],i,k,_,_ => rfl
 | x :: l,i,k,h,hk => by
  rw [List.length_cons] at h
  have hlt : ltS (Zi9 i x).nm (Zi9 k v).nm := Z4u (by omega) hk (by omega)
  rw [Zc9,insT,if_pos hlt,Zp8 v l (i + 1) k (by omega) hk,List.cons_append]
theorem Zfc : ∀ (l : List Mv) (i k : Nat),i + l.length ≤ k → k < 10 → kidT (keyD k) (Zc9 i l) = none
 | [],i,k,_,_ => rfl
 | x :: l,i,k,h,hk => by
  rw [List.length_cons] at h
  have hne : ¬ (Zi9 i x).nm = keyD k := fun e => by have := Ztx (by omega) hk e; omega
  rw [Zc9,kidT,List.find?_cons_of_neg (by simpa using hne)]
  exact Zfc l (i + 1) k (by omega) hk
theorem Zm5 : ∀ (l : List Mv) (i k : Nat) (v : Mv),i + l.length ≤ 10 → l[k]? = some v → kidT (keyD (i + k)) (Zc9 i l) = some (Zi9 (i + k) v)
 | [],i,k,v,_,h => by simp at h
 | x :: l,i,0,v,h,hv => by
  obtain rfl : x = v := by simpa using hv
  rw [Zc9,kidT,List.find?_cons_of_pos (by simp [Zi9,Tn.nm])]
  rfl
 | x :: l,i,k + 1,v,h,hv => by
  rw [List.length_cons] at h
  have hv' : l[k]? = some v := by simpa using hv
  have hk := (List.getElem?_eq_some_iff.1 hv').1
  have hne : ¬ (Zi9 i x).nm = keyD (i + (k + 1)) := fun e => by have := Ztx (by omega) (by omega) e; omega
  rw [Zc9,kidT,List.find?_cons_of_neg (by simpa using hne),show i + (k + 1) = i + 1 + k by omega]
  exact Zm5 l (i + 1) k v (by omega) hv'
theorem Zml : ∀ (l : List Mv) (i : Nat),subL (Zc9 i l) = Zc9 i l
 | [],_ => rfl
 | x :: l,i => by rw [Zc9,subL,Zml l]; rfl
theorem Zm7 : ∀ (l : List Mv) (i k : Nat),(getA ((3 + k : Nat) : Int) ((Zc9 i l).map ent)).isSome = decide (i ≤ k ∧ k < i + l.length)
 | [],i,k => by simp [Zc9,getA]
 | x :: l,i,k => by
  rw [Zc9,List.map_cons,Zem]
  by_cases h : k = i
  ·subst h
   rw [if_pos (by rfl)]; simp
  ·rw [if_neg (by show ¬ ((3 + k : Nat) : Int) = ((3 + i : Nat) : Int); omega),Zm7 l (i + 1) k,List.length_cons]
   exact decide_eq_decide.2 (by omega)
theorem Zys (vs : List Mv) : Zcm (Zcs vs) = ent (Zcs vs) :: ent (.mk dbN 1 ⟨1,448,0,0⟩ [] [logT vs]) :: ent (logT vs) :: (Zc9 0 vs).map ent := by
 have h1 : subT (logT vs) = logT vs :: subL (Zc9 0 vs) := Zee _
 have h2 : subT (Zcs vs) = Zcs vs :: .mk dbN 1 ⟨1,448,0,0⟩ [] [logT vs] :: (subT (logT vs) ++ []) ++ [] := rfl
 unfold Zcm
 rw [h2,h1,Zml]
 simp
theorem Zlh (vs : List Mv) (k : Nat) : (Nt (Zcs vs) (k : Int)).isSome = decide (k < 3 + vs.length) := by
 unfold Nt
 rw [Zys]
 rcases k with _ | _ | _ | k
 ·simp [getA,ent,Zcs,Tn.no]; omega
 ·simp [getA,ent,Zcs,Tn.no]; omega
 ·simp [getA,ent,Zcs,logT,Tn.no]; omega
 ·rw [Zem,if_neg (by show ¬ ((k + 1 + 1 + 1 : Nat) : Int) = 0; omega),Zem,if_neg (by show ¬ ((k + 1 + 1 + 1 : Nat) : Int) = 1; omega),Zem,if_neg (by show ¬ ((k + 1 + 1 + 1 : Nat) : Int) = 2; omega)]
  rw [show ((k + 1 + 1 + 1 : Nat) : Int) = ((3 + k : Nat) : Int) by omega,Zm7]
  exact decide_eq_decide.2 (by omega)
theorem Zv0 {vs : List Mv} (h : vs.length < 7) : Zi8 10 (Nt (Zcs vs)) = some (3 + vs.length) :=
 Zgy (by omega) (by have := Zlh vs (3 + vs.length); rw [decide_eq_false (by omega)] at this; simpa using this) fun j hj e => by
  have := Zlh vs j
  rw [e,decide_eq_true hj] at this
  cases this
theorem Zvz {vs : List Mv} (h : vs.length = 7) : Zi8 10 (Nt (Zcs vs)) = none := Znb fun j hj e => by
 have := Zlh vs j
 rw [e,decide_eq_true (by omega)] at this
 cases this
theorem Zll : ∀ {l : List Nm},(∀ x ∈ l,x.1.length ≤ 9 ∧ 0 ≤ x.2 ∧ x.2 ≤ 1000000) → (Za5 (l.map Zfi)).length ≤ 40 * l.length
 | [],_ => by simp [Za5]
 | x :: l,h => by
  obtain ⟨h1,h2,h3⟩ := h x (List.mem_cons_self ..)
  have ih := Zll (l := l) fun y hy => h y (List.mem_cons_of_mem _ hy)
  have h4 := Zfd (n := (x.1.length : Nat)) (by omega) (by omega)
  have h5 := Zfd h2 h3
  have e : (encM (Zfi x)).length ≤ 40 := by
   rw [Zfi,Zby,Za5,Za5,Za5,Zex,Zfz]
   simp only [List.length_cons,List.length_append,List.length_nil]
   omega
  rw [List.map_cons,Za5,List.length_append,List.length_cons]; omega
theorem Zkn {l : List Nm} (h : ∀ x ∈ l,x.1.length ≤ 9 ∧ 0 ≤ x.2 ∧ x.2 ≤ 1000000) (hl : l.length ≤ 12) : ¬ 512 < (wrD l).length := by
 have := Zll h
 rw [wrD,dirM,Zby]
 simp only [List.length_cons,List.length_append,List.length_nil]
 omega
theorem Zr8 (vs : List Mv) : ∀ (i : Nat),(Zc9 i vs).map (fun k => ((k.nm,k.no) : Nm)) = (List.range' i vs.length).map fun j => (keyD j,((3 + j : Nat) : Int)) := by
 induction vs with
 | nil => intro i; rfl
 | cons x l ih => intro i; rw [Zc9,List.map_cons,ih,List.length_cons,List.range'_succ,List.map_cons]; rfl
def tenL : List UInt8 := [48,49,50,51,52,53,54,55,56,57]
theorem Z0d : ∀ d : Fin 10,(tenL.drop d.val).take (d.val + 1 - d.val) = [UInt8.ofNat (48 + d.val)] := by decide
theorem Z3n {d : Nat} (h : d < 10) : (tenL.drop d).take (d + 1 - d) = [UInt8.ofNat (48 + d)] := Z0d ⟨d,h⟩
end Cr
