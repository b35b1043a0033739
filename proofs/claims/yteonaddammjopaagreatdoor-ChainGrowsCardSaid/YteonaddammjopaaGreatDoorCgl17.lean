/-
  The laws' helper Same: are bytes the same?
  Layer 7 (inode): Format; what nil tells; Same.
  The laws' helpers To of layers 6 and 7.
  The laws' helper known of layer 7: the chapter's examples.
  Layer 7 (inode): Open: a node of its sector's bytes; does a block stand in two Zih?
  Layer 7 (inode): does a block stand in two Zih? Open.
  Layer 7 (inode): Open of a log that holds a table.
  DERIVED: THE SHELF's CONTRACTS AT THIS DUMP,IN PLAIN WORDS (tools/lay-plain.mjs out of 'TryzShelf.lean',which tools/lay-shelf.mjs wrote): THE SAME DECLARATIONS UNDER THE SAME NAMES: 'import','namespace','open','def','theorem' AND NOTHING ELSE: no command of the shelf's: FOR A HAND-IN. Each laying: the table of numbers ('.._ren') and one theorem,a field a fact of the dump's own or the kernel's comparison; each contract: ONE APPLICATION.
  Layer 7 (inode): Used: the keys of a map,gone through by a range over a function,and sorted.
  Closed runs: the contracts of layers 1 to 7,offered to the evaluator: a new disk,a log on it,a table of nodes (opaque objects),and the counter's load.
  Closed runs: Apply of the inode's table,offered to the evaluator.
  Closed runs: the context of every run: what is native,what has no body; and what a run that answers proves.
  Closed runs: strings' functions without a body; the context with them.
  Closed runs: the digest's contracts,offered to the evaluator; the context with them.
-/
import Derived.Test.YteonaddammjopaaGreatDoorCgl5
import Derived.Test.YteonaddammjopaaGreatDoorCgl10
import Derived.Test.YteonaddammjopaaGreatDoorCgl9
import Derived.Shelf.Strings.Builder1
import Derived.Shelf.Strings.Builder2
import Derived.Shelf.Small.Strs
import Derived.Shelf.Strconv.Atoi
import Derived.Shelf.Strconv.Itoa0
import Derived.Shelf.Strconv.Itoa1
import Derived.Shelf.LaysM
import Derived.Shelf.Strconv.Itoa2
import Derived.Shelf.Strconv.Itoa3
import Derived.Shelf.Strconv.AtoiErrFast
import Derived.Shelf.Strconv.ParseIntEmpty
import Derived.Shelf.Strconv.AtoiFail
import Derived.Shelf.Strconv.Clone
import Derived.Shelf.Strconv.SyntaxError
import Derived.Shelf.LaysC
import Derived.Shelf.Strconv.ToError
import Derived.Shelf.Strconv.Lower
import Derived.Shelf.Strconv.ParseUint10
import Derived.Shelf.Strconv.ParseUint10Empty
import Derived.Shelf.Strconv.ParseUint10Any
import Derived.Shelf.Strconv.ParseInt10
import Derived.Shelf.Strconv.AtoiLong
import Derived.Shelf.Strconv.AtoiInnerAll
import Derived.Shelf.Strconv.RangeError
import Derived.Shelf.Strconv.ToErrorRange
import Derived.Shelf.Strconv.AtoiAll
import Derived.Shelf.Strconv.ErrVarAll
import Derived.Shelf.Sort.Plain
import Derived.Shelf.Bits.Mul64
import Derived.Shelf.Slices.In.SortNone
import Derived.Test.YteonaddammjopaaGreatDoorProg
import Derived.Test.YteonaddammjopaaGreatDoorCgl11
import Derived.Sort.Row
import Derived.Sort.Grow
import Derived.Test.YteonaddammjopaaGreatDoorCgl14
import Derived.Test.YteonaddammjopaaGreatDoorCgl16
import Derived.Lib.Bytealg
import Derived.Test.YteonaddammjopaaGreatDoorCgl4
import Derived.Test.YteonaddammjopaaGreatDoorCgl3
namespace Cr
open Go Go.Proofs
set_option maxRecDepth 100000
set_option maxHeartbeats 8000000
attribute [local irreducible] Calls

end Cr
namespace Cr
open Go Go.Proofs
set_option maxRecDepth 100000
set_option maxHeartbeats 16000000
attribute [local irreducible] Calls

theorem fullB_nil : Zec [] = zero64 := by simp [Zec,zero64]
theorem Zic : zero64.length = 64 := by simp [zero64]
theorem enc_new (rd fs : List Int) {dat : List (List UInt8)} {n nb : Nat} (hd : dat.length = 1 + n + nb) (hz : ∀ i,i < n → dat.getD (1 + i) [] = zero64) : Enc rd fs (Zdi dat [(0,Zdw rd fs n)]) n nb [] := by
 have hg : ∀ k,k < dat.length → (Zdi dat [(0,Zdw rd fs n)]).getD k [] = if k = 0 then Zdw rd fs n else dat.getD k [] := fun k hk => by
  rw [Zep _ _ _ hk (fun v hv => by rw [List.mem_singleton] at hv; rw [hv]; exact Int.le_refl _),Zfb]
  by_cases h : k = 0
  ·subst h; simp [Zd1]
  ·rw [if_neg h,if_neg (by simp only; omega)]; simp [Zd1]
 refine ⟨by rw [Zb4]; exact hd,by rw [hg 0 (by omega),if_pos rfl],fun k hk => by simp [Zb9] at hk,by simp [Zb9],fun i hi => ?_,fun x hx => by simp at hx,fun x hx => by simp at hx,by simp [Zb6]⟩
 rw [hg _ (by omega),if_neg (by omega),hz i hi]
 rfl
theorem tab_new (n : Nat) : tabOf [] n = List.replicate n none := by
 apply List.ext_getElem
 ·simp [tabOf]
 ·intro i h1 h2
  simp [tabOf,getA]
theorem format_ (lp p j m n nb : Nat) (dat : List (List UInt8)) (rd fs : List Int) (W : World) (F : Nat → Prop) (hG : Gl W F rd fs) (hd : dat.length = 1 + n + nb) (h1 : 1 ≤ n) (h4 : n ≤ 400) (hnb : 1 ≤ nb) (hj : 2 ≤ j) (hm : (m : Int) < last)
  (h0 : dat.getD 0 [] = zero64) (hz : ∀ i,i < n → dat.getD (1 + i) [] = zero64) (hS : St W F [qlog lp p j m dat] W) :
  Calls Tryz.prog 81 #[.pointer (some ⟨lp,0,none⟩),.int .i64 (n : Nat)] W (Ret fun v w => ∃ tp,v = .tuple #[.pointer (some ⟨tp,0,none⟩),.int .i64 0] ∧ St W F [itab rd fs tp lp p j (m + 1) n nb (List.replicate n none)] w) := by
 have hqr : ∀ w rs,St W F (qlog lp p j m dat :: rs) w → Rd w (qlog lp p j m dat) := fun w rs h => h.rd (List.mem_cons_self ..)
 have hrd := fun w rs (h : St W F (qlog lp p j m dat :: rs) w) => qread_ lp p j m dat 0 w (hqr _ _ h) (by omega)
 rw [h0] at hrd
 have heq := fun w a c p h1 h2 => Zsz a (some ⟨p,0,none⟩) 64 64 c 64 zero64 zero64 w h1 h2 Zic Zic
 rw [decide_eq_true rfl] at heq
 refine Zas Tryz.func81 rfl Tryz.ntmps81 rfl ?_
 repeat (first|(refine G_id ?_;first|refine Zah ?_|refine Zab rfl rfl ?_)|(refine X_id ?_;first|refine X_yl (Zad rfl rfl) rfl rfl ?_|refine X_yl (Zac rfl rfl) rfl rfl ?_|refine X_yl (Zbg rfl rfl rfl) rfl rfl ?_)|(refine C_id ?_;first|refine Zak ?_|refine Zaa ?_|refine Zaq ?_|refine Zaj rfl ?_)|(refine E_id ?_;first|refine Zae ?_))
 refine Zbm _ rfl rfl rfl rfl rfl hS (may_ lp p j m n dat _ (hqr _ _ hS) h1 h4 (by omega)) ?_
 rintro _ w rfl hS
 repeat (first|(refine G_id ?_;first|refine Zah ?_|refine Zab rfl rfl ?_)|(refine X_id ?_;first|refine X_yl (Zad rfl rfl) rfl rfl ?_|refine X_yl (Zac rfl rfl) rfl rfl ?_|refine X_yl (Zbl rfl rfl) rfl rfl ?_)|(refine C_id ?_;first|refine Zak ?_|refine Zaa ?_|refine Zaw ?_|refine Zaj rfl ?_)|(refine E_id ?_;first|refine Zae ?_|refine Zbf ?_))
 refine Zan _ rfl rfl rfl rfl rfl (hrd _ _ hS) ?_
 rintro _ w ⟨a,c,rfl,hc,hS'⟩
 replace hS := hS.plus hS'
 clear hS'
 repeat (first|(refine G_id ?_;first|refine Zah ?_|refine Zab rfl rfl ?_)|(refine X_id ?_;first|refine X_yl (Zad rfl rfl) rfl rfl ?_|refine X_yl (Zac rfl rfl) rfl rfl ?_|refine X_yl (Zbq rfl rfl) rfl rfl ?_|refine X_yl (Zb1 rfl rfl rfl (by omega)) rfl rfl ?_)|(refine C_id ?_;first|refine Zak ?_|refine Zaa ?_|refine Zaw ?_|refine Zaj rfl ?_)|(refine E_id ?_;first|refine Zae ?_))
 refine Zan _ rfl rfl rfl rfl rfl (Zoi none 0 [] _ (Zka _ _)) ?_
 rintro _ w ⟨q,rfl,hS'⟩
 replace hS := hS.plus hS'
 clear hS'
 rw [fullB_nil] at hS
 repeat (first|(refine G_id ?_;first|refine Zah ?_|refine Zab rfl rfl ?_)|(refine X_id ?_;first|(refine Zan 119 rfl rfl rfl rfl rfl (heq _ a c q (hS.rd (by simp)) (hS.rd (by simp))) ?_;rintro _ _ ⟨rfl,rfl⟩)|refine X_yl (Zad rfl rfl) rfl rfl ?_|refine X_yl (Zbl rfl rfl) rfl rfl ?_)|(refine C_id ?_;first|refine Zak ?_|refine Zaa ?_|refine Zaw ?_|refine Zaj rfl ?_)|(refine E_id ?_;first|refine Zae ?_))
 refine Zan _ rfl rfl rfl rfl rfl (tfront_ n rd fs _ (hG.mono fun r hr => (hr.rd hS).ro)) ?_
 rintro _ w ⟨q2,rfl,hS'⟩
 replace hS := hS.plus hS'
 clear hS'
 repeat (first|(refine G_id ?_;first|refine Zab rfl rfl ?_)|(refine X_id ?_;first|refine X_yl (Zco rfl rfl rfl) rfl rfl ?_|refine Za6 rfl rfl rfl rfl rfl rfl rfl rfl hS (fun _ _ hS _ => ?_)))
 rename_i bw _ _
 obtain ⟨_,hc4,hr4,hw4,hbk4⟩ := hS.call [false,false,false,false,true]
 have hck : Zdm [((0 : Int),Zdw rd fs n)] = 0 := by
  have : (Zdw rd fs n).length = 64 := Zc5 _
  simp [Zdm,badW,Zcy,this]
 refine Zan _ rfl rfl rfl rfl rfl (Zsd lp p j m dat (some ⟨bw,0,none⟩) 1 [⟨0,⟨some ⟨q2,0,none⟩,64,Zdw rd fs n⟩⟩] rd fs _ _ (hG.mono hw4) ⟨?_,fun v hv => ?_⟩ (by simp) hm hck ?_ hc4) ?_
 ·have h := (hr4 (own 237 2 (some ⟨bw,0,none⟩) 1 [.int .i64 0,.slice (some ⟨q2,0,none⟩) 64 64]) (by simp)).own_row
  have e : (List.flatMap Wr.cells [⟨0,⟨some ⟨q2,0,none⟩,64,Zdw rd fs n⟩⟩]) = [.int .i64 0,.slice (some ⟨q2,0,none⟩) 64 64] := by
   have : (Zdw rd fs n).length = 64 := Zc5 _
   simp [Wr.cells,this]
  rw [e]; exact h
 ·rw [List.mem_singleton] at hv
  rw [hv]
  exact hr4 (bytes (some ⟨q2,0,none⟩) (Zdw rd fs n)) (by simp)
 ·simp [hasM,Wr.data]; omega
 rintro _ w (⟨hfull,_,_⟩ | ⟨_,rfl,hS⟩)
 ·simp only [List.length_cons,List.length_nil] at hfull; omega
 replace hS := hbk4 hS
 clear hc4 hr4 hw4 hbk4
 repeat (first|(refine G_id ?_;first|refine Zah ?_|refine Zab rfl rfl ?_)|(refine X_id ?_;first|refine X_yl (Zad rfl rfl) rfl rfl ?_|refine X_yl (Zac rfl rfl) rfl rfl ?_|refine X_yl (Zb1 rfl rfl rfl (by omega)) rfl rfl ?_)|(refine C_id ?_;first|refine Zak ?_|refine Zaa ?_|refine Zaw ?_|refine Zaj rfl ?_)|(refine E_id ?_;first|refine Zae ?_))
 refine Zno (Value.int .i64) rfl rfl rfl hS (fun r w hS => ?_)
 repeat (first|(refine G_id ?_;first|refine Zah ?_|refine Zab rfl rfl ?_)|(refine X_id ?_;first|refine X_yl (Zac rfl rfl) rfl rfl ?_|refine X_yl (Zco rfl rfl rfl) rfl rfl ?_|refine Zeg rfl rfl rfl rfl hS (fun _ _ hS _ => ?_))|(refine C_id ?_;first|refine Za2 ?_)|(refine E_id ?_;first|refine Zae ?_|refine Zdb rfl (Zap rfl) (Zap rfl) (Ret.mk ?_)))
 rename_i tp _ _
 refine ⟨tp,rfl,?_⟩
 have h := (hS.bagNil).took (out := [Zi1 tp lp n r,mapq (Value.int .i64) r [],bag [],qlog lp p j (m + 1) (Zdi dat (List.map Wr.data [⟨0,⟨some ⟨q2,0,none⟩,64,Zdw rd fs n⟩⟩]))])
 exact St.shutItab (A := []) (dat := Zdi dat [(0,Zdw rd fs n)]) ⟨tab_new n,enc_new rd fs hd hz,h1,h4,hnb⟩ h
end Cr
namespace Cr
open Go Go.Proofs
set_option maxRecDepth 100000
set_option maxHeartbeats 16000000
attribute [local irreducible] Calls

end Cr
namespace Cr
open Go Go.Proofs
set_option maxRecDepth 100000
set_option maxHeartbeats 16000000
attribute [local irreducible] Calls

theorem St.newLog {W : World} {F : Nat → Prop} {rs : List Res} {w : World} {lp p j k : Nat} (hj : j ≤ 1024) (hS : St W F (Zdr lp p 1 0 0 j 0 false :: disk p (Zcg (1 + j + k)) :: rs) w) : St W F (qlog lp p j 0 (List.replicate k zero64) :: rs) w :=
 hS.shutQlog ⟨⟨rfl,rfl,by simp [Zcg]⟩,rfl,Int.le_refl _,Int.le_refl _,hj,fun i hi => by
  rw [List.length_replicate] at hi
  simp only [Zcg,List.getD_eq_getElem?_getD,List.getElem?_replicate]
  rw [if_pos (by omega),if_pos hi]⟩
theorem Zoy {k i : Nat} (h : i < k) : (List.replicate k zero64).getD i [] = zero64 := by
 rw [List.getD_eq_getElem?_getD,List.getElem?_replicate,if_pos h]; rfl
end Cr
namespace Cr
open Go Go.Proofs
set_option maxRecDepth 100000
set_option maxHeartbeats 16000000
attribute [local irreducible] Calls

theorem small_len {s : Sto} {nb : Nat} (h : s.ok nb) : smallI (((stoB s).drop 9).take 4) = (s.nd.data.length : Nat) := by
 have := h.len
 rw [stoB_len h,Ztp (by omega) (by omega) (by omega)]
end Cr
namespace Cr
open Go Go.Proofs
set_option maxRecDepth 100000
set_option maxHeartbeats 16000000
attribute [local irreducible] Calls

end Cr
namespace Cr
open Go Go.Proofs
set_option maxRecDepth 100000
set_option maxHeartbeats 16000000
attribute [local irreducible] Calls

end Cr
namespace Go.Proofs
open Go.Shelf
def Tryz.lays189_ren : Go.Shelf.Ren := ⟨fun | 189 => 238 | 125 => 254 | 257 => 253 | 128 => 273 | 129 => 154 | 294 => 264 | 295 => 265 | 296 => 266 | 297 => 267 | 298 => 268 | 299 => 269 | 216 => 270 | 300 => 271 | 301 => 272 | 328 => 279 | 329 => 280 | 330 => 281 | 331 => 282 | 332 => 283 | 215 => 284 | 343 => 288 | n => n,fun | 28 => 303 | 3 => 3 | 46 => 97 | 0 => 0 | 51 => 90 | 53 => 55 | 4 => 4 | 183 => 378 | 182 => 377 | 131 => 50 | 5 => 5 | 9 => 9 | 218 => 389 | 222 => 393 | 228 => 401 | 229 => 402 | n => n,fun | n => n⟩
theorem Tryz.lays189 : Go.Proofs.Lays.n189 Tryz.prog Tryz.lays189_ren := {
 mixed := by kernel_rfl
 f125 := Tryz.func254.trans (congrArg some (by kernel_rfl))
 f128 := Tryz.func273.trans (congrArg some (by kernel_rfl))
 f129 := Tryz.func154.trans (congrArg some (by kernel_rfl))
 f189 := Tryz.func238.trans (congrArg some (by kernel_rfl))
 f215 := Tryz.func284.trans (congrArg some (by kernel_rfl))
 f216 := Tryz.func270.trans (congrArg some (by kernel_rfl))
 f257 := Tryz.func253.trans (congrArg some (by kernel_rfl))
 f294 := Tryz.func264.trans (congrArg some (by kernel_rfl))
 f295 := Tryz.func265.trans (congrArg some (by kernel_rfl))
 f296 := Tryz.func266.trans (congrArg some (by kernel_rfl))
 f297 := Tryz.func267.trans (congrArg some (by kernel_rfl))
 f298 := Tryz.func268.trans (congrArg some (by kernel_rfl))
 f299 := Tryz.func269.trans (congrArg some (by kernel_rfl))
 f300 := Tryz.func271.trans (congrArg some (by kernel_rfl))
 f301 := Tryz.func272.trans (congrArg some (by kernel_rfl))
 f328 := Tryz.func279.trans (congrArg some (by kernel_rfl))
 f329 := Tryz.func280.trans (congrArg some (by kernel_rfl))
 f330 := Tryz.func281.trans (congrArg some (by kernel_rfl))
 f331 := Tryz.func282.trans (congrArg some (by kernel_rfl))
 f332 := Tryz.func283.trans (congrArg some (by kernel_rfl))
 f343 := Tryz.func288.trans (congrArg some (by kernel_rfl))
 t0 := Tryz.underlying0
 a0 := Tryz.isAgg0
 z0 := Tryz.sizeOf0
 v0 := Tryz.zeroValue0
 t3 := Tryz.underlying3
 a3 := Tryz.isAgg3
 z3 := Tryz.sizeOf3
 v3 := Tryz.zeroValue3
 t4 := Tryz.underlying4
 a4 := Tryz.isAgg4
 z4 := Tryz.sizeOf4
 v4 := Tryz.zeroValue4
 t5 := Tryz.underlying5
 a5 := Tryz.isAgg5
 z5 := Tryz.sizeOf5
 v5 := Tryz.zeroValue5
 t9 := Tryz.underlying9
 a9 := Tryz.isAgg9
 z9 := Tryz.sizeOf9
 v9 := Tryz.zeroValue9
 t28 := Tryz.underlying303
 a28 := Tryz.isAgg303
 z28 := Tryz.sizeOf303
 v28 := Tryz.zeroValue303
 t46 := Tryz.underlying97
 a46 := Tryz.isAgg97
 z46 := Tryz.sizeOf97
 v46 := Tryz.zeroValue97
 t51 := Tryz.underlying90
 a51 := Tryz.isAgg90
 z51 := Tryz.sizeOf90
 v51 := Tryz.zeroValue90
 t53 := Tryz.underlying55
 a53 := Tryz.isAgg55
 z53 := Tryz.sizeOf55
 v53 := Tryz.zeroValue55
 t131 := Tryz.underlying50
 a131 := Tryz.isAgg50
 z131 := Tryz.sizeOf50
 v131 := Tryz.zeroValue50
 t182 := Tryz.underlying377
 a182 := Tryz.isAgg377
 z182 := Tryz.sizeOf377
 v182 := Tryz.zeroValue377
 t183 := Tryz.underlying378
 a183 := Tryz.isAgg378
 z183 := Tryz.sizeOf378
 v183 := Tryz.zeroValue378
 t218 := Tryz.underlying389
 a218 := Tryz.isAgg389
 z218 := Tryz.sizeOf389
 v218 := Tryz.zeroValue389
 t222 := Tryz.underlying393
 a222 := Tryz.isAgg393
 z222 := Tryz.sizeOf393
 v222 := Tryz.zeroValue393
 t228 := Tryz.underlying401
 a228 := Tryz.isAgg401
 z228 := Tryz.sizeOf401
 v228 := Tryz.zeroValue401
 t229 := Tryz.underlying402
 a229 := Tryz.isAgg402
 z229 := Tryz.sizeOf402
 v229 := Tryz.zeroValue402 }
open Go.Sort Go.RowKit in
theorem Tryz.slices_Sort_int (blk off cap : Nat) (zs : List Int) (w : World) (hH : Holds (Value.int .i64) w blk off zs.toArray) (hblk : blk < w.heap.size) (hsz : zs.length < 4611686018427387904) :
  Calls Tryz.prog 238 #[.slice (some ⟨blk,off,none⟩) zs.length cap] w fun e w' =>
   e = .returned (.tuple #[]) ∧ ∃ n os,w' = grow (putRow (Value.int .i64) (Sort.ahead w n) blk off (zs.mergeSort fun x y => decide (x ≤ y)).toArray) os := Any.slices_Sort_int Tryz.lays189 blk off cap zs w hH hblk hsz
open Go.RowKit Go.Sort in
theorem Tryz.slices_Sort_int_none (p : Option Addr) (cap : Nat) (w : World) :
  Calls Tryz.prog 238 #[.slice p 0 cap] w fun e w' => e = .returned (.tuple #[]) ∧ w' = w := Any.slices_Sort_int_none Tryz.lays189 p cap w
end Go.Proofs
namespace Cr
open Go Go.Proofs
set_option maxRecDepth 100000
set_option maxHeartbeats 16000000
attribute [local irreducible] Calls

theorem St.sorted {W : World} {F : Nat → Prop} {rs : List Res} {w : World} {T : TypeId} {b c : Nat} {P : List Int} (Q : List Int) (hQ : Q.length = P.length) (hpos : 0 < P.length) (n : Nat) (os : Array Obj) (hS : St W F (own T 1 (some ⟨b,0,none⟩) c (ints .i64 P) :: rs) w) :
  St W F (own T 1 (some ⟨b,0,none⟩) c (ints .i64 Q) :: rs) (Sort.grow (Sort.putRow (Value.int .i64) (Sort.ahead w n) b 0 Q.toArray) os) := by
 obtain ⟨g,⟨g1,g2,hown,hrest,hdj,hun⟩,s⟩ := hS
 obtain ⟨hle,hcm,⟨rfl,_⟩ | ⟨b',cells,hbe,rfl,hcz,ht⟩⟩ := hown
 ·rw [Nat.zero_mul,ints_length] at hle; omega
 ·obtain rfl : b = b' := by simpa using hbe
  have hb : w.heap[b]? = some (.cells cells T (0,0)) := s.agrees b _ (by rw [hun,Zbz]; rfl)
  have hS2 : St W F (pts b (.cells cells T (0,0)) :: rs) w := ⟨g,⟨_,g2,rfl,hrest,hdj,hun⟩,s⟩
  have u : SetBlock w (Sort.putRow (Value.int .i64) (Sort.ahead w n) b 0 Q.toArray) b (.cells (Sort.putCells (Value.int .i64) 0 Q.toArray cells) T (0,0)) := by
   refine ⟨by simp,?_,fun k hk => ?_,rfl,rfl,rfl⟩
   ·simp only [Sort.putRow,Sort.mapBlock,Sort.heap_ahead]
    rw [Array.getElem?_modify,if_pos rfl,hb]; rfl
   ·simp only [Sort.putRow,Sort.mapBlock,Sort.heap_ahead]
    rw [Array.getElem?_modify,if_neg (Ne.symm hk)]
  have hS3 := hS2.set u
  have hbel : RowKit.Below (Sort.putRow (Value.int .i64) (Sort.ahead w n) b 0 Q.toArray).heap.size (Sort.putRow (Value.int .i64) (Sort.ahead w n) b 0 Q.toArray) (Sort.grow (Sort.putRow (Value.int .i64) (Sort.ahead w n) b 0 Q.toArray) os) :=
   ⟨rfl,rfl,rfl,by simp [Sort.grow],fun k hk => by
    simp only [Sort.grow]
    rw [Array.getElem?_append_left hk]⟩
  refine (hS3.below hbel).head fun h hh => ?_
  have hPl : P.length ≤ cells.size := by rw [ints_length] at hle; omega
  have key := Zcs (T := T) (e := 1) (c := c) (b := b) (l := (Sort.putCells (Value.int .i64) 0 Q.toArray cells).toList) (cs := ints .i64 Q) (by simp [Sort.putCells,hcz]) hcm (by
   apply List.ext_getElem?
   intro k
   rw [List.getElem?_take,ints_length]
   by_cases hk : k < Q.length
   ·rw [if_pos hk]
    simp only [Sort.putCells,Array.toList_mapIdx,List.getElem?_mapIdx]
    have hkc : k < cells.toList.length := by simp; omega
    rw [List.getElem?_eq_getElem hkc]
    simp [ints,hk]
   ·rw [if_neg hk,List.getElem?_eq_none (by rw [ints_length]; omega)])
  exact key h (by simpa using hh)
theorem St.ownHolds {W : World} {F : Nat → Prop} {rs : List Res} {w : World} {T b c : Nat} {P : List Int} (hS : St W F (own T 1 (some ⟨b,0,none⟩) c (ints .i64 P) :: rs) w) (hpos : 0 < P.length) : Sort.Holds (Value.int .i64) w b 0 P.toArray ∧ b < w.heap.size := by
 obtain ⟨g,⟨g1,g2,hown,hrest,hdj,hun⟩,s⟩ := hS
 obtain ⟨hle,hcm,⟨rfl,_⟩ | ⟨b',cells,hbe,rfl,hcz,ht⟩⟩ := hown
 ·rw [Nat.zero_mul,ints_length] at hle; omega
 ·obtain rfl : b = b' := by simpa using hbe
  have hb : w.heap[b]? = some (.cells cells T (0,0)) := s.agrees b _ (by rw [hun,Zbz]; rfl)
  refine ⟨fun j hj => ?_,Zdg hb⟩
  have hj : j < P.length := by simpa using hj
  rw [Nat.zero_add]
  refine ⟨?_,frozen_of_row w b j cells T hb⟩
  rw [cell_of_row w b j cells T (0,0) hb]
  have h1 := congrArg (fun l => l[j]?) ht
  simp only [List.getElem?_take,ints_length,hj,if_true] at h1
  rw [ints_get hj] at h1
  have e : P.toArray[j]! = P.getD j 0 := by
   rw [getElem!_pos _ j (by simpa using hj)]
   simp [List.getD_eq_getElem?_getD,hj]
  rw [e]
  simpa using h1
theorem keys1_ (l bx r : Nat) (A : AV) (T : TypeId) (w : World) (W : World) (F : Nat → Prop) (S : List Int → List Res) (hm : Ro W F (mapq (Value.int .i64) r A.vals)) (hbx : Ro W F (pts bx (.cells #[.map (some r)] T)))
  (hstep : ∀ (P : List Int) (k : Int) (it : Nat) (o : Obj) (w : World),P.length < A.length → St W F (pts it o :: S P) w → ∃ rc : Loop,rc.params.size = 1 ∧ w.heap[l]? = some (.loop rc) ∧
   RoundIn Fence.wide 0 Tryz.prog l rc.fn ((rc.params.zip #[.int .i64 k]).foldl (fun tmps (t,a) => tmps.setIfInBounds t a) rc.tmps) rc.assign rc.body w (Ret fun v w' => v = .bool true ∧ St W F (pts it o :: S (P ++ [k])) w'))
  (hS : St W F (S []) w) :
  CallsIn Fence.wide 0 Tryz.prog 239 #[.func (.yield l) #[] #[],.pointer (some ⟨bx,0,none⟩)] w (Ret fun _ w' => ∃ P it o,P.Perm (Zb9 A) ∧ St W F (pts it o :: S P) w') := by
 refine callsIn_wide.2 ?_
 obtain ⟨es,clock,hes,hst,hmp⟩ := hm.openMap
 refine Zas Tryz.func239 rfl Tryz.ntmps239 rfl ?_
 repeat (first|(refine G_id ?_;first|refine Zab rfl rfl ?_)|(refine C_id ?_;first|refine Zak ?_|refine Zaa ?_))
 refine X_yl (Zao rfl rfl ((cell_of_row _ bx 0 #[.map (some r)] T (0,0) (hbx.rd hS).pts).trans rfl)) rfl rfl ?_
 repeat (first|(refine G_id ?_;first|refine Zab rfl rfl ?_))
 refine Znn rfl rfl (hmp.rd hS) rfl rfl hS (fun it w hS _ => ?_)
 repeat (first|(refine G_id ?_;first|refine Zah ?_)|(refine C_id ?_;first|refine Zaq ?_)|(refine E_id ?_;first|refine Zae ?_))
 refine Zb7 (α := Array Nat × List Int) (fun _ => [(0,.func (.yield l) #[] #[]),(5,.pointer (some ⟨it,0,none⟩))])
  (fun z w => (z.2.map (Value.int .i64) ++ (Zeo es z.1).map (·.key)).Perm (es.toList.map (·.key)) ∧ St W F (pts it (.mapIter (some r) clock z.1 clock) :: S z.2) w) (fun z => (Zeo es z.1).length) (#[],[]) ⟨rfl,rfl,trivial⟩ ⟨by rw [Zln]; exact List.Perm.refl _,hS⟩ ?_
 clear hS
 rintro ⟨seen,P⟩ w ⟨hp,hS⟩
 simp only at hp hS ⊢
 have hek : es.toList.map (·.key) = (Zb9 A).map (Value.int .i64) := by
  have e1 : es.toList.map (·.key) = (kvs es).map (·.1) := by simp [kvs,Function.comp_def]
  rw [e1,hes]
  simp [AV.vals,Zb9,Function.comp_def]
 repeat (first|(refine G_id ?_;first|refine Zab rfl rfl ?_)|(refine C_id ?_;first|refine Zak ?_|refine Zaa ?_))
 refine Zqm rfl rfl hst (hmp.rd hS) rfl rfl hS (fun h0 => ?_) (fun e he w hS => ?_)
 ·repeat (first|(refine G_id ?_;first|refine Zah ?_|refine Zab rfl rfl ?_)|(refine X_id ?_;first|refine X_yl (Zbq rfl rfl) rfl rfl ?_)|(refine C_id ?_;first|refine Zak ?_|refine Zb0 ?_|refine Zaj rfl ?_)|(refine E_id ?_;first|refine Zae ?_|refine Zav ?_|refine Zaz ?_|refine Zer rfl (Ret.mk ?_)))
  rw [h0,List.map_nil,List.append_nil,hek] at hp
  have hp2 := hp.map (fun v => match v with | Value.int _ i => i | _ => 0)
  simp only [List.map_map,Function.comp_def,List.map_id'] at hp2
  exact ⟨P,it,_,hp2,hS⟩
 ·have hel : e ∈ es.toList := (List.mem_filter.1 he).1
  have hstep2 := Zm7 hst he
  obtain ⟨x,hxA,hk,hv⟩ := Zs1 hes hel
  have hlt : (Zeo es (seen.push e.born)).length < (Zeo es seen).length := by rw [hstep2.length_eq]; simp
  have hp3 : ((P ++ [x.1]).map (Value.int .i64) ++ (Zeo es (seen.push e.born)).map (·.key)).Perm (es.toList.map (·.key)) := by
   refine List.Perm.trans ?_ hp
   rw [List.map_append,List.append_assoc]
   refine List.Perm.append_left _ ?_
   have := (hstep2.map (·.key)).symm
   rw [List.map_cons,hk] at this
   exact this
  repeat (first|(refine G_id ?_;first|refine Zah ?_|refine Zab rfl rfl ?_)|(refine X_id ?_;first|refine X_yl (Zbq rfl rfl) rfl rfl ?_)|(refine C_id ?_;first|refine Zak ?_|refine Zaa ?_|refine Zaq ?_|refine Zaw ?_|refine Zam rfl ?_)|(refine E_id ?_;first|refine Zae ?_))
  refine X_yl (Ztg rfl rfl hst hel hS.has (hmp.rd hS).pts) rfl rfl ?_
  rw [hk]
  iterate 12 (first | (refine G_id ?_; first | refine Zah ?_ | refine Zab rfl rfl ?_) | (refine X_id ?_; first | refine X_yl (Zad rfl rfl) rfl rfl ?_ | refine X_yl (Zac rfl rfl) rfl rfl ?_ | refine X_yl (Zbq rfl rfl) rfl rfl ?_) | (refine C_id ?_; first | refine Zak ?_ | refine Zaa ?_) | (refine E_id ?_; first | refine Zae ?_))
  have hPl : P.length < A.length := by
   have h1 := hp3.length_eq
   rw [hek] at h1
   simp [Zb9] at h1
   omega
  obtain ⟨rc,hps,hl,hr⟩ := hstep P x.1 it _ w hPl hS
  refine G_yield rfl rfl rfl rfl rfl rfl hl (by rw [hps]; rfl) hr ?_
  rintro v w' ⟨rfl,hS⟩
  repeat (first|(refine G_id ?_;first|refine Zah ?_|refine Zab rfl rfl ?_)|(refine X_id ?_;first|refine X_yl (Zbl rfl rfl) rfl rfl ?_)|(refine C_id ?_;first|refine Zaw ?_|refine Zaj rfl ?_)|(refine E_id ?_;first|refine Zae ?_|refine Zbf ?_))
  exact Zbu (z := (seen,P)) (seen.push e.born,P ++ [x.1]) ⟨rfl,rfl,trivial⟩ ⟨hp3,hS⟩ hlt
theorem Fr.round1 {σ : Env} {N : Nat} {tm : Array Value} (hsz : tm.size = N) (h : ∀ n v,look σ n = some v → tm[n]? = some v) (l : Nat) {a : Nat} (x : Value) (ha : a < N) :
  Fr ((a,x) :: σ) N ⟨[],some l⟩ { tmps := (#[a].zip #[x]).foldl (fun tmps (t,v) => tmps.setIfInBounds t v) tm,defers := [] } := by
 have := (Fr.round (σ := σ) (N := N) hsz h l).put ha x
 simpa [Act.put] using this
def seqR (b : Nat) (P : List Int) : Res := fun h => ∃ a c,P.length ≤ c ∧ Sep [pts b (.cells #[.slice a P.length c] 303),own 3 1 a c (ints .i64 P)] h
theorem St.openSeq {W : World} {F : Nat → Prop} {b : Nat} {P : List Int} {rs : List Res} {w : World} (hS : St W F (seqR b P :: rs) w) : ∃ a c,P.length ≤ c ∧ St W F (pts b (.cells #[.slice a P.length c] 303) :: own 3 1 a c (ints .i64 P) :: rs) w := by
 obtain ⟨h,⟨h1,h2,⟨a,c,hc,hs⟩,hr,hd,hu⟩,s⟩ := hS
 exact ⟨a,c,hc,h,Sep.append_mk hs hr hd hu,s⟩
theorem St.shutSeq {W : World} {F : Nat → Prop} {b c : Nat} {a : Option Addr} {P : List Int} {rs : List Res} {w : World} (hc : P.length ≤ c) (hS : St W F (pts b (.cells #[.slice a P.length c] 303) :: own 3 1 a c (ints .i64 P) :: rs) w) : St W F (seqR b P :: rs) w :=
 St.shutR (rs' := [pts b (.cells #[.slice a P.length c] 303),own 3 1 a c (ints .i64 P)]) hS fun _ hh => ⟨a,c,hc,hh⟩
theorem appendSeq_ (bx r : Nat) (A : AV) (T : TypeId) (W : World) (hm : Rd W (mapq (Value.int .i64) r A.vals)) (hbx : Rd W (pts bx (.cells #[.map (some r)] T))) (hAl : A.length ≤ 1000) :
  Calls Tryz.prog 252 #[.slice none 0 0,.func (.func 239) #[] #[.pointer (some ⟨bx,0,none⟩)]] W (Ret fun v w => ∃ P a c,v = .slice a P.length c ∧ P.length ≤ c ∧ P.Perm (Zb9 A) ∧ St W noF [own 3 1 a c (ints .i64 P)] w) := by
 have hmo := hm.ro
 have hbo := hbx.ro
 have hS := St.start W
 refine Zas Tryz.func252 rfl Tryz.ntmps252 rfl ?_
 repeat (first|(refine G_id ?_;first|refine Zah ?_|refine Zab rfl rfl ?_)|(refine X_id ?_;first|refine X_yl (Zad rfl rfl) rfl rfl ?_|refine X_yl (Zac rfl rfl) rfl rfl ?_|refine Zeg rfl rfl rfl rfl hS (fun _ _ hS _ => ?_))|(refine C_id ?_;first|refine Zak ?_|refine Zaa ?_|refine Zaq ?_)|(refine E_id ?_;first|refine Zae ?_))
 rename_i b2 _ _
 have hS := hS.own_none 3 1 none
 have hS : St W noF [seqR b2 []] _ := (hS.pick [1,0]).shutSeq (Nat.le_refl _)
 refine Zmk (first := []) (captured := [.pointer (some ⟨bx,0,none⟩)])
  (fun l rr j w => j = none ∧ ∃ P it o lo,P.Perm (Zb9 A) ∧ St W noF [pts l lo,pts rr (.deferred (some [])),pts it o,seqR b2 P] w) rfl rfl hS ?_ ?_ ?_
 ·intro Aa B hA hB fn tm l rr w1 htm hlook hS
  refine Zj2 (keys1_ l bx r A T w1 W noF (fun P => [pts l (.loop (recd fn tm #[7] Aa B rr .ready none)),pts rr (.deferred (some [])),seqR b2 P]) hmo hbo ?_ hS) ?_
  ·intro P k it o w hPl hS
   refine ⟨_,rfl,hS.has (b := l),?_⟩
   show RoundIn Fence.wide 0 Tryz.prog l fn ((#[7].zip _).foldl _ tm) Aa B w _
   refine round_C (Fr.round1 (a := 7) htm hlook l (.int .i64 k) (by decide)) ?_
   refine C_eq hA ?_
   repeat (first|(refine G_id ?_;first|refine Zah ?_|refine Zab rfl rfl ?_)|(refine X_id ?_;first|refine X_yl (Zac rfl rfl) rfl rfl ?_)|(refine C_id ?_;first|refine Zaa ?_))
   refine Zrz (hS.has (b := l)) (fun w hset => ?_)
   replace hS := hS.upd hset
   refine C_eq hB ?_
   obtain ⟨a,c,hc,hS⟩ := (hS.pick [3,0,0,0]).openSeq
   repeat (first|(refine G_id ?_;first|refine Zab rfl rfl ?_)|(refine X_id ?_;first|refine X_yl (Zad rfl rfl) rfl rfl ?_|refine X_yl (Zao rfl rfl hS.cell) rfl rfl ?_|refine Za6 rfl rfl rfl rfl rfl rfl rfl rfl hS (fun _ _ hS _ => ?_))|(refine C_id ?_;first|refine Zaa ?_|refine Zaq ?_))
   refine Zc4 (m := 1) rfl rfl rfl rfl rfl hS (by rw [ints_length,Nat.mul_one]) hc ((hS.rd (List.mem_cons_self ..)).own_row) (by simp) (by simp [Value.oneCell']) (by omega) (by simp only [maxLen]; omega) (fun a' c' w hS hc' _ => ?_)
   repeat (first|(refine G_id ?_;first|refine Zah ?_|refine Zab rfl rfl ?_)|(refine X_id ?_;first|refine Za1 rfl rfl rfl rfl hS (fun _ hS _ => ?_))|(refine E_id ?_;first|refine Zbf ?_))
   refine Zqp (hS.has (b := l)) (fun w hset => ⟨_,rfl,rfl,?_⟩)
   replace hS := hS.upd hset
   have h := hS.took (out := [pts b2 (.cells #[.slice a' (P.length + 1) c'] 303),own 3 1 a' c' (ints .i64 P ++ [.int .i64 k]),pts it o,pts l (.loop (recd fn tm #[7] Aa B rr .ready none)),pts rr (.deferred (some []))])
   have h2 : St W noF [seqR b2 (P ++ [k]),pts it o,pts l (.loop (recd fn tm #[7] Aa B rr .ready none)),pts rr (.deferred (some []))] w := St.shutSeq (b := b2) (P := P ++ [k]) (a := a') (c := c') (by simpa using hc') (by rw [Zlp,List.length_append]; exact h)
   exact h2.pick [1,1,1,0]
  ·rintro _ w3 ⟨P,it,o,hp,hS⟩
   exact ⟨_,_,by simp,hS.has (b := l),fun w4 hset => ⟨rfl,P,it,o,_,hp,(hS.upd hset).pick [1,1,0,0]⟩⟩
 ·rintro l rr w4 ⟨_,P,it,o,lo,hp,hS⟩
  obtain ⟨a,c,hc,hS⟩ := (hS.pick [3,0,0,0]).openSeq
  repeat (first|(refine G_id ?_;first|refine Zah ?_|refine Zab rfl rfl ?_)|(refine X_id ?_;first|refine X_yl (Zac rfl rfl) rfl rfl ?_|refine X_yl (Zao rfl rfl hS.cell) rfl rfl ?_)|(refine C_id ?_;first|refine Zak ?_|refine Zaa ?_|refine Za2 ?_)|(refine E_id ?_;first|refine Zae ?_|refine Zox rfl ?_|refine Zbf ?_))
  refine E_mark (.inl rfl) hS.has (fun w hset => ?_)
  replace hS := hS.upd hset
  repeat (first|(refine E_id ?_;first|refine Zax rfl (Zap rfl) (Ret.mk ?_)))
  exact ⟨P,a,c,rfl,hc,hp,hS.took⟩
 ·rintro l rr c w4 hJ
  cases hJ.1
theorem collect_ (bx r : Nat) (A : AV) (T : TypeId) (W : World) (hm : Rd W (mapq (Value.int .i64) r A.vals)) (hbx : Rd W (pts bx (.cells #[.map (some r)] T))) (hAl : A.length ≤ 1000) :
  Calls Tryz.prog 237 #[.func (.func 239) #[] #[.pointer (some ⟨bx,0,none⟩)]] W (Ret fun v w => ∃ P a c,v = .slice a P.length c ∧ P.length ≤ c ∧ P.Perm (Zb9 A) ∧ St W noF [own 3 1 a c (ints .i64 P)] w) := by
 have hmo := hm.ro
 have hbo := hbx.ro
 have hS := St.start W
 refine Zas Tryz.func237 rfl Tryz.ntmps237 rfl ?_
 repeat (first|(refine G_id ?_;first|refine Zah ?_|refine Zab rfl rfl ?_)|(refine X_id ?_;first|refine X_yl (Zad rfl rfl) rfl rfl ?_|refine X_yl (Zac rfl rfl) rfl rfl ?_)|(refine C_id ?_;first|refine Zak ?_|refine Zaa ?_)|(refine E_id ?_;first|refine Zae ?_))
 refine Zan _ rfl rfl rfl rfl rfl (appendSeq_ bx r A T _ (hmo.rd hS) (hbo.rd hS) hAl) ?_
 rintro _ w ⟨P,a,c,rfl,hc,hp,hS'⟩
 replace hS := hS.plus hS'
 clear hS'
 repeat (first|(refine G_id ?_;first|refine Zah ?_|refine Zab rfl rfl ?_)|(refine X_id ?_;first|refine X_yl (Zac rfl rfl) rfl rfl ?_)|(refine C_id ?_;first|refine Za2 ?_)|(refine E_id ?_;first|refine Zae ?_|refine Zax rfl (Zap rfl) (Ret.mk ?_)))
 exact ⟨P,a,c,rfl,hc,hp,hS.took⟩
theorem sort0_ (a : Option Addr) (c : Nat) (w : World) : Calls Tryz.prog 238 #[.slice a 0 c] w (Ret fun _ w' => w' = w) :=
 (Tryz.slices_Sort_int_none a c w).mono fun _ _ h => ⟨_,h.1,h.2⟩
theorem sortI_ (b c : Nat) (P : List Int) (w : World) (hH : Sort.Holds (Value.int .i64) w b 0 P.toArray) (hlt : b < w.heap.size) (hl : P.length < 4611686018427387904) :
  Calls Tryz.prog 238 #[.slice (some ⟨b,0,none⟩) P.length c] w (Ret fun _ w' => ∃ n os,w' = Sort.grow (Sort.putRow (Value.int .i64) (Sort.ahead w n) b 0 (P.mergeSort fun x y => decide (x ≤ y)).toArray) os) :=
 (Tryz.slices_Sort_int b 0 c P w hH hlt hl).mono fun _ _ h => ⟨_,h.1,h.2⟩
theorem sorted_ (bx r : Nat) (A : AV) (T : TypeId) (W : World) (hm : Rd W (mapq (Value.int .i64) r A.vals)) (hbx : Rd W (pts bx (.cells #[.map (some r)] T))) (hAl : A.length ≤ 1000) :
    Calls Tryz.prog 216 #[.func (.func 239) #[] #[.pointer (some ⟨bx,0,none⟩)]] W (Ret fun v w => ∃ P a c,v = .slice a P.length c ∧ P.length ≤ c ∧ P.Perm (Zb9 A) ∧ P.Pairwise (· ≤ ·) ∧ St W noF [own 3 1 a c (ints .i64 P)] w) := by
  have hmo := hm.ro
  have hbo := hbx.ro
  have hS := St.start W
  refine Zas Tryz.func216 rfl Tryz.ntmps216 rfl ?_
  repeat (first|(refine G_id ?_;first|refine Zah ?_|refine Zab rfl rfl ?_)|(refine X_id ?_;first|refine X_yl (Zad rfl rfl) rfl rfl ?_|refine X_yl (Zac rfl rfl) rfl rfl ?_)|(refine C_id ?_;first|refine Zak ?_|refine Zaa ?_)|(refine E_id ?_;first|refine Zae ?_))
  refine Zan _ rfl rfl rfl rfl rfl (collect_ bx r A T _ (hmo.rd hS) (hbo.rd hS) hAl) ?_
  rintro _ w ⟨P,a,c,rfl,hc,hp,hS'⟩
  replace hS := hS.plus hS'
  clear hS'
  repeat (first|(refine G_id ?_;first|refine Zah ?_|refine Zab rfl rfl ?_)|(refine X_id ?_;first|refine X_yl (Zad rfl rfl) rfl rfl ?_|refine X_yl (Zac rfl rfl) rfl rfl ?_)|(refine C_id ?_;first|refine Zak ?_|refine Zaa ?_)|(refine E_id ?_;first|refine Zae ?_))
  by_cases h0 : P.length = 0
  · obtain rfl : P = [] := List.length_eq_zero_iff.1 h0
    refine Zan _ rfl rfl rfl rfl rfl (sort0_ a c _) ?_
    rintro v w' rfl
    repeat (first|(refine G_id ?_;first|refine Zah ?_|refine Zab rfl rfl ?_)|(refine X_id ?_;first|refine X_yl (Zad rfl rfl) rfl rfl ?_|refine X_yl (Zac rfl rfl) rfl rfl ?_)|(refine C_id ?_;first|refine Zak ?_|refine Zaa ?_|refine Za2 ?_)|(refine E_id ?_;first|refine Zae ?_|refine Zax rfl (Zap rfl) (Ret.mk ?_)))
    exact ⟨[],a,c,rfl,hc,hp,List.Pairwise.nil,hS.took⟩
  · obtain ⟨b,rfl⟩ := hS.ownBase (by intro e; exact h0 (by simpa [ints] using congrArg List.length e))
    obtain ⟨hH,hlt⟩ := hS.ownHolds (by omega)
    have hlen := hp.length_eq
    rw [show (Zb9 A).length = A.length by simp [Zb9]] at hlen
    refine Zan _ rfl rfl rfl rfl rfl (sortI_ b c P _ hH hlt (by omega)) ?_
    rintro v w' ⟨n,os,rfl⟩
    have hPm : (P.mergeSort fun x y => decide (x ≤ y)).length = P.length := List.length_mergeSort _
    replace hS := hS.sorted (P.mergeSort fun x y => decide (x ≤ y)) hPm (by omega) n os
    repeat (first|(refine G_id ?_;first|refine Zah ?_|refine Zab rfl rfl ?_)|(refine X_id ?_;first|refine X_yl (Zad rfl rfl) rfl rfl ?_|refine X_yl (Zac rfl rfl) rfl rfl ?_)|(refine C_id ?_;first|refine Zak ?_|refine Zaa ?_|refine Za2 ?_)|(refine E_id ?_;first|refine Zae ?_|refine Zax rfl (Zap rfl) (Ret.mk ?_)))
    refine ⟨P.mergeSort fun x y => decide (x ≤ y),_,c,by rw [hPm],by rw [hPm]; exact hc,(List.mergeSort_perm _ _).trans hp,?_,hS.took⟩
    have := List.pairwise_mergeSort (le := fun x y => decide (x ≤ y)) (fun a b c h1 h2 => by simp only [decide_eq_true_eq] at h1 h2 ⊢; omega) (fun a b => by simp only [Bool.or_eq_true,decide_eq_true_eq]; omega) P
    exact this.imp (fun h => by simpa using h)
theorem mkeys_ (r : Nat) (W : World) : Calls Tryz.prog 217 #[.map (some r)] W (Ret fun v w => ∃ bx,v = .func (.func 239) #[] #[.pointer (some ⟨bx,0,none⟩)] ∧ St W noF [pts bx (.cells #[.map (some r)] 238)] w) := by
 have hS := St.start W
 refine Zas Tryz.func217 rfl Tryz.ntmps217 rfl ?_
 repeat (first|(refine G_id ?_;first|refine Zah ?_|refine Zab rfl rfl ?_)|(refine X_id ?_;first|refine X_yl (Zac rfl rfl) rfl rfl ?_|refine X_yl (Zdz rfl rfl rfl) rfl rfl ?_|refine Zeg rfl rfl rfl rfl hS (fun _ _ hS _ => ?_))|(refine C_id ?_;first|refine Zak ?_|refine Zaa ?_|refine Za2 ?_)|(refine E_id ?_;first|refine Zae ?_|refine Zax rfl (Zap rfl) (Ret.mk ?_)))
 exact ⟨_,rfl,hS.took⟩
def Zkc (T : Tb) : List Int := ((List.range T.length).filter fun i => (T.getD i none).isSome).map fun i => ((i : Nat) : Int)
theorem Zo3 (T : Tb) : (Zkc T).Pairwise (· < ·) := by
  unfold Zkc
  rw [List.pairwise_map]
  exact (List.pairwise_lt_range.sublist List.filter_sublist).imp (fun h => by omega)
theorem Zmy : ∀ {P Q : List Int},P.Pairwise (· < ·) → Q.Pairwise (· < ·) → (∀ x,x ∈ P ↔ x ∈ Q) → P = Q
  | [],[],_,_,_ => rfl
  | [],y :: Q,_,_,h => absurd ((h y).2 (List.mem_cons_self ..)) (List.not_mem_nil)
  | x :: P,[],_,_,h => absurd ((h x).1 (List.mem_cons_self ..)) (List.not_mem_nil)
  | x :: P,y :: Q,hP,hQ,h => by
    have hP' := List.pairwise_cons.1 hP
    have hQ' := List.pairwise_cons.1 hQ
    have e : x = y := by
      rcases List.mem_cons.1 ((h x).1 (List.mem_cons_self ..)) with e | hx
      · exact e
      · rcases List.mem_cons.1 ((h y).2 (List.mem_cons_self ..)) with e | hy
        · exact e.symm
        · have h1 := hQ'.1 x hx
          have h2 := hP'.1 y hy
          omega
    subst e
    congr 1
    refine Zmy hP'.2 hQ'.2 fun z => ⟨fun hz => ?_,fun hz => ?_⟩
    · rcases List.mem_cons.1 ((h z).1 (List.mem_cons_of_mem _ hz)) with e | hz'
      · subst e; exact absurd (hP'.1 z hz) (by omega)
      · exact hz'
    · rcases List.mem_cons.1 ((h z).2 (List.mem_cons_of_mem _ hz)) with e | hz'
      · subst e; exact absurd (hQ'.1 z hz) (by omega)
      · exact hz'
section
variable {rd fs : List Int} {tp lp p j m n nb : Nat} {T : Tb}
theorem Ztj {A : AV} {dat : List (List UInt8)} (h : TabOk rd fs n nb T A dat) {P : List Int} (hp : P.Perm (Zb9 A)) (hs : P.Pairwise (· ≤ ·)) : P = Zkc T := by
  have hn : P.Nodup := hp.nodup_iff.2 (by rw [← Zpp]; exact h.enc.nodup)
  refine Zmy ?_ (Zo3 T) fun x => ?_
  · have := hs.and hn
    exact this.imp (fun h => by omega)
  · rw [hp.mem_iff]
    have hat := h.at_ x
    have hk : x ∈ Zb9 A ↔ (atT T x).isSome = true := by
      rw [← hat,Option.isSome_map]
      have := getA_none (k := x) (l := A)
      cases hg : getA x A with
      | none => simp [this.1 hg]
      | some v =>
        simp only [Option.isSome_some,iff_true]
        exact Decidable.byContradiction fun q => by rw [this.2 q] at hg; cases hg
    rw [hk]
    unfold Zkc atT
    constructor
    · intro hx
      split at hx
      · rename_i h0
        have hlt : x.toNat < T.length := by
          rcases Nat.lt_or_ge x.toNat T.length with h | h
          · exact h
          · rw [List.getD_eq_getElem?_getD,List.getElem?_eq_none h] at hx; cases hx
        exact List.mem_map.2 ⟨x.toNat,List.mem_filter.2 ⟨List.mem_range.2 hlt,hx⟩,by omega⟩
      · cases hx
    · intro hx
      obtain ⟨i,hi,rfl⟩ := List.mem_map.1 hx
      rw [if_pos (by omega),Int.toNat_natCast]
      exact (List.mem_filter.1 hi).2
theorem used_ {r : Nat} {A : AV} {dat : List (List UInt8)} (W : World) (hI : ItabRd W rd fs tp lp p j m n nb T r A dat) : Calls Tryz.prog 184 #[.pointer (some ⟨tp,0,none⟩)] W (Ret fun v w => ∃ a c,v = .slice a (Zkc T).length c ∧ (Zkc T).length ≤ c ∧ St W noF [own 3 1 a c (ints .i64 (Zkc T))] w) := by
 have hc := hI.t.ro
 have hmo := hI.mp.ro
 have hAl : A.length ≤ 1000 := by
  have h1 := hI.ok.enc.nodup
  have h2 := hI.ok.enc.keys
  have h4 := hI.ok.n4
  have h3 : (Zb9 A.ents).length ≤ ((List.range n).map fun i => ((i : Nat) : Int)).length := h1.length_le_of_subset fun k hk => by
   have := h2 k hk
   exact List.mem_map.2 ⟨k.toNat,List.mem_range.2 (by omega),by omega⟩
  simp [Zb9,AV.ents] at h3
  omega
 have hS := St.start W
 refine Zas Tryz.func184 rfl Tryz.ntmps184 rfl ?_
 repeat (first|(refine G_id ?_;first|refine Zah ?_|refine Zab rfl rfl ?_)|(refine X_id ?_;first|refine X_yl (Zad rfl rfl) rfl rfl ?_|refine X_yl (Zac rfl rfl) rfl rfl ?_|refine X_yl (Zai rfl rfl) rfl rfl ?_|refine X_yl (Zaf rfl rfl rfl) rfl rfl ?_|refine X_yl (Zbg rfl rfl rfl) rfl rfl ?_|refine X_yl (Zao rfl rfl (Zal (hc.rd hS).pts)) rfl rfl ?_)|(refine C_id ?_;first|refine Zak ?_|refine Zaa ?_|refine Zaw ?_|refine Zaj rfl ?_)|(refine E_id ?_;first|refine Zae ?_))
 refine Zan _ rfl rfl rfl rfl rfl (mkeys_ r _) ?_
 rintro _ w ⟨bx,rfl,hS'⟩
 replace hS := hS.plus hS'
 clear hS'
 repeat (first|(refine G_id ?_;first|refine Zab rfl rfl ?_))
 refine Zan _ rfl rfl rfl rfl rfl (sorted_ bx r A _ _ (hmo.rd hS) (hS.rd (List.mem_cons_self ..)) hAl) ?_
 rintro _ w ⟨P,a,c,rfl,hc2,hp,hs,hS'⟩
 replace hS := hS.plus hS'
 clear hS'
 obtain rfl := Ztj hI.ok hp hs
 repeat (first|(refine G_id ?_;first|refine Zah ?_|refine Zab rfl rfl ?_)|(refine X_id ?_;first|refine X_yl (Zac rfl rfl) rfl rfl ?_)|(refine C_id ?_;first|refine Za2 ?_)|(refine E_id ?_;first|refine Zae ?_|refine Zax rfl (Zap rfl) (Ret.mk ?_)))
 exact ⟨a,c,rfl,hc2,hS.took⟩
end
end Cr
namespace Cr.Cl
noncomputable section
open Go Go.Proofs
set_option maxRecDepth 100000
attribute [local irreducible] Calls

def encN : Option Nd → SV
 | none => .ifc0
 | some x => .agg [.i .i64 x.st.kind,.i .i64 x.st.mode,.i .i64 x.st.owner,.i .i64 x.st.group,.s (x.data.map UInt8.toNat)]
def decN : SV → Option (Option Nd)
 | .ifc0 => some none
 | .agg [.i .i64 k,.i .i64 m,.i .i64 o,.i .i64 g,.s b] => some (some ⟨⟨k,m,o,g⟩,b.map UInt8.ofNat⟩)
 | _ => none
def decT : List SV → Option Tb
 | [] => some []
 | x :: r => match decN x with
  | some a => match decT r with | some l => some (a :: l) | none => none
  | none => none
theorem decN_enc (x : Option Nd) : decN (encN x) = some x := by
 cases x with
 | none => rfl
 | some x =>
  obtain ⟨⟨k,m,o,g⟩,d⟩ := x
  simp [encN,decN,List.map_map,Function.comp_def]
def Om (rd fs : List Int) : Opq where
 res := fun ρ k v n h => match k with
  | 0 => ∃ L,ρ n = some L ∧ disk L.1 (Zcg 112) h
  | 1 => ∃ L p,ρ n = some L ∧ qlog L.1 p 60 0 (List.replicate 51 zero64) h
  | 2 => ∃ L lp p j m nn nb l T,ρ n = some L ∧ v = [.i .i64 (.ofNat nn),.i .i64 (.ofNat nb),.i .i64 (.ofNat j),.i .i64 (.ofNat m),.agg l] ∧ decT l = some T ∧ itab rd fs L.1 lp p j m nn nb T h
  | _ => False
 mono := fun {ρ ρ'} H k v n h => by
  match k with
  | 0 => exact fun ⟨L,h1,h2⟩ => ⟨L,H _ _ h1,h2⟩
  | 1 => exact fun ⟨L,p,h1,h2⟩ => ⟨L,p,H _ _ h1,h2⟩
  | 2 => exact fun ⟨L,lp,p,j,m,nn,nb,l,T,h1,h2⟩ => ⟨L,lp,p,j,m,nn,nb,l,T,H _ _ h1,h2⟩
  | _ + 3 => exact fun h => h
 loc := fun {ρ k v n h} => by
  match k with
  | 0 => exact fun ⟨L,h1,_⟩ => ⟨L,h1⟩
  | 1 => exact fun ⟨L,p,h1,_⟩ => ⟨L,h1⟩
  | 2 => exact fun ⟨L,lp,p,j,m,nn,nb,l,T,h1,_⟩ => ⟨L,h1⟩
  | _ + 3 => exact fun h => h.elim
def Gd9 (rd fs : List Int) (W : World) (F : Nat → Prop) : Prop := Gl W F rd fs
section
variable {rd fs : List Int} {W : World} {F : Nat → Prop} {rs : List Res} {ρ : Rho} {w : World}
def okS : SV := .i .i64 0
def nNew : NatF := fun a m => match a with
 | [.i .i64 (.ofNat n)] => bif Nat.beq n 112 && Nat.blt m.n top then some (.tup [.p m.n 0,okS],⟨m.h.set m.n (.opq 0 []),m.n + 1⟩) else none
 | _ => none
theorem nNew_ok (args : List SV) (m : Mem) (v : SV) (m' : Mem) (h : nNew args m = some (v,m')) : Zfj Tryz.prog (Om rd fs) (Gd9 rd fs) 79 args m v m' := by
 refine ⟨inferInstance,fun W F hG rs ρ vs w hv hb ht hS => ?_⟩
 unfold nNew at h
 split at h
 ·rename_i n
  replace h := Zar h; obtain ⟨hq,h⟩ := h
  simp only [Bool.and_eq_true] at hq
  have hn := Zce hq.1; have htop := Zcx hq.2
  subst hn
  cases h
  obtain ⟨x,_,hx,hnil,rfl⟩ := hv
  cases hx; cases hnil
  refine (new_ 112 w (by omega) (by omega)).mono fun e w' ⟨v,he,p,hv,hS'⟩ => ⟨v,he,?_⟩
  subst hv
  have h2 := hS.plus hS'
  have hle := Rho.add_le (L := (p,0)) (hb m.n (Nat.le_refl _))
  refine ⟨ρ.add m.n (p,0),Rho.ext.add (hb m.n (Nat.le_refl _)),hb.add _,by show m.n + 1 ≤ top; omega,⟨_,RepL.cons ⟨(p,0),Rho.add_self _ _ _,rfl⟩ (RepL.cons rfl rfl),rfl⟩,?_⟩
  exact St.new htop (St.fresh hS hb (Nat.le_refl _)) (St.head (St.mono' hle h2) fun g hg => ⟨(p,0),Rho.add_self _ _ _,hg⟩)
 ·cases h
theorem nil112 (rd fs : List Int) : openM rd fs (Zcg 112) 60 = ⟨0,Zcg 112,0,false⟩ := by kernel_rfl
theorem St.callO {Ω : Opq} {h : Heap} {n : Nat} {o : SO} (hn : n < top) (hg : h.get n = some o) (hS : St W F (res Ω ρ h ++ rs) w) :
  ∃ F',St w F' [resO Ω ρ n o] w ∧ (∀ r ∈ res Ω ρ (h.erase n) ++ rs,Ro w F' r) ∧ (∀ r,Ro W F r → Ro w F' r) ∧ ∀ {rs' : List Res} {w' : World},St w F' rs' w' → St W F (rs' ++ (res Ω ρ (h.erase n) ++ rs)) w' := by
 have h1 := St.out hn hg hS
 obtain ⟨F',a,b,c,d⟩ := h1.call (pre := [resO Ω ρ n o]) (rest := res Ω ρ (h.erase n) ++ rs) (sp := ⟨.refl _⟩) [true]
 exact ⟨F',a,b,c,fun {rs' w'} hh => @d rs' (rs' ++ (res Ω ρ (h.erase n) ++ rs)) w' ⟨rfl⟩ hh⟩
def nOpen : NatF := fun a m => match a with
 | [.p o 0,.i .i64 (.ofNat j)] => bif Nat.beq j 60 && Nat.blt m.n top then (match m.h.get o with
  | some (.opq 0 _) => some (.tup [.p m.n 0,okS],⟨(m.h.erase o).set m.n (.opq 1 []),m.n + 1⟩)
  | _ => none) else none
 | _ => none
theorem Zpy {h : Heap} {n k : Nat} (hn : n < top) : (h.erase n).get k = if k = n then none else h.get k := Heap.get_erase k hn
theorem nOpen_ok (args : List SV) (m : Mem) (v : SV) (m' : Mem) (h : nOpen args m = some (v,m')) : Zfj Tryz.prog (Om rd fs) (Gd9 rd fs) 80 args m v m' := by
 refine ⟨inferInstance,fun W F hG rs ρ vs w hv hb ht hS => ?_⟩
 unfold nOpen at h
 split at h
 ·rename_i o j
  replace h := Zar h; obtain ⟨hq,h⟩ := h
  simp only [Bool.and_eq_true] at hq
  have hn := Zce hq.1; have htop := Zcx hq.2
  subst hn
  split at h
  ·rename_i q hg
   cases h
   obtain ⟨x,_,⟨L,hL,rfl⟩,⟨y,_,hy,hnil,rfl⟩,rfl⟩ := hv
   cases hy; cases hnil
   have ho := Zen hb ht hL
   obtain ⟨F',hc,hr,hw,hbk⟩ := St.callO ho hg hS
   have hc2 : St w F' [disk L.1 (Zcg 112)] w := St.head hc fun g ⟨L',h1,h2⟩ => by rw [hL] at h1; cases h1; exact h2
   have hopen := open_ L.1 (Zcg 112) 60 rd fs w F' (hG.mono hw) (by simp [Zcg]) hc2
   rw [nil112] at hopen
   refine hopen.mono fun e w' ⟨v,he,hR⟩ => ⟨v,he,?_⟩
   rcases hR with ⟨hne,_⟩ | ⟨_,lp,rfl,hS'⟩
   ·exact absurd rfl hne
   have h2 := hbk (St.newLog (k := 51) (by omega) hS')
   have hle := Rho.add_le (L := (lp,0)) (hb m.n (Nat.le_refl _))
   refine ⟨ρ.add m.n (lp,0),Rho.ext.add (hb m.n (Nat.le_refl _)),hb.add _,by show m.n + 1 ≤ top; omega,⟨_,RepL.cons ⟨(lp,0),Rho.add_self _ _ _,rfl⟩ (RepL.cons rfl rfl),rfl⟩,?_⟩
   exact St.new htop (by rw [Zpy ho,St.fresh hS hb (Nat.le_refl _)]; simp) (St.head (St.mono' hle h2) fun g hg => ⟨(lp,0),L.1,Rho.add_self _ _ _,hg⟩)
  ·cases h
 ·cases h
def Zq8 : NatF := fun a m => match a with
 | [.p o 0,.i .i64 (.ofNat k)] => bif Nat.beq k 10 && Nat.blt m.n top then (match m.h.get o with
  | some (.opq 1 _) => some (.tup [.p m.n 0,okS],⟨(m.h.erase o).set m.n (.opq 2 [.i .i64 (.ofNat 10),.i .i64 (.ofNat 40),.i .i64 (.ofNat 60),.i .i64 (.ofNat 1),.agg (List.replicate 10 .ifc0)]),m.n + 1⟩)
  | _ => none) else none
 | _ => none
theorem nFormat_ok (args : List SV) (m : Mem) (v : SV) (m' : Mem) (h : Zq8 args m = some (v,m')) : Zfj Tryz.prog (Om rd fs) (Gd9 rd fs) 81 args m v m' := by
 refine ⟨inferInstance,fun W F hG rs ρ vs w hv hb ht hS => ?_⟩
 unfold Zq8 at h
 split at h
 ·rename_i o j
  replace h := Zar h; obtain ⟨hq,h⟩ := h
  simp only [Bool.and_eq_true] at hq
  have hn := Zce hq.1; have htop := Zcx hq.2
  subst hn
  split at h
  ·rename_i q hg
   cases h
   obtain ⟨x,_,⟨L,hL,rfl⟩,⟨y,_,hy,hnil,rfl⟩,rfl⟩ := hv
   cases hy; cases hnil
   have ho := Zen hb ht hL
   obtain ⟨F',hc,hr,hw,hbk⟩ := St.callO ho hg hS
   obtain ⟨p,hc2⟩ : ∃ p,St w F' [qlog L.1 p 60 0 (List.replicate 51 zero64)] w := by
    obtain ⟨g,⟨g1,g2,⟨L',p,h1,h2⟩,hs,hd,hu⟩,s⟩ := hc
    rw [hL] at h1; cases h1
    exact ⟨p,g,⟨g1,g2,h2,hs,hd,hu⟩,s⟩
   refine (format_ L.1 p 60 0 10 40 _ rd fs w F' (hG.mono hw) (by simp) (by omega) (by omega) (by omega) (by omega) (by simp [last]) (Zoy (by omega)) (fun i hi => Zoy (by omega)) hc2).mono fun e w' ⟨v,he,tp,hv,hS'⟩ => ⟨v,he,?_⟩
   subst hv
   have h2 := hbk hS'
   have hle := Rho.add_le (L := (tp,0)) (hb m.n (Nat.le_refl _))
   refine ⟨ρ.add m.n (tp,0),Rho.ext.add (hb m.n (Nat.le_refl _)),hb.add _,by show m.n + 1 ≤ top; omega,⟨_,RepL.cons ⟨(tp,0),Rho.add_self _ _ _,rfl⟩ (RepL.cons rfl rfl),rfl⟩,?_⟩
   exact St.new htop (by rw [Zpy ho,St.fresh hS hb (Nat.le_refl _)]; simp) (St.head (St.mono' hle h2) fun g hg => ⟨(tp,0),L.1,p,60,1,10,40,_,List.replicate 10 none,Rho.add_self _ _ _,rfl,rfl,hg⟩)
  ·cases h
 ·cases h
theorem tabRd {h : Heap} {n : Nat} {v : List SV} (hg : h.get n = some (.opq 2 v)) {L : Nat × Nat} (hL : ρ n = some L) (hS : St W F (res (Om rd fs) ρ h ++ rs) w) :
  ∃ lp p j m nn nb l T,v = [.i .i64 (.ofNat nn),.i .i64 (.ofNat nb),.i .i64 (.ofNat j),.i .i64 (.ofNat m),.agg l] ∧ decT l = some T ∧ ∃ r A dat,ItabRd w rd fs L.1 lp p j m nn nb T r A dat := by
 obtain ⟨g,⟨L',lp,p,j,m,nn,nb,l,T,h1,h2,h3,h4⟩,ha⟩ := St.rdO hg hS
 rw [hL] at h1; cases h1
 exact ⟨lp,p,j,m,nn,nb,l,T,h2,h3,Rd.itab ⟨g,h4,ha⟩⟩
def nNodes : NatF := fun a m => match a with
 | [.p o 0] => match m.h.get o with
  | some (.opq 2 [.i .i64 (.ofNat k),_,_,_,_]) => some (.i .i64 (.ofNat k),m)
  | _ => none
 | _ => none
theorem nNodes_ok (args : List SV) (m : Mem) (v : SV) (m' : Mem) (h : nNodes args m = some (v,m')) : Zfj Tryz.prog (Om rd fs) (Gd9 rd fs) 139 args m v m' := by
 refine ⟨inferInstance,fun W F hG rs ρ vs w hv hb ht hS => ?_⟩
 unfold nNodes at h
 split at h
 ·rename_i o
  split at h
  ·rename_i k q1 q2 q3 q4 hg
   cases h
   obtain ⟨x,_,⟨L,hL,rfl⟩,hnil,rfl⟩ := hv
   cases hnil
   obtain ⟨lp,p,j,m1,nn,nb,l,T,hq,hd,r,A,dat,hI⟩ := tabRd hg hL hS
   cases hq
   refine (nodes_ w hI).mono fun e w' ⟨v,he,hv,hw⟩ => ⟨v,he,?_⟩
   subst hv; subst hw
   exact ⟨ρ,Rho.ext.rfl,hb,ht,rfl,hS⟩
  ·cases h
 ·cases h
def nd0S : SV := .agg [.i .i64 0,.i .i64 0,.i .i64 0,.i .i64 0,.sl0]
def nGet : NatF := fun a m => match a with
 | [.p o 0,.i .i64 no] => match m.h.get o with
  | some (.opq 2 [_,_,_,_,.agg l]) => match decT l with
   | some T => match atT T no with
    | none => some (.tup [nd0S,.i .i64 7],m)
    | some x => bif Nat.blt 0 x.data.length && Nat.blt m.n top then
      some (.tup [.agg [.i .i64 x.st.kind,.i .i64 x.st.mode,.i .i64 x.st.owner,.i .i64 x.st.group,.slu m.n 1 0 x.data.length],okS],⟨m.h.set m.n (.grow 5 1 (Zj3 (x.data.map UInt8.toNat))),m.n + 1⟩) else none
   | none => none
  | _ => none
 | _ => none
theorem bytesS_ok (d : List UInt8) : RepL ρ (Zj3 (d.map UInt8.toNat)) (bv d) := by
 induction d with
 | nil => exact RepL.nil
 | cons b d ih => exact RepL.cons rfl ih
theorem nGet_ok (args : List SV) (m : Mem) (v : SV) (m' : Mem) (h : nGet args m = some (v,m')) : Zfj Tryz.prog (Om rd fs) (Gd9 rd fs) 123 args m v m' := by
 refine ⟨inferInstance,fun W F hG rs ρ vs w hv hb ht hS => ?_⟩
 unfold nGet at h
 split at h
 ·rename_i o no
  split at h
  ·rename_i q1 q2 q3 q4 l hg
   obtain ⟨x,_,⟨L,hL,rfl⟩,⟨y,_,hy,hnil,rfl⟩,rfl⟩ := hv
   cases hy; cases hnil
   obtain ⟨lp,p,j,m1,nn,nb,l',T,hq,hd,r,A,dat,hI⟩ := tabRd hg hL hS
   cases hq
   rw [hd] at h
   simp only at h
   split at h
   ·rename_i hno
    cases h
    refine (get_none no hno w hI).mono fun e w' ⟨v,he,hv,hS'⟩ => ⟨v,he,?_⟩
    subst hv
    have h2 := hS.plus hS'
    exact ⟨ρ,Rho.ext.rfl,hb,ht,⟨_,RepL.cons ⟨_,RepL.cons rfl (RepL.cons rfl (RepL.cons rfl (RepL.cons rfl (RepL.cons rfl rfl)))),rfl⟩ (RepL.cons rfl rfl),rfl⟩,h2⟩
   ·rename_i x hno
    replace h := Zar h; obtain ⟨hq,h⟩ := h
    simp only [Bool.and_eq_true] at hq
    have hlen := Zcx hq.1; have htop := Zcx hq.2
    cases h
    refine (get_some no x hno w hI).mono fun e w' ⟨v,he,a,c,hv,hc,hS'⟩ => ⟨v,he,?_⟩
    subst hv
    have h2 := hS.plus hS'
    obtain ⟨b,rfl⟩ : ∃ b,a = some ⟨b,0,none⟩ := by
     obtain ⟨g,⟨g1,g2,hown,_⟩,_⟩ := hS'
     obtain ⟨h1,_,⟨h0,_⟩ | ⟨b,cs,hb,_⟩⟩ := hown
     ·rw [h0,Nat.zero_mul] at h1; simp at h1; rw [h1] at hlen; simp at hlen
     ·exact ⟨b,hb⟩
    have hle := Rho.add_le (L := (b,c)) (hb m.n (Nat.le_refl _))
    refine ⟨ρ.add m.n (b,c),Rho.ext.add (hb m.n (Nat.le_refl _)),hb.add _,by show m.n + 1 ≤ top; omega,⟨_,RepL.cons ⟨_,RepL.cons rfl (RepL.cons rfl (RepL.cons rfl (RepL.cons rfl (RepL.cons ⟨(b,c),Rho.add_self _ _ _,by simpa using hc,by simp⟩ rfl)))),rfl⟩ (RepL.cons rfl rfl),rfl⟩,?_⟩
    exact St.new htop (St.fresh hS hb (Nat.le_refl _)) (St.head (St.mono' hle h2) fun g hg => ⟨(b,c),_,Rho.add_self _ _ _,bytesS_ok _,hg⟩)
  ·cases h
 ·cases h
def nUsed : NatF := fun a m => match a with
 | [.p o 0] => match m.h.get o with
  | some (.opq 2 [_,_,_,_,.agg l]) => match decT l with
   | some T => bif Nat.blt 0 (Zkc T).length && Nat.blt m.n top then
     some (.slu m.n 1 0 (Zkc T).length,⟨m.h.set m.n (.grow 3 1 ((Zkc T).map (SV.i .i64))),m.n + 1⟩) else none
   | none => none
  | _ => none
 | _ => none
theorem intsS_ok (d : List Int) : RepL ρ (d.map (SV.i .i64)) (ints .i64 d) := by
 induction d with
 | nil => exact RepL.nil
 | cons b d ih => exact RepL.cons rfl ih
theorem nUsed_ok (args : List SV) (m : Mem) (v : SV) (m' : Mem) (h : nUsed args m = some (v,m')) : Zfj Tryz.prog (Om rd fs) (Gd9 rd fs) 184 args m v m' := by
 refine ⟨inferInstance,fun W F hG rs ρ vs w hv hb ht hS => ?_⟩
 unfold nUsed at h
 split at h
 ·rename_i o
  split at h
  ·rename_i q1 q2 q3 q4 l hg
   obtain ⟨x,_,⟨L,hL,rfl⟩,hnil,rfl⟩ := hv
   cases hnil
   obtain ⟨lp,p,j,m1,nn,nb,l',T,hq,hd,r,A,dat,hI⟩ := tabRd hg hL hS
   cases hq
   rw [hd] at h
   simp only at h
   replace h := Zar h; obtain ⟨hq,h⟩ := h
   simp only [Bool.and_eq_true] at hq
   have hlen := Zcx hq.1; have htop := Zcx hq.2
   cases h
   refine (used_ w hI).mono fun e w' ⟨v,he,a,c,hv,hc,hS'⟩ => ⟨v,he,?_⟩
   subst hv
   have h2 := hS.plus hS'
   obtain ⟨b,rfl⟩ : ∃ b,a = some ⟨b,0,none⟩ := by
    obtain ⟨g,⟨g1,g2,hown,_⟩,_⟩ := hS'
    obtain ⟨h1,_,⟨h0,_⟩ | ⟨b,cs,hb,_⟩⟩ := hown
    ·rw [h0,Nat.zero_mul] at h1; have : (ints .i64 (Zkc T)).length = (Zkc T).length := by simp [ints]
     omega
    ·exact ⟨b,hb⟩
   have hle := Rho.add_le (L := (b,c)) (hb m.n (Nat.le_refl _))
   refine ⟨ρ.add m.n (b,c),Rho.ext.add (hb m.n (Nat.le_refl _)),hb.add _,by show m.n + 1 ≤ top; omega,⟨(b,c),Rho.add_self _ _ _,by simpa using hc,by simp⟩,?_⟩
   exact St.new htop (St.fresh hS hb (Nat.le_refl _)) (St.head (St.mono' hle h2) fun g hg => ⟨(b,c),_,Rho.add_self _ _ _,intsS_ok _,hg⟩)
  ·cases h
 ·cases h
end
end
end Cr.Cl
namespace Cr.Cl
noncomputable section
open Go Go.Proofs
set_option maxRecDepth 100000
attribute [local irreducible] Calls

section
variable {Ω : Opq} {ρ : Rho} {h : Heap} {W : World} {F : Nat → Prop}
def Zkb (Ω : Opq) (ρ : Rho) (h : Heap) (W : World) (F : Nat → Prop) : Prop := ∀ n ob,h.get n = some ob → Ro W F (resO Ω ρ n ob)
theorem rowOf_ro (hR : Zkb Ω ρ h W F) {n : Nat} {c : List SV} (hc : Zk7 h n = some c) : ∃ L vs,ρ n = some L ∧ RepL ρ c vs ∧ Ro W F (row (some ⟨L.1,0,none⟩) vs) := by
 unfold Zk7 at hc
 split at hc
 ·rename_i t c' hg; cases hc
  obtain ⟨g,⟨L,vs,h1,h2,h3⟩,ha⟩ := hR _ _ hg
  exact ⟨L,vs,h1,h2,g,Zm1 h3,ha⟩
 ·rename_i t sz c' hg; cases hc
  obtain ⟨g,⟨L,vs,h1,h2,h3⟩,ha⟩ := hR _ _ hg
  exact ⟨L,vs,h1,h2,g,h3.row,ha⟩
 ·rename_i c' hg; cases hc
  obtain ⟨g,⟨L,vs,h1,h2,h3⟩,ha⟩ := hR _ _ hg
  exact ⟨L,vs,h1,h2,g,h3,ha⟩
 ·cases hc
theorem Zko (hR : Zkb Ω ρ h W F) {sz n : Nat} {v : SV} {a : Option Addr} {m c : Nat} (hu : Rep ρ v (.slice a m c)) {cs : List SV} (hs : Zkd h sz n v = some cs) : ∃ vs,RepL ρ cs vs ∧ vs.length = n * sz ∧ Ro W F (row a vs) := by
 have key : ∀ (o off : Nat) (L : Nat × Nat),ρ o = some L → a = some ⟨L.1,off,none⟩ → (match Zk7 h o with | some c => bif Nat.ble (off + n * sz) c.length then some (seg c off (n * sz)) else none | none => none) = some cs → ∃ vs,RepL ρ cs vs ∧ vs.length = n * sz ∧ Ro W F (row a vs) := by
  intro o off L hL ha hs
  subst ha
  split at hs
  ·rename_i c' hc
   replace hs := Zar hs; obtain ⟨hle,hs⟩ := hs; cases hs
   have hle := Zcd hle
   obtain ⟨L',vs,h1,h2,h3⟩ := rowOf_ro hR hc
   rw [hL] at h1; cases h1
   refine ⟨_,RepL.seg h2 off (n * sz),by simp [RepL.length h2]; omega,h3.mono ?_⟩
   have := row.part (a := some ⟨L.1,0,none⟩) (cs := vs) (cs' := (vs.drop off).take (n * sz)) (i := off) (fun j v hv => by
    rw [List.getElem?_take] at hv; split at hv
    ·simpa using hv
    ·cases hv)
   simpa [adr] using this
  ·cases hs
 unfold Zkd at hs
 split at hs
 ·replace hs := Zar hs; obtain ⟨h0,hs⟩ := hs; cases hs
  have := Zce h0; subst this
  exact ⟨[],rfl,by simp,Ro_nil _ _ _⟩
 ·replace hs := Zar hs; obtain ⟨h0,hs⟩ := hs; cases hs
  have := Zce h0; subst this
  exact ⟨[],rfl,by simp,Ro_nil _ _ _⟩
 ·obtain ⟨L,hL,_,hq⟩ := hu
  cases hq
  exact key _ _ L hL rfl hs
 ·replace hs := Zar hs; obtain ⟨h0,hs⟩ := hs
  have := Zce h0; subst this
  obtain ⟨L,hL,_,hq⟩ := hu
  cases hq
  exact key _ _ L hL rfl hs
 ·cases hs
end
def decC (h : Heap) : List SV → Option (List Chg)
 | [] => some []
 | .i .i64 no :: .i .i64 k :: .i .i64 md :: .i .i64 ow :: .i .i64 gr :: d :: .b dr :: r => match lenOf d with
  | some n => match Zkd h 1 n d with
   | some c => match Zgf c with
    | some b => match decC h r with
     | some l => some (⟨no,⟨⟨k,md,ow,gr⟩,b.map UInt8.ofNat⟩,dr⟩ :: l)
     | none => none
    | none => none
   | none => none
  | none => none
 | _ => none
theorem bv_len {d : List UInt8} : (bv d).length = d.length := by simp [bv]
theorem decC_ok {Ω : Opq} {ρ : Rho} {h : Heap} {W : World} {F : Nat → Prop} (hR : Zkb Ω ρ h W F) : ∀ (cs : List SV) (vs : List Value) (cl : List Chg),RepL ρ cs vs → decC h cs = some cl → ∃ l : List ChgA,l.map ChgA.c = cl ∧ vs = l.flatMap ChgA.cells ∧ ∀ x ∈ l,Ro W F (bytes x.a x.c.nd.data)
 | [],vs,cl,hv,hd => by
  cases hv; simp only [decC,Option.some.injEq] at hd; subst hd
  exact ⟨[],rfl,rfl,fun _ hx => (List.not_mem_nil hx).elim⟩
 | x :: cs,vs,cl,hv,hd => by
  unfold decC at hd
  split at hd
  ·rename_i q; cases q
  ·rename_i no k md ow gr d dr r q
   cases q
   obtain ⟨_,_,rfl,⟨_,_,rfl,⟨_,_,rfl,⟨_,_,rfl,⟨_,_,rfl,⟨u,_,hu,⟨_,vr,rfl,hr,rfl⟩,rfl⟩,rfl⟩,rfl⟩,rfl⟩,rfl⟩,rfl⟩ := hv
   split at hd
   ·rename_i n hn
    split at hd
    ·rename_i c hc
     split at hd
     ·rename_i b hb
      split at hd
      ·rename_i l hl
       cases hd
       obtain ⟨a,cp,rfl,_⟩ := Zd6 hu hn
       obtain ⟨ds,h1,h2,h3⟩ := Zko hR hu hc
       obtain ⟨_,rfl⟩ := Zge c b ds hb h1
       obtain ⟨L,h4,h5,h6⟩ := decC_ok hR r vr l hr hl
       have hlen : (b.map UInt8.ofNat).length = n := by rw [← bv_len,h2]; simp
       refine ⟨⟨⟨no,⟨⟨k,md,ow,gr⟩,b.map UInt8.ofNat⟩,dr⟩,a,cp⟩ :: L,by simp [h4],?_,fun x hx => ?_⟩
       ·rw [h5]; simp only [List.flatMap_cons,ChgA.cells,hlen]; rfl
       ·rcases List.mem_cons.1 hx with rfl | hx
        ·exact h3
        ·exact h6 x hx
      ·cases hd
     ·cases hd
    ·cases hd
   ·cases hd
  ·cases hd
def keepL (ns : List Nat) : Nat → List SV → Tb → List SV
 | i,x :: l,t :: T => (bif ns.any (Nat.beq i) then encN t else x) :: keepL ns (i + 1) l T
 | _,_,_ => []
theorem Zsn (ns : List Nat) : ∀ (i : Nat) (l : List SV) (T T' : Tb),decT l = some T → T'.length = T.length → (∀ k,i + k ∉ ns → T'[k]? = T[k]?) → decT (keepL ns i l T') = some T'
 | _,[],T,T',hd,hl,_ => by
  simp only [decT,Option.some.injEq] at hd; subst hd
  cases T' with
  | nil => rfl
  | cons _ _ => simp at hl
 | i,x :: l,T,T',hd,hl,hk => by
  simp only [decT] at hd
  split at hd
  ·rename_i a ha
   split at hd
   ·rename_i T1 hT1
    cases hd
    cases T' with
    | nil => simp at hl
    | cons t T' =>
     have ih := Zsn ns (i + 1) l T1 T' hT1 (by simpa using hl) fun k hn => by
      have := hk (k + 1) (by rwa [show i + (k + 1) = i + 1 + k by omega])
      simpa using this
     simp only [keepL,decT,ih]
     have hx : decN (bif ns.any (Nat.beq i) then encN t else x) = some t := by
      cases hq : ns.any (Nat.beq i) with
      | true => exact decN_enc t
      | false =>
       have := hk 0 (fun hm => by
        rw [List.any_eq_false] at hq
        exact hq i (by simpa using hm) (Nat.beq_refl i))
       simp at this
       rw [cond_false,ha,this]
     rw [hx]
   ·cases hd
  ·cases hd
theorem Zqu {nb : Nat} {x : Tb × Nat × Bool} {c : Chg} : (Zfp x nb c).1.length = x.1.length ∧ ∀ k,c.no.toNat ≠ k → (Zfp x nb c).1[k]? = x.1[k]? := by
 unfold Zfp
 split
 ·exact ⟨rfl,fun _ _ => rfl⟩
 ·split
  ·exact ⟨rfl,fun _ _ => rfl⟩
  ·split
   ·exact ⟨rfl,fun _ _ => rfl⟩
   ·exact ⟨by simp,fun k hk => by simp only; rw [List.getElem?_set_ne hk]⟩
theorem Zm0 {nb : Nat} : ∀ (l : List Chg) (x : Tb × Nat × Bool),(l.foldl (fun x c => Zfp x nb c) x).1.length = x.1.length ∧ ∀ k,(∀ c ∈ l,c.no.toNat ≠ k) → (l.foldl (fun x c => Zfp x nb c) x).1[k]? = x.1[k]?
 | [],x => ⟨rfl,fun _ _ => rfl⟩
 | c :: l,x => by
  obtain ⟨h1,h2⟩ := Zm0 (nb := nb) l (Zfp x nb c)
  obtain ⟨h3,h4⟩ := Zqu (nb := nb) (x := x) (c := c)
  rw [List.foldl_cons]
  exact ⟨h1.trans h3,fun k hk => (h2 k fun c hc => hk c (List.mem_cons_of_mem _ hc)).trans (h4 k (hk c (List.mem_cons_self ..)))⟩
theorem Zlz : ∀ (l : List Chg) (T : Tb),(Zg4 T l).length = T.length ∧ ∀ k,(∀ c ∈ l,c.no.toNat ≠ k) → (Zg4 T l)[k]? = T[k]?
 | [],T => ⟨rfl,fun _ _ => rfl⟩
 | c :: l,T => by
  obtain ⟨h1,h2⟩ := Zlz l (T.set c.no.toNat none)
  have e : Zg4 T (c :: l) = Zg4 (T.set c.no.toNat none) l := rfl
  rw [e]
  exact ⟨h1.trans (by simp),fun k hk => (h2 k fun c hc => hk c (List.mem_cons_of_mem _ hc)).trans (by rw [List.getElem?_set_ne (hk c (List.mem_cons_self ..))])⟩
theorem Zp9 (T : Tb) (nb most : Nat) (l : List Chg) : (Zhr T nb most l).2.length = T.length ∧ ∀ k,(∀ c ∈ l,c.no.toNat ≠ k) → (Zhr T nb most l).2[k]? = T[k]? := by
 unfold Zhr
 split
 ·exact ⟨rfl,fun _ _ => rfl⟩
 ·unfold putT
  split
  ·exact ⟨rfl,fun _ _ => rfl⟩
  ·split
   ·exact ⟨rfl,fun _ _ => rfl⟩
   ·obtain ⟨h1,h2⟩ := Zm0 (nb := nb) l (Zg4 T l,0,false)
    obtain ⟨h3,h4⟩ := Zlz l T
    exact ⟨h1.trans h3,fun k hk => (h2 k hk).trans (h4 k hk)⟩
def nApply : NatF := fun a m => match a with
 | [.p o 0,s] => match m.h.get o with
  | some (.opq 2 [nn,.i .i64 (.ofNat nb),.i .i64 (.ofNat j),.i .i64 (.ofNat q),.agg l]) => match decT l with
   | some T => match lenOf s with
    | some n => match Zkd (m.h.erase o) 7 n s with
     | some cs => match decC (m.h.erase o) cs with
      | some cl => bif Nat.ble cl.length 1000 && Nat.beq cl.length n && Nat.blt q 1152921504606846976 && Nat.blt o top then
        (match Zhr T nb (j / 2) cl with
        | (r,T') => some (.i .i64 r,⟨m.h.set o (.opq 2 [nn,.i .i64 (.ofNat nb),.i .i64 (.ofNat j),.i .i64 (.ofNat (q + 1)),.agg (keepL (cl.map fun c => c.no.toNat) 0 l T')]),m.n⟩)) else none
      | none => none
     | none => none
    | none => none
   | none => none
  | _ => none
 | _ => none
section
variable {rd fs : List Int}
theorem nApply_ok (args : List SV) (m : Mem) (v : SV) (m' : Mem) (h : nApply args m = some (v,m')) : Zfj Tryz.prog (Om rd fs) (Gd9 rd fs) 124 args m v m' := by
 refine ⟨inferInstance,fun W F hG rs ρ vs w hv hb ht hS => ?_⟩
 unfold nApply at h
 split at h
 ·rename_i o s
  split at h
  ·rename_i nn nb j q l hg
   split at h
   ·rename_i T hT
    split at h
    ·rename_i n hn
     split at h
     ·rename_i cs hcs
      split at h
      ·rename_i cl hcl
       replace h := Zar h; obtain ⟨hq,h⟩ := h
       simp only [Bool.and_eq_true] at hq
       obtain ⟨⟨⟨hq1,hq2⟩,hq3⟩,hq4⟩ := hq
       have hq1 := Zcd hq1; have hq2 := Zce hq2; have hq3 := Zcx hq3; have hq4 := Zcx hq4
       cases h
       obtain ⟨x,_,⟨L,hL,rfl⟩,⟨u,_,hu,hnil,rfl⟩,rfl⟩ := hv
       cases hnil
       obtain ⟨a,c,rfl,hnc⟩ := Zd6 hu hn
       obtain ⟨F',hc,hr,hw,hbk⟩ := St.callO hq4 hg hS
       have hR : Zkb (Om rd fs) ρ (m.h.erase o) w F' := fun k ob hk => hr _ (List.mem_append_left _ (List.mem_map.2 ⟨(k,ob),Heap.mem_of_get hk,rfl⟩))
       obtain ⟨us,h1,h2,h3⟩ := Zko hR hu hcs
       obtain ⟨A,h4,h5,h6⟩ := decC_ok hR cs us cl h1 hcl
       have hAl : A.length = n := by rw [← hq2,← h4]; simp
       obtain ⟨lp,p,j',m1,nn',nb',l',T',hvq,hd,hc2⟩ : ∃ lp p j1 m1 nn1 nb1 l1 T1,[nn,.i .i64 (.ofNat nb),.i .i64 (.ofNat j),.i .i64 (.ofNat q),.agg l] = [SV.i .i64 (.ofNat nn1),.i .i64 (.ofNat nb1),.i .i64 (.ofNat j1),.i .i64 (.ofNat m1),.agg l1] ∧ decT l1 = some T1 ∧ St w F' [itab rd fs L.1 lp p j1 m1 nn1 nb1 T1] w := by
        obtain ⟨g,⟨g1,g2,⟨L',lp,p,j,m,nn,nb,l,T,h1,h2,h3,h4⟩,hs,hd,hu⟩,s⟩ := hc
        rw [hL] at h1; cases h1
        exact ⟨lp,p,j,m,nn,nb,l,T,h2,h3,g,⟨g1,g2,h4,hs,hd,hu⟩,s⟩
       cases hvq
       rw [hT] at hd; cases hd
       have hC : Chgs w F' a A := ⟨by rw [← h5]; exact h3,h6⟩
       have hcall := apply_ a c A w F' (hG.mono hw) hC (by omega) (by omega) (by unfold last; omega) hc2
       rw [hAl,h4] at hcall
       refine hcall.mono fun e w' ⟨v,he,hv,hS'⟩ => ⟨v,he,?_⟩
       subst hv
       have h7 := hbk hS'
       refine ⟨ρ,Rho.ext.rfl,hb,ht,rfl,?_⟩
       refine St.back _ hq4 hg (St.head h7 fun g hg => ⟨L,lp,p,j,q + 1,nn',nb,_,_,hL,rfl,?_,hg⟩)
       obtain ⟨g1,g2⟩ := Zp9 T nb (j / 2) cl
       exact Zsn _ 0 l T _ hT g1 fun k hk => g2 k fun c hc e => hk (List.mem_map.2 ⟨c,hc,by omega⟩)
      ·cases h
     ·cases h
    ·cases h
   ·cases h
  ·cases h
 ·cases h
end
end
end Cr.Cl
namespace Cr.Cl
noncomputable section
open Go Go.Proofs
set_option maxRecDepth 100000
attribute [local irreducible] Calls

def xLoad : NatF := fun a m => match a with
 | [.p o off] => match Zk7 m.h o with
  | some c => match c[off]? with
   | some (.i .i64 x) => some (.i .i64 x,m)
   | _ => none
  | none => none
 | _ => none
theorem xLoad_ok {Ω : Opq} (args : List SV) (m : Mem) (v : SV) (m' : Mem) (h : xLoad args m = some (v,m')) : ExtS Tryz.prog Ω 126 args m v m' := by
 intro W F rs ρ vs w hv hb ht hS
 unfold xLoad at h
 split at h
 ·rename_i o off
  split at h
  ·rename_i c hc
   split at h
   ·rename_i x hx
    cases h
    obtain ⟨u,_,⟨L,hL,rfl⟩,hnil,rfl⟩ := hv
    cases hnil
    obtain ⟨L',us,h1,h2,h3⟩ := Zn6 (St.heapRd hS) hc
    rw [hL] at h1; cases h1
    obtain ⟨y,h4,h5⟩ := RepL.get h2 hx
    cases h5
    have hcell := h3.cells off _ h4
    simp only [adr,Nat.zero_add] at hcell
    exact ⟨ρ,_,w,Rho.ext.rfl,hb,ht,rfl,ELoad.run hcell,hS⟩
   ·cases h
  ·cases h
 ·cases h
def natL : List (Nat × NatF) := [(79,nNew),(80,nOpen),(81,Zq8),(139,nNodes),(123,nGet),(184,nUsed),(124,nApply)]
def extL : List (Nat × NatF) := [(126,xLoad)]
section
variable {rd fs : List Int}
def NatOk (rd fs : List Int) (g : Nat) (nf : NatF) : Prop := ∀ args m v m',nf args m = some (v,m') → Zfj Tryz.prog (Om rd fs) (Gd9 rd fs) g args m v m'
theorem natL_ok : ∀ q ∈ natL,q.1 < top ∧ NatOk rd fs q.1 q.2 :=
 all_cons ⟨by decide,nNew_ok⟩ <| all_cons ⟨by decide,nOpen_ok⟩ <| all_cons ⟨by decide,nFormat_ok⟩ <| all_cons ⟨by decide,nNodes_ok⟩ <| all_cons ⟨by decide,nGet_ok⟩ <| all_cons ⟨by decide,nUsed_ok⟩ <| all_cons ⟨by decide,nApply_ok⟩ <| fun _ h => (List.not_mem_nil h).elim
def ExtOk (g : Nat) (nf : NatF) : Prop := ∀ (Ω : Opq) args m v m',nf args m = some (v,m') → ExtS Tryz.prog Ω g args m v m'
theorem extL_ok : ∀ q ∈ extL,q.1 < top ∧ ExtOk q.1 q.2 :=
 all_cons ⟨by decide,fun _ => xLoad_ok⟩ <| fun _ h => (List.not_mem_nil h).elim
end
def isT : Option Rs → Bool
 | some (.ret (.b true) _) => true
 | _ => false
theorem res_nil {Ω : Opq} {ρ : Rho} : res Ω ρ Heap.nil ++ [] = [] := by unfold res; rw [Heap.toList_nil]; rfl
end
end Cr.Cl
namespace Cr.Cl
noncomputable section
open Go Go.Proofs
set_option maxRecDepth 100000
attribute [local irreducible] Calls

def xCmp : NatF := fun a m => match a with
 | [.s x,.s y] => some (.i .i64 (Lib.compareBytes (x.map UInt8.ofNat) (y.map UInt8.ofNat)),m)
 | _ => none
theorem xCmp_ok {Ω : Opq} (args : List SV) (m : Mem) (v : SV) (m' : Mem) (h : xCmp args m = some (v,m')) : ExtS Tryz.prog Ω 224 args m v m' := by
 intro W F rs ρ vs w hv hb ht hS
 unfold xCmp at h
 split at h
 ·rename_i x y
  cases h
  obtain ⟨_,_,⟨_,rfl⟩,⟨_,_,⟨_,rfl⟩,hnil,rfl⟩,rfl⟩ := hv
  cases hnil
  refine ⟨ρ,_,w,Rho.ext.rfl,hb,ht,rfl,?_,hS⟩
  rw [run_callFunc_extern Tryz.func224 (by kernel_rfl) (by kernel_rfl) (by kernel_rfl) (e := Extern.BytealgCompare.compare) (by kernel_rfl),Lib.run_compareString]
  rfl
 ·cases h
def extLZ : List (Nat × NatF) := (224,xCmp) :: extL
theorem Zsx : ∀ q ∈ extLZ,q.1 < top ∧ ExtOk q.1 q.2 :=
 all_cons ⟨by decide,fun _ => xCmp_ok⟩ extL_ok
def extTZ : Tr NatF := Tr.ofList extLZ
end
end Cr.Cl
namespace Cr.Cl
noncomputable section
open Go Go.Proofs
set_option maxRecDepth 100000
attribute [local irreducible] Calls

def bssOf (h : Heap) : List SV → Option (List (List UInt8))
 | [] => some []
 | d :: r => match lenOf d with
  | some n => match Zkd h 1 n d with
   | some c => match Zgf c with
    | some b => match bssOf h r with
     | some l => some (b.map UInt8.ofNat :: l)
     | none => none
    | none => none
   | none => none
  | none => none
theorem Zs7 {Ω : Opq} {ρ : Rho} {h : Heap} {W : World} {F : Nat → Prop} (hR : Zkb Ω ρ h W F) : ∀ (cs : List SV) (vs : List Value) (L : List (List UInt8)),RepL ρ cs vs → bssOf h cs = some L → ∃ l : List Bs,Zbs l = L ∧ vs = l.map Bs.val ∧ ∀ x ∈ l,Ro W F (bytes x.a x.s)
 | [],vs,L,hv,hd => by
  cases hv; simp only [bssOf,Option.some.injEq] at hd; subst hd
  exact ⟨[],rfl,rfl,fun _ hx => (List.not_mem_nil hx).elim⟩
 | d :: r,vs,L,hv,hd => by
  obtain ⟨u,vr,hu,hr,rfl⟩ := hv
  simp only [bssOf] at hd
  split at hd
  ·rename_i n hn
   split at hd
   ·rename_i c hc
    split at hd
    ·rename_i b hb
     split at hd
     ·rename_i l hl
      cases hd
      obtain ⟨a,cp,rfl,_⟩ := Zd6 hu hn
      obtain ⟨ds,h1,h2,h3⟩ := Zko hR hu hc
      obtain ⟨_,rfl⟩ := Zge c b ds hb h1
      obtain ⟨M,h4,h5,h6⟩ := Zs7 hR r vr l hr hl
      have hlen : (b.map UInt8.ofNat).length = n := by rw [← bv_len,h2]; simp
      refine ⟨⟨a,cp,b.map UInt8.ofNat⟩ :: M,by simp only [Zbs,List.map_cons] at h4 ⊢; rw [h4],?_,fun x hx => ?_⟩
      ·rw [h5,List.map_cons]; simp only [Bs.val,hlen]
      ·rcases List.mem_cons.1 hx with rfl | hx
       ·exact h3
       ·exact h6 x hx
     ·cases hd
    ·cases hd
   ·cases hd
  ·cases hd
theorem Zla {ρ : Rho} : ∀ d : List UInt8,RepL ρ (d.map fun b => SV.i .u8 (.ofNat b.toNat)) (bv d)
 | [] => rfl
 | _ :: d => ⟨_,_,rfl,Zla d,rfl⟩
def shaS (d : List UInt8) : SV := .agg (d.map fun b => SV.i .u8 (.ofNat b.toNat))
def Zny (m : Mem) (s : SV) : Option (List (List UInt8)) := match lenOf s with
 | some n => match Zkd m.h 1 n s with
  | some cs => bif Nat.beq cs.length n then bssOf m.h cs else none
  | none => none
 | none => none
theorem Zmv {Ω : Opq} {ρ : Rho} {m : Mem} {W : World} {F : Nat → Prop} (hR : Zkb Ω ρ m.h W F) {s : SV} {u : Value} (hu : Rep ρ s u) {L : List (List UInt8)} (h : Zny m s = some L) : ∃ (a : Option Addr) (l : List Bs) (c : Nat),u = .slice a l.length c ∧ Zbs l = L ∧ Bss W F a l := by
 unfold Zny at h
 split at h
 ·rename_i n hn
  split at h
  ·rename_i cs hcs
   replace h := Zar h; obtain ⟨hl,h⟩ := h
   have hl := Zce hl
   obtain ⟨a,c,rfl,_⟩ := Zd6 hu hn
   obtain ⟨vs,h1,h2,h3⟩ := Zko hR hu hcs
   obtain ⟨l,h4,h5,h6⟩ := Zs7 hR cs vs L h1 h
   have : l.length = n := by rw [h5,List.length_map] at h2; omega
   exact ⟨a,l,c,by rw [this],h4,by rw [← h5]; exact h3,h6⟩
  ·cases h
 ·cases h
def small (L : List (List UInt8)) : Bool := Nat.blt L.length 1000 && L.all (fun s => Nat.blt s.length 1000000)
theorem small_len : ∀ {L : List (List UInt8)},(∀ s ∈ L,s.length < 1000000) → (Zcv L).length ≤ 1000004 * L.length ∧ L.flatten.length ≤ 1000000 * L.length
 | [],_ => ⟨Nat.zero_le _,Nat.zero_le _⟩
 | s :: L,h => by
  obtain ⟨h1,h2⟩ := small_len (L := L) fun s hs => h s (List.mem_cons_of_mem _ hs)
  have h3 := h s (List.mem_cons_self ..)
  have e : Zcv (s :: L) = (Znd s.length ++ s) ++ Zcv L := rfl
  rw [e,List.flatten_cons]
  simp only [List.length_append,Zc7,List.length_cons]
  omega
theorem Zr5 {L : List (List UInt8)} (h : small L = true) : L.length < 1000 ∧ (Zcv L).length < 1000005000 ∧ L.flatten.length < 1000005000 := by
 unfold small at h
 rw [Bool.and_eq_true] at h
 have h1 := Zcx h.1
 obtain ⟨h2,h3⟩ := small_len (L := L) fun s hs => Zcx (List.all_eq_true.1 h.2 s hs)
 refine ⟨h1,?_,?_⟩ <;> omega
def Zq7 : NatF := fun a m => match a with
 | [s] => match Zny m s with
  | some L => bif small L then some (shaS (digest roundL firstL L),m) else none
  | none => none
 | _ => none
def nOf : NatF := fun a m => match a with
 | [s] => match Zny m s with
  | some L => bif small L then some (shaS (Zd7 roundL firstL L.flatten),m) else none
  | none => none
 | _ => none
theorem Zg2 : ∀ l : List Bs,Zbd l = (Zbs l).flatten
 | [] => rfl
 | x :: l => by
  have := Zg2 l
  simp only [Zbd,Zbs,List.map_cons,List.flatten_cons,List.flatMap_cons] at this ⊢
  rw [this]
theorem nFramed_ok (args : List SV) (m : Mem) (v : SV) (m' : Mem) (h : Zq7 args m = some (v,m')) : Zfj Tryz.prog (Om roundL firstL) (Gd9 roundL firstL) 35 args m v m' := by
 refine ⟨inferInstance,fun W F hG rs ρ vs w hv hb ht hS => ?_⟩
 unfold Zq7 at h
 split at h
 ·rename_i s
  split at h
  ·rename_i L hL
   replace h := Zar h; obtain ⟨hs,h⟩ := h
   cases h
   obtain ⟨u,_,hu,hnil,rfl⟩ := hv
   cases hnil
   obtain ⟨h1,h2,h3⟩ := Zr5 hs
   have hR : Zkb (Om roundL firstL) ρ m.h w noF := fun k ob hk => (hS.rd (List.mem_append_left _ (List.mem_map.2 ⟨(k,ob),Heap.mem_of_get hk,rfl⟩))).ro
   obtain ⟨a,l,c,rfl,rfl,hB⟩ := Zmv hR hu hL
   refine (Zlv a c l roundL firstL w (by omega) (by simp only [Zbs,List.length_map] at h1; omega) (Gl.mono hG fun r hr => (hr.rd hS).ro) hB).mono fun e w' ⟨v,he,hv,hS'⟩ => ⟨v,he,?_⟩
   subst hv
   exact ⟨ρ,Rho.ext.rfl,hb,ht,⟨_,Zla _,rfl⟩,hS.plus hS'⟩
  ·cases h
 ·cases h
theorem nOf_ok (args : List SV) (m : Mem) (v : SV) (m' : Mem) (h : nOf args m = some (v,m')) : Zfj Tryz.prog (Om roundL firstL) (Gd9 roundL firstL) 29 args m v m' := by
 refine ⟨inferInstance,fun W F hG rs ρ vs w hv hb ht hS => ?_⟩
 unfold nOf at h
 split at h
 ·rename_i s
  split at h
  ·rename_i L hL
   replace h := Zar h; obtain ⟨hs,h⟩ := h
   cases h
   obtain ⟨u,_,hu,hnil,rfl⟩ := hv
   cases hnil
   obtain ⟨h1,h2,h3⟩ := Zr5 hs
   have hR : Zkb (Om roundL firstL) ρ m.h w noF := fun k ob hk => (hS.rd (List.mem_append_left _ (List.mem_map.2 ⟨(k,ob),Heap.mem_of_get hk,rfl⟩))).ro
   obtain ⟨a,l,c,rfl,rfl,hB⟩ := Zmv hR hu hL
   refine (dof_ a c l roundL firstL w (by rw [Zg2]; omega) (by simp only [Zbs,List.length_map] at h1; omega) (Gl.mono hG fun r hr => (hr.rd hS).ro) hB).mono fun e w' ⟨v,he,hv,hS'⟩ => ⟨v,he,?_⟩
   subst hv
   exact ⟨ρ,Rho.ext.rfl,hb,ht,by rw [Zg2]; exact ⟨_,Zla _,rfl⟩,hS.plus hS'⟩
  ·cases h
 ·cases h
def natLD : List (Nat × NatF) := (35,Zq7) :: (29,nOf) :: natL
theorem Zsf : ∀ q ∈ natLD,q.1 < top ∧ NatOk roundL firstL q.1 q.2 :=
 all_cons ⟨by decide,nFramed_ok⟩ <| all_cons ⟨by decide,nOf_ok⟩ natL_ok
def natTD : Tr NatF := Tr.ofList natLD
noncomputable def ctxD : Ctx := ⟨fns,tys,natTD,extTZ⟩
theorem calls_of_runD {n g : Nat} (h : isT (evalC ctxD n (.call g [] ⟨.nil,0⟩)) = true) (w : World) (hG : Gl w noF roundL firstL) : Calls Tryz.prog g #[] w (Ret fun v w' => v = .bool true ∧ St w noF [] w') := by
 unfold isT at h
 split at h
 ·rename_i m' he
  obtain ⟨_,hC⟩ := Zsy (P := Tryz.prog) (Ω := Om roundL firstL) (Gd := Gd9 roundL firstL) (fun t ti ht => tys_ok t ti ht) (fun g fn hg => fns_ok g fn hg) (fun g nf hg => (Zsf _ (Tr.of_ofList (fun q hq => (Zsf q hq).1) hg)).2) (fun g nf hg => (Zsx _ (Tr.of_ofList (fun q hq => (Zsx q hq).1) hg)).2 _) mixed n _ _ he
  refine (hC w noF hG [] (fun _ => none) [] w rfl (fun _ _ => rfl) (Nat.zero_le _) (by rw [res_nil]; exact St.start w)).mono fun e w' ⟨v,hv,ρ',_,_,_,hr,hS⟩ => ⟨v,hv,?_⟩
  cases hr
  exact ⟨rfl,hS.drops⟩
 ·cases h
end
end Cr.Cl
