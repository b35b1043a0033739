/-
  The library's slices.Grow and slices.Concat,of bytes.
  A conversion of bytes to the same type (the model marks the block): the row can be read on. Over any program.
  Layer 7 (inode),the plain law of applying changes: the sectors hold the table that the document tells. No program is in sight.
  Layer 7 (inode),the plain law of opening: what a node's sector tells. No program is in sight.
  A log on a disk that is on and not armed,as one resource: its data sectors.
  Layer 7 (inode): a node's sector,the front.
  Layer 7 (inode): the front.
  The library's bytes.Clone and bytes.Equal.
  Maps that are gone through: a map's entries bear stamps,all below its clock and no two alike; lookups,updates,deletions; 'range' in whatever order. Over any program.
  Maps that are gone through: the entry of a step,a deletion whose result nobody takes,a copy. Over any program.
  Layer 7 (inode): a table in memory as a resource; Get,Nodes.
-/
import Derived.Test.YtjpjbgkjfdhjjaaGreatDoorBsl6
import Derived.Test.YtjpjbgkjfdhjjaaGreatDoorBsl3
import Derived.Test.YtjpjbgkjfdhjjaaGreatDoorBsl5
import Derived.Laws.IdiomRangeMap
import Derived.Test.YtjpjbgkjfdhjjaaGreatDoorBsl2
import Derived.MapKept
namespace Cr
open Go Go.Proofs
set_option maxRecDepth 100000
set_option maxHeartbeats 64000000
attribute [local irreducible] Calls

theorem Z84 (n : Nat) (W : World) (hn : n ≤ 1099511627776) :
  Calls Tryz.prog 169 #[.slice none 0 0,.int .i64 (n : Nat)] W (Ret fun v w => ∃ a c,v = .slice a 0 c ∧ St W noF [own 5 1 a c []] w) := by
 have hS := (St.start W).own_none 5 1 none
 by_cases h0 : n = 0
 ·subst h0
  refine Zab Tryz.func169 rfl Tryz.ntmps169 rfl ?_
  repeat (first|refine Yeb ?_|(refine X_id ?_;first|refine Yaf ?_|refine Yag ?_|refine Yat ?_|refine Ydi ?_|refine Yaz ?_|refine Ybr ?_|refine Ybv ?_)|refine Ye1 ?_|refine Yed ?_)
  exact ⟨none,0,rfl,hS⟩
 ·refine Zab Tryz.func169 rfl Tryz.ntmps169 rfl ?_
  repeat (first|refine Yeb ?_|(refine X_id ?_;first|refine Yaf ?_|refine Yag ?_|refine Yat ?_|refine Ydi ?_|refine Yaz ?_|refine Ybx ?_|refine Ybv ?_)|refine Yfi ?_|refine Yab ?_)
  refine X_yl (Zaq (l := 0) (h := 0) rfl rfl rfl rfl (.inr ⟨_,_,rfl,by omega,by omega,by omega⟩) (.inl ⟨rfl,rfl⟩)) rfl rfl ?_
  rw [sub_zero];repeat (first|refine Yaa ?_|refine Yaf ?_)
  have e0 : ((n : Int) - (((0 : Nat) : Int) - ((0 : Nat) : Int))) = (n : Nat) := by omega
  refine Zyg (m := n) (n := 0) rfl rfl (by first | rfl | (rw [e0]; rfl) | (simp only [e0]; rfl)) rfl rfl rfl rfl hS rfl (by omega) (by omega) (by simp only [maxLen]; omega) (fun a c w hS hc _ => ?_)
  repeat (first|refine Yaa ?_|refine Yaf ?_|refine Yat ?_)
  refine X_yl (Zaq (l := 0) (h := 0) rfl rfl rfl rfl (.inr ⟨_,_,rfl,by omega,by omega,by omega⟩) (.inl ⟨rfl,rfl⟩)) rfl rfl ?_
  rw [sub_zero];repeat (first|refine Yeb ?_|refine Yeq ?_|refine Yep ?_|refine Yed ?_)
  exact ⟨a,c,rfl,hS.head (own.shrink 0)⟩
theorem Zku (a : Option Addr) (c : Nat) (l : List Bs) (W : World) (hB : Bss W noF a l) (hl : l.length ≤ 1099511627776) (hn : (Zah l).length ≤ 1099511627776) :
  Calls Tryz.prog 124 #[.slice a l.length c] W (Ret fun v w => ∃ a' c',v = .slice a' (Zah l).length c' ∧ (Zah l).length ≤ c' ∧ St W noF [own 5 1 a' c' (bv (Zah l))] w) := by
 have hS := St.start W
 have hBr := hB.row
 refine Zab Tryz.func124 rfl Tryz.ntmps124 rfl ?_
 repeat (first|refine Yeb ?_|refine Ye4 ?_|refine Yee ?_|refine Yab ?_)
 refine Zbq (α := Unit) (fun _ => [(0,.slice a l.length c),(3,.int .i64 ((Zah l).length : Nat))]) (fun _ w => St W noF [] w) ?_ ?_
 ·refine Zaj (α := Nat) (fun i => [(0,.slice a l.length c),(3,.int .i64 ((Zah (l.take i)).length : Nat)),(9,.slice a l.length c),(10,.int .i64 (l.length : Nat)),(11,.int .i64 (i : Nat))])
   (fun i w => i ≤ l.length ∧ St W noF [] w) (fun i => l.length - i) 0 ⟨rfl,rfl,rfl,rfl,rfl,trivial⟩ ⟨Nat.zero_le _,hS⟩ ?_
  clear hS;rintro i w ⟨hi,hS⟩
  have hle := Zbl l i
  by_cases hlt : i < l.length
  ·have hx0 : l[i]? = some l[i] := List.getElem?_eq_getElem hlt
   generalize l[i] = x at hx0;have hj := Zcr hx0
   have hle2 := Zbl l (i + 1)
   have hjl : (Zah (l.take (i + 1))).length = (Zah (l.take i)).length + x.s.length := by rw [hj]; simp
   have hr := hBr
   have hx : (l.map Bs.val)[i]? = some (.slice x.a x.s.length x.c) := by simp [hx0,Bs.val]
   obtain ⟨xb,xo,rfl⟩ := (hr.rd hS).base (by intro e; rw [e] at hx; simp at hx)
   repeat (first|refine Yeb ?_|(refine X_id ?_;first|refine Yaf ?_|refine Yag ?_|refine Yat ?_|refine Ya1 ?_|refine Yaz ?_|refine Ybd ?_|refine Yaw ?_|refine Yb7 ?_)|refine Yei ?_|refine Yej ?_)
   refine Zae (i + 1) ⟨rfl,?_,rfl,rfl,rfl,trivial⟩ ⟨by omega,hS⟩ (by omega)
   rw [hjl]; rfl
  ·obtain rfl : i = l.length := by omega
   rw [List.take_length];repeat (first|refine Yeb ?_|refine Yaz ?_|refine Yeo ?_|refine Yeh ?_)
   exact Zbw () ⟨rfl,rfl,trivial⟩ hS
 ·clear hS
  rintro _ w hS
  repeat (first|refine Yaa ?_|refine Yaf ?_|refine Yec ?_)
  refine Zaa _ rfl rfl rfl rfl rfl (Z84 (Zah l).length _ hn) ?_
  rintro _ w ⟨a1,c1,rfl,hS'⟩
  replace hS := hS.plus hS';clear hS';repeat (first|refine Yeb ?_|refine Ye4 ?_|refine Yee ?_|refine Yab ?_)
  refine Zaj (α := Nat × Option Addr × Nat) (fun z => [(6,.slice z.2.1 (Zah (l.take z.1)).length z.2.2),(25,.slice a l.length c),(26,.int .i64 (l.length : Nat)),(27,.int .i64 (z.1 : Nat))])
   (fun z w => z.1 ≤ l.length ∧ (Zah (l.take z.1)).length ≤ z.2.2 ∧ St W noF [own 5 1 z.2.1 z.2.2 (bv (Zah (l.take z.1)))] w) (fun z => l.length - z.1) (0,a1,c1) ⟨rfl,rfl,rfl,rfl,trivial⟩ ⟨Nat.zero_le _,by simp [Zah],hS⟩ ?_
  clear hS;rintro ⟨i,a2,c2⟩ w ⟨hi,hc,hS⟩
  simp only at hi hc hS ⊢
  have hle := Zbl l i
  by_cases hlt : i < l.length
  ·have hx0 : l[i]? = some l[i] := List.getElem?_eq_getElem hlt
   have hxm := List.getElem_mem hlt
   generalize l[i] = x at hx0 hxm;have hj := Zcr hx0
   have hle2 := Zbl l (i + 1)
   have hjl : (Zah (l.take (i + 1))).length = (Zah (l.take i)).length + x.s.length := by rw [hj]; simp
   have hr := hBr
   have hx : (l.map Bs.val)[i]? = some (.slice x.a x.s.length x.c) := by simp [hx0,Bs.val]
   obtain ⟨xb,xo,rfl⟩ := (hr.rd hS).base (by intro e; rw [e] at hx; simp at hx)
   have hbx := hB.all x hxm
   repeat (first|refine Yeb ?_|(refine X_id ?_;first|refine Yaf ?_|refine Yag ?_|refine Ya1 ?_|refine Ybd ?_|refine Yb7 ?_)|refine Yef ?_|refine Yab ?_)
   refine Zas rfl rfl rfl rfl rfl hS (by simp) hc (hbx.rd hS) (by simp) Zdb (by omega) (by simp only [maxLen]; omega) (fun a' c' w hS hc' _ => ?_)
   repeat (first|refine Yeb ?_|refine Yer ?_|refine Yad ?_|refine Yej ?_)
   refine Zae (z := (i,a2,c2)) (i + 1,a',c') ⟨?_,rfl,rfl,rfl,trivial⟩ ⟨by simp only; omega,by simp only; omega,?_⟩ (by simp only; omega)
   ·simp only
    rw [hjl]; rfl
   ·simp only
    rw [hj,Zb8];exact hS
  ·obtain rfl : i = l.length := by omega
   rw [List.take_length] at hS hc ⊢;repeat (first|refine Yeb ?_|refine Yfj ?_|refine Yek ?_|refine Yfd ?_)
   exact ⟨a2,c2,rfl,hc,hS⟩
end Cr
namespace Cr
open Go
set_option maxHeartbeats 64000000
section
variable {P : Program} {o : Oper} {σ : Env} {w : World} {N : Nat} {ds : Md} {K : Env → World → Prop}
variable {x : Operand} {t e : TypeId}
theorem Zf8 {b n c c' d : Nat} {T : TypeId} {cs : List Value} {W : World} {F : Nat → Prop} {rs rest : List Res} (ho : o.op = .convert t t x) (hx : ev σ x = some (.slice (some ⟨b,0,none⟩) n c)) [hu : Und P t (.slice e)] [he : Und P e (.int .u8)]
  (hd : o.dst = some d) (hN : Nat.blt d N = true) (hS : St W F rs w) [hh : HasOwn rs (some ⟨b,0,none⟩) T 1 c' cs rest] (hpos : 0 < cs.length)
  (hk : ∀ w',St W F (row (some ⟨b,0,none⟩) cs :: rest) w' → K ((d,.slice (some ⟨b,0,none⟩) n c) :: σ) w') : X P o N ds σ w K := ⟨fun f ha K' Q' hK => by
 obtain ⟨g,⟨g1,g2,hown,hrest,hdj,hun⟩,s⟩ := hS.perm hh.has
 obtain ⟨hle,hcm,⟨rfl,_⟩ | ⟨b',cells,hbe,rfl,hcz,ht⟩⟩ := hown
 ·rw [Nat.zero_mul] at hle; omega
 ·obtain rfl : b = b' := by simpa using hbe
  have hb : w.heap[b]? = some (.cells cells T (0,0)) := s.agrees b _ (by rw [hun,Zan]; rfl)
  have hS2 : St W F (pts b (.cells cells T (0,0)) :: rest) w := ⟨g,⟨_,g2,rfl,hrest,hdj,hun⟩,s⟩
  have hlt := Zb6 hb
  have hgb : w.heap[b] = .cells cells T (0,0) := (Array.getElem?_eq_some_iff.1 hb).2
  have u : SetBlock w (w.freeze ⟨b,cells.size,none⟩ 1) b (.cells cells T (cells.size,cells.size + 1)) := by
   unfold World.freeze
   rw [if_neg (by omega)];refine ⟨by simp,?_,fun k hk => ?_,rfl,rfl,rfl⟩
   ·rw [Array.getElem?_modify,if_pos rfl,hb]; rfl
   ·rw [Array.getElem?_modify,if_neg (Ne.symm hk)]
  have hexec : (execOp f.eval o).run P w = .ok (.value (.slice (some ⟨b,0,none⟩) n c)) (w.freeze ⟨b,cells.size,none⟩ 1) := by
   have hsh : (shape b).run P w = .ok (some (T,cells.size)) w := by simp [shape,Sem.run,World.shape?,hb]
   have hms : (markStringish ⟨b,0,none⟩).run P w = .ok () (w.freeze ⟨b,cells.size,none⟩ 1) := by
    unfold markStringish
    rw [Sem.run_bind,hsh]
    rfl
   simp [execOp,ho,ha.eval hx,convert,run_underlying hu.und,run_underlying he.und,hms,Result.andThen]
  unfold Oper.wp
  rw [hexec];have := hK _ _ _ (ha.put (Zam hN) (.slice (some ⟨b,0,none⟩) n c)) (hk _ ((hS2.set u).head fun h hh => .inr ⟨b,0,cells,T,_,rfl,hh,fun i v hv => by
   rw [← ht,List.getElem?_take] at hv
   split at hv
   ·simpa using hv
   ·cases hv⟩))
  rw [← hd] at this;exact this⟩
end
end Cr
namespace Cr
open Go Go.Proofs
set_option maxRecDepth 10000
set_option maxHeartbeats 64000000

theorem Zdt (l : List (Int × List UInt8)) : ∀ i,i ≤ l.length → (Zbd l i = false ↔ ((l.take i).map (·.1)).Nodup)
 | 0,_ => by simp [Zbd]
 | i + 1,h => by
  have ih := Zdt l i (by omega)
  have e : (l.take (i + 1)).map (·.1) = (l.take i).map (·.1) ++ [(l.getD i (0,[])).1] := by
   rw [List.take_succ_eq_append_getElem (show i < l.length by omega),List.map_append,List.getD_eq_getElem?_getD,List.getElem?_eq_getElem (show i < l.length by omega)]
   rfl
  rw [e,Zbd,Bool.or_eq_false_iff,ih,List.nodup_append];simp only [decide_eq_false_iff_not]
  constructor
  ·rintro ⟨h1,h2⟩
   refine ⟨h1,by simp,fun a ha b hb => ?_⟩
   rw [List.mem_singleton] at hb;rw [hb];exact fun e => h2 (e ▸ ha)
  ·rintro ⟨h1,_,h2⟩
   exact ⟨h1,fun hm => h2 _ hm _ (List.mem_singleton.2 rfl) rfl⟩
theorem Zoe {l : List (Int × List UInt8)} (h : (l.map (·.1)).Nodup) : Zbd l l.length = false := (Zdt l _ (Nat.le_refl _)).2 (by simpa using h)
theorem Zof {l : List Chg} (h : Zlj l = false) : (l.map (·.no)).Nodup := by
 unfold Zlj at h
 have e : l.length = (l.map fun c => (c.no,([] : List UInt8))).length := by simp
 rw [e] at h;have := (Zdt _ _ (Nat.le_refl _)).1 h
 rw [List.take_length] at this
 simpa [Function.comp_def] using this
theorem Zi5 {l : List (Int × List UInt8)} (h : (l.map (·.1)).Nodup) {m : Int} {s : List UInt8} (hv : (m,s) ∈ l) : Zcg l m = some s := Zqs (Zoe h) hv

/-! ### counting -/
theorem Zvi (g : Nat → Nat) (a k : Nat) (hg : g k = 0) : ∀ n,((List.range n).map fun i => if i = k then a else g i).sum = (if k < n then a else 0) + ((List.range n).map g).sum
 | 0 => by simp
 | n + 1 => by
  rw [List.range_succ,List.map_append,List.sum_append,Zvi g a k hg n,List.map_append,List.sum_append];simp only [List.map_cons,List.map_nil,List.sum_cons,List.sum_nil]
  by_cases h : n = k
  ·subst h; simp [hg]; omega
  ·by_cases h2 : k < n
   ·rw [if_pos h2,if_neg h,if_pos (by omega)]; omega
   ·rw [if_neg h2,if_neg h,if_neg (by omega)]; omega
def wtO (x : Option Nd) : Nat := match x with | some x => nblk x.data.length | none => 0
theorem Zvj (n : Nat) : ∀ A : Ents,(∀ k ∈ Zav A,0 ≤ k ∧ k < n) → (Zav A).Nodup → ((List.range n).map fun i => wtO ((getA (i : Nat) A).map (·.nd))).sum = (A.map fun x => nblk x.2.nd.data.length).sum
 | [],_,_ => by
  have : ∀ n,((List.range n).map fun i : Nat => wtO ((getA (i : Nat) ([] : Ents)).map (·.nd))).sum = 0 := fun n => by
   induction n with
   | zero => rfl
   | succ n ih => rw [List.range_succ,List.map_append,List.sum_append,ih]; simp [getA,wtO]
  simpa using this n
 | x :: A,hk,hn => by
  have hn' : x.1 ∉ Zav A ∧ (Zav A).Nodup := List.nodup_cons.1 hn
  have ih := Zvj n A (fun k h => hk k (List.mem_cons_of_mem _ h)) hn'.2
  have hx := hk x.1 (List.mem_cons_self ..)
  have h0 : wtO ((getA ((x.1.toNat : Nat) : Int) A).map (·.nd)) = 0 := by
   rw [show ((x.1.toNat : Nat) : Int) = x.1 by omega,getA_none.2 hn'.1]; rfl
  have e : (fun i : Nat => wtO ((getA (i : Nat) (x :: A)).map (·.nd))) = fun i => if i = x.1.toNat then nblk x.2.nd.data.length else (fun i : Nat => wtO ((getA (i : Nat) A).map (·.nd))) i := by
   funext i
   simp only [getA]
   by_cases h : i = x.1.toNat
   ·rw [if_pos h,if_pos (by omega)]; rfl
   ·rw [if_neg h,if_neg (by omega)]
  rw [e,Zvi _ _ _ h0,ih,if_pos (by omega)];simp
theorem Zvv (T : Tb) (nb : Nat) : Zvw T nb = (nb : Int) - ((T.map wtO).sum : Nat) := by
 unfold Zvw
 have key : ∀ (T : Tb) (r : Int),T.foldl (fun r x => match x with | some x => r - (nblk x.data.length : Nat) | none => r) r = r - ((T.map wtO).sum : Nat) := by
  intro T
  induction T with
  | nil => intro r; simp
  | cons x T ih =>
   intro r
   rw [List.foldl_cons,ih,List.map_cons,List.sum_cons];cases x <;> simp [wtO] <;> omega
 exact key T nb
theorem Zmd (nb : Nat) : ∀ A : Ents,(∀ x ∈ A,x.2.ok nb) → (Zay A).length = (A.map fun x => nblk x.2.nd.data.length).sum
 | [],_ => rfl
 | x :: A,h => by
  have ih := Zmd nb A fun y hy => h y (List.mem_cons_of_mem _ hy)
  have hx := (h x (List.mem_cons_self ..)).cnt
  simp only [Zay,List.flatMap_cons,List.length_append,List.map_cons,List.sum_cons] at ih ⊢
  rw [ih,hx]
theorem Z2m {A : Ents} {n nb : Nat} (hk : ∀ k ∈ Zav A,0 ≤ k ∧ k < n) (hn : (Zav A).Nodup) (hok : ∀ x ∈ A,x.2.ok nb) : Zvw (tabOf A n) nb = (nb : Int) - ((Zay A).length : Nat) := by
 rw [Zvv,Zmd nb A hok,← Zvj n A hk hn,tabOf,List.map_map]
 rfl
theorem Z1m : ∀ (nb : Nat) (B : List Int),B.Nodup → (∀ b ∈ B,0 ≤ b ∧ b < nb) → (((List.range nb).map fun k => ((k : Nat) : Int)).filter fun b => decide (b ∈ B)).length = B.length
 | 0,B,_,hb => by
  cases B with
  | nil => rfl
  | cons b B => have := hb b (List.mem_cons_self ..); omega
 | nb + 1,B,hn,hb => by
  have ih := Z1m nb (B.erase (nb : Nat)) (hn.erase _) fun b h => by
   have h1 := hb b (List.mem_of_mem_erase h)
   have h2 : b ≠ (nb : Nat) := ((hn.mem_erase_iff).1 h).1
   omega
  have e : ((List.range nb).map fun k => ((k : Nat) : Int)).filter (fun b => decide (b ∈ B)) = ((List.range nb).map fun k => ((k : Nat) : Int)).filter (fun b => decide (b ∈ B.erase (nb : Nat))) := by
   refine List.filter_congr fun x hx => ?_
   obtain ⟨k,hk,rfl⟩ := List.mem_map.1 hx
   have hk := List.mem_range.1 hk
   have : ((k : Nat) : Int) ≠ (nb : Nat) := by omega
   simp [hn.mem_erase_iff,this]
  rw [List.range_succ,List.map_append,List.filter_append,List.length_append,e,ih];by_cases h : ((nb : Nat) : Int) ∈ B
  ·have := List.length_erase_of_mem h
   have h2 : 0 < B.length := List.length_pos_of_mem h
   simp [h]; omega
  ·rw [List.erase_of_not_mem h]
   simp [h]
theorem freeL_mem {A : Ents} {nb : Nat} {b : Int} : b ∈ Zgt A nb ↔ (0 ≤ b ∧ b < nb) ∧ b ∉ Zay A := by
 unfold Zgt
 rw [List.mem_filter,List.mem_map];simp only [List.mem_range,decide_eq_true_eq]
 constructor
 ·rintro ⟨⟨k,hk,rfl⟩,h⟩
  exact ⟨by omega,h⟩
 ·rintro ⟨⟨h1,h2⟩,h⟩
  exact ⟨⟨b.toNat,by omega,by omega⟩,h⟩
theorem Zqy (A : Ents) (nb : Nat) : (Zgt A nb).Nodup := by
 unfold Zgt
 refine List.Nodup.sublist List.filter_sublist ?_
 rw [List.Nodup,List.pairwise_map];exact (List.nodup_range (n := nb)).imp fun h e => h (by omega)
theorem Z0g {A : Ents} {nb : Nat} (hn : (Zay A).Nodup) (hb : ∀ b ∈ Zay A,0 ≤ b ∧ b < nb) : (Zay A).length + (Zgt A nb).length = nb := by
 have h1 := Z1m nb (Zay A) hn hb
 have h2 := List.length_eq_countP_add_countP (l := (List.range nb).map fun k => ((k : Nat) : Int)) (fun b => decide (b ∈ Zay A))
 rw [List.countP_eq_length_filter,List.countP_eq_length_filter,h1] at h2;simp only [List.length_map,List.length_range] at h2
 have e : Zgt A nb = ((List.range nb).map fun k => ((k : Nat) : Int)).filter (fun a => decide ¬(decide (a ∈ Zay A) = true)) := by
  unfold Zgt
  refine List.filter_congr fun x _ => ?_
  simp
 rw [e]; omega

/-! ### one change -/
structure Inv (rd fs : List Int) (dat : List (List UInt8)) (n nb : Nat) (q : List Chg) (z : ApS) (x : Tb × Nat × Bool) : Prop where
 keys : ∀ k ∈ Zav z.A,0 ≤ k ∧ k < n
 nodup : (Zav z.A).Nodup
 pend : ∀ c ∈ q,c.no ∉ Zav z.A
 ok : ∀ s ∈ z.A,s.2.ok nb
 flow : ∀ b ∈ z.free,0 ≤ b ∧ b < nb
 all : (Zay z.A ++ z.free).Nodup
 count : (Zay z.A).length + z.free.length = nb
 front : (Zb7 dat z.w).getD 0 [] = Zcf rd fs n
 node : ∀ i,i < n → (i : Int) ∉ q.map (·.no) → (Zb7 dat z.w).getD (1 + i) [] = match getA (i : Nat) z.A with | some s => stoB s | none => zero64
 at_ : ∀ s ∈ z.A,∀ k b,s.2.blocks[k]? = some b → (Zb7 dat z.w).getD (1 + n + b.toNat) [] = Zgg s.2.nd.data k
 wlen : ∀ v ∈ z.w,v.2.length = 64
 wlow : ∀ v ∈ z.w,1 ≤ v.1 ∧ v.1 < 1 + (n : Int) + nb
 wpend : ∀ v ∈ z.w,v.1 < 1 + (n : Int) → ∀ c ∈ q,v.1 ≠ 1 + c.no
 wfree : ∀ v ∈ z.w,∀ b ∈ z.free,v.1 ≠ 1 + (n : Int) + b
 wnodup : (z.w.map (·.1)).Nodup
 tab : x.1 = tabOf z.A n
 cnt : x.2.1 = z.w.length
 fine : x.2.2 = false
theorem Zi4 (l : List (List UInt8)) (a b : List (Int × List UInt8)) : Zb7 l (a ++ b) = Zb7 (Zb7 l a) b := by simp [Zb7]
theorem Znk (d : List UInt8) (i : Nat) : (Zgg d i).length = 64 := Zbs _
theorem Zdu (s : Sto) : (stoB s).length = 64 := Zbs _
theorem Zvg {A : Ents} {n : Nat} {k : Int} {s : Sto} (h0 : 0 ≤ k) (h1 : k < n) : tabOf (setA k s A) n = (tabOf A n).set k.toNat (some s.nd) := by
 apply List.ext_getElem?
 intro i
 rw [List.getElem?_set];by_cases hi : i < n
 ·rw [Zfg _ hi,Zep]
  by_cases hk : k.toNat = i
  ·rw [if_pos hk,if_pos (by omega),if_pos (by rw [Zb2]; omega)]; rfl
  ·rw [if_neg hk,if_neg (by omega),Zfg _ hi]
 ·have h2 : ∀ A : Ents,(tabOf A n)[i]? = none := fun A => List.getElem?_eq_none (by rw [Zb2]; omega)
  rw [h2,h2,if_neg (by omega)]
theorem Zcx {n : Nat} {bs : List Int} {d : List UInt8} {v : Int × List UInt8} (h : v ∈ Zce n bs d) : ∃ k b,bs[k]? = some b ∧ v = (1 + (n : Int) + b,Zgg d k) := by
 obtain ⟨k,hk,rfl⟩ := List.mem_map.1 h
 have hk := List.mem_range.1 hk
 exact ⟨k,bs[k],List.getElem?_eq_getElem hk,by simp [List.getD_eq_getElem?_getD,hk]⟩
theorem Zxs {n : Nat} {bs : List Int} {d : List UInt8} {k : Nat} {b : Int} (h : bs[k]? = some b) : (1 + (n : Int) + b,Zgg d k) ∈ Zce n bs d := by
 have hk := (List.getElem?_eq_some_iff.1 h).1
 exact List.mem_map.2 ⟨k,List.mem_range.2 hk,by simp [List.getD_eq_getElem?_getD,h]⟩
theorem Zuu (n : Nat) (bs : List Int) (d : List UInt8) : (Zce n bs d).map (·.1) = bs.map fun b => 1 + (n : Int) + b := by
 apply List.ext_getElem
 ·simp [Zce]
 ·intro i h1 h2
  simp [Zce] at h1 h2 ⊢
  simp [h1]
theorem Inv.step {rd fs : List Int} {dat : List (List UInt8)} {n nb : Nat} {c : Chg} {q : List Chg} {z : ApS} {x : Tb × Nat × Bool} (hlen : dat.length = 1 + n + nb) (h : Inv rd fs dat n nb (c :: q) z x) (hc0 : 0 ≤ c.no) (hc1 : c.no < n) (hq : ∀ c' ∈ q,c'.no ≠ c.no)
  (hst : c.drop = false → c.nd.st.check = 0 ∧ c.nd.data.length ≤ 512) :
  (z.step n c = none ∧ (Zgo x nb c).2.2 = true) ∨ ∃ z',z.step n c = some z' ∧ Inv rd fs dat n nb q z' (Zgo x nb c) := by
 have hcA : c.no ∉ Zav z.A := h.pend c (List.mem_cons_self ..)
 have hll : ∀ a,(Zb7 dat a).length = 1 + n + nb := fun a => by rw [Zaw]; exact hlen
 by_cases hd : c.drop = true
 ·right
  have e : Zgo x nb c = (x.1,x.2.1 + 1,false) := by unfold Zgo; rw [if_neg (by simp [h.fine]),if_pos hd]
  refine ⟨_,by unfold ApS.step; rw [if_pos hd],?_⟩
  rw [e];have hget : ∀ k,k < 1 + n + nb → (Zb7 dat (z.w ++ [(1 + c.no,zero64)])).getD k [] = if (k : Int) = 1 + c.no then zero64 else (Zb7 dat z.w).getD k [] := fun k hk => by
   rw [Zi4,Zc8 _ _ _ (by rw [hll]; exact hk) (fun v hv => by rw [List.mem_singleton] at hv; rw [hv]; simp only; omega),Zdy]
   by_cases hk2 : (k : Int) = 1 + c.no
   ·rw [if_pos hk2,if_pos hk2.symm]; rfl
   ·rw [if_neg hk2,if_neg (fun e => hk2 e.symm)]; rfl
  refine ⟨h.keys,h.nodup,fun c' hc' => h.pend c' (List.mem_cons_of_mem _ hc'),h.ok,h.flow,h.all,h.count,?_,?_,?_,?_,?_,?_,?_,?_,h.tab,by simp [h.cnt],rfl⟩
  ·rw [hget 0 (by omega),if_neg (by omega)]; exact h.front
  ·intro i hi hiq
   rw [hget _ (by omega)];by_cases hic : ((1 + i : Nat) : Int) = 1 + c.no
   ·rw [if_pos hic]
    have : ((i : Nat) : Int) = c.no := by omega
    simp only [this,getA_none.2 hcA]
   ·rw [if_neg hic]
    exact h.node i hi fun hm => by
     rcases List.mem_cons.1 hm with e | e
     ·have e : ((i : Nat) : Int) = c.no := e
      omega
     ·exact hiq e
  ·intro s hs k b hb
   have hb2 := (h.ok s hs).low b (List.mem_of_getElem? hb)
   rw [hget _ (by omega),if_neg (by omega)];exact h.at_ s hs k b hb
  ·intro v hv
   rcases List.mem_append.1 hv with hv | hv
   ·exact h.wlen v hv
   ·rw [List.mem_singleton] at hv; rw [hv]; simp [zero64]
  ·intro v hv
   rcases List.mem_append.1 hv with hv | hv
   ·exact h.wlow v hv
   ·rw [List.mem_singleton] at hv; rw [hv]; simp only; omega
  ·intro v hv hlt c' hc'
   rcases List.mem_append.1 hv with hv | hv
   ·exact h.wpend v hv hlt c' (List.mem_cons_of_mem _ hc')
   ·rw [List.mem_singleton] at hv; rw [hv]; simp only
    have := hq c' hc'
    omega
  ·intro v hv b hb
   rcases List.mem_append.1 hv with hv | hv
   ·exact h.wfree v hv b hb
   ·have := h.flow b hb
    rw [List.mem_singleton] at hv; rw [hv]; simp only; omega
  ·rw [List.map_append,List.nodup_append]
   refine ⟨h.wnodup,by simp,fun a ha b hb => ?_⟩
   simp only [List.map_cons,List.map_nil,List.mem_singleton] at hb
   obtain ⟨v,hv,rfl⟩ := List.mem_map.1 ha
   rw [hb];by_cases hlt : v.1 < 1 + (n : Int)
   ·exact h.wpend v hv hlt c (List.mem_cons_self ..)
   ·omega
 ·have hd' : c.drop = false := by simpa using hd
  obtain ⟨hst1,hst2⟩ := hst hd'
  have hroom : Zvw x.1 nb = (z.free.length : Nat) := by
   rw [h.tab,Z2m h.keys h.nodup h.ok];have := h.count
   omega
  by_cases hr : z.free.length < nblk c.nd.data.length
  ·left
   refine ⟨by unfold ApS.step; rw [if_neg hd,if_pos hr],?_⟩
   unfold Zgo
   rw [if_neg (by simp [h.fine]),if_neg hd,if_pos (by rw [hroom]; omega)]
  ·right
   have e : Zgo x nb c = (x.1.set c.no.toNat (some c.nd),x.2.1 + 1 + nblk c.nd.data.length,false) := by
    unfold Zgo
    rw [if_neg (by simp [h.fine]),if_neg hd,if_neg (by rw [hroom]; omega)]
   obtain ⟨bs,hbs⟩ : ∃ bs,bs = z.free.take (nblk c.nd.data.length) := ⟨_,rfl⟩
   obtain ⟨fr,hfr⟩ : ∃ fr,fr = z.free.drop (nblk c.nd.data.length) := ⟨_,rfl⟩
   have hbl : bs.length = nblk c.nd.data.length := by rw [hbs,List.length_take]; omega
   have hsp : z.free = bs ++ fr := by rw [hbs,hfr,List.take_append_drop]
   refine ⟨_,by unfold ApS.step; rw [if_neg hd,if_neg hr,← hbs,← hfr],?_⟩
   rw [e];have hset : setA c.no (⟨c.nd,bs⟩ : Sto) z.A = z.A ++ [(c.no,⟨c.nd,bs⟩)] := Zr0 hcA
   have hbo : Zay (setA c.no (⟨c.nd,bs⟩ : Sto) z.A) = Zay z.A ++ bs := by rw [hset]; simp [Zay]
   have hall := h.all
   rw [hsp] at hall;have hnA := List.nodup_append.1 hall
   have hnF := List.nodup_append.1 hnA.2.1
   have hlowb : ∀ b ∈ bs,0 ≤ b ∧ b < nb := fun b hb => h.flow b (by rw [hsp]; exact List.mem_append_left _ hb)
   have hxs0 : ∀ v ∈ Zce n bs c.nd.data ++ [(1 + c.no,stoB ⟨c.nd,bs⟩)],0 ≤ v.1 := fun v hv => by
    rcases List.mem_append.1 hv with hv | hv
    ·obtain ⟨k,b,hb,rfl⟩ := Zcx hv
     have := hlowb b (List.mem_of_getElem? hb)
     simp only; omega
    ·rw [List.mem_singleton] at hv; rw [hv]; simp only; omega
   have hxn : ((Zce n bs c.nd.data ++ [(1 + c.no,stoB ⟨c.nd,bs⟩)]).map (·.1)).Nodup := by
    rw [List.map_append,Zuu,List.nodup_append];refine ⟨?_,by simp,fun a ha b hb => ?_⟩
    ·rw [List.Nodup,List.pairwise_map]
     exact hnF.1.imp fun h e => h (by omega)
    ·simp only [List.map_cons,List.map_nil,List.mem_singleton] at hb
     obtain ⟨y,hy,rfl⟩ := List.mem_map.1 ha
     have := hlowb y hy
     omega
   have hget : ∀ k,k < 1 + n + nb → (Zb7 dat (z.w ++ (Zce n bs c.nd.data ++ [(1 + c.no,stoB ⟨c.nd,bs⟩)]))).getD k [] = (Zcg (Zce n bs c.nd.data ++ [(1 + c.no,stoB ⟨c.nd,bs⟩)]) k).getD ((Zb7 dat z.w).getD k []) := fun k hk => by
    rw [Zi4,Zc8 _ _ _ (by rw [hll]; exact hk) hxs0]
   have hnone : ∀ k : Nat,(k : Int) ≠ 1 + c.no → (∀ b ∈ bs,(k : Int) ≠ 1 + (n : Int) + b) → Zcg (Zce n bs c.nd.data ++ [(1 + c.no,stoB ⟨c.nd,bs⟩)]) k = none := fun k h1 h2 => by
    refine Zgr fun v hv e => ?_
    rcases List.mem_append.1 hv with hv | hv
    ·obtain ⟨i,b,hb,rfl⟩ := Zcx hv
     exact h2 b (List.mem_of_getElem? hb) e.symm
    ·rw [List.mem_singleton] at hv; rw [hv] at e; exact h1 e.symm
   refine ⟨?_,?_,?_,?_,?_,?_,?_,?_,?_,?_,?_,?_,?_,?_,?_,?_,?_,rfl⟩
   ·intro k hk
    rw [hset] at hk;simp only [Zav,List.map_append,List.map_cons,List.map_nil,List.mem_append,List.mem_singleton] at hk
    rcases hk with hk | rfl
    ·exact h.keys k hk
    ·exact ⟨hc0,hc1⟩
   ·rw [hset]
    simp only [Zav,List.map_append,List.map_cons,List.map_nil]
    rw [List.nodup_append];refine ⟨h.nodup,by simp,fun a ha b hb => ?_⟩
    rw [List.mem_singleton] at hb;rw [hb];exact fun e => hcA (e ▸ ha)
   ·intro c' hc' hm
    rw [hset] at hm;simp only [Zav,List.map_append,List.map_cons,List.map_nil,List.mem_append,List.mem_singleton] at hm
    rcases hm with hm | hm
    ·exact h.pend c' (List.mem_cons_of_mem _ hc') hm
    ·exact hq c' hc' hm
   ·intro s hs
    rw [hset] at hs;rcases List.mem_append.1 hs with hs | hs
    ·exact h.ok s hs
    ·rw [List.mem_singleton] at hs; rw [hs]
     exact ⟨hst1,hst2,hbl,hlowb⟩
   ·intro b hb
    exact h.flow b (by rw [hsp]; exact List.mem_append_right _ hb)
   ·rw [hbo,List.append_assoc]; exact hall
   ·show (Zay (setA c.no (⟨c.nd,bs⟩ : Sto) z.A)).length + fr.length = nb
    rw [hbo,List.length_append];have := h.count
    rw [hsp,List.length_append] at this;omega
   ·rw [hget 0 (by omega),hnone 0 (by omega) (fun b hb => by have := hlowb b hb; omega)]; exact h.front
   ·intro i hi hiq
    simp only [Zep]
    rw [hget _ (by omega)];by_cases hic : ((i : Nat) : Int) = c.no
    ·rw [if_pos hic,show ((1 + i : Nat) : Int) = 1 + c.no by omega,Zi5 hxn (List.mem_append_right _ (List.mem_singleton.2 rfl))]; rfl
    ·rw [if_neg hic,hnone _ (by omega) (fun b hb => by have := hlowb b hb; omega)]
     exact h.node i hi fun hm => by
      rcases List.mem_cons.1 hm with e | e
      ·exact hic e
      ·exact hiq e
   ·intro s hs k b hb
    rw [hset] at hs;rcases List.mem_append.1 hs with hs | hs
    ·have hb1 := List.mem_of_getElem? hb
     have hb2 := (h.ok s hs).low b hb1
     rw [hget _ (by omega),hnone _ (by omega) (fun b' hb' e => ?_)]
     ·exact h.at_ s hs k b hb
     ·refine hnA.2.2 b (List.mem_flatMap.2 ⟨s,hs,hb1⟩) b' (List.mem_append_left _ hb') ?_
      have := hlowb b' hb'
      omega
    ·rw [List.mem_singleton] at hs
     subst hs
     have hb2 := hlowb b (List.mem_of_getElem? hb)
     rw [hget _ (by omega),show ((1 + n + b.toNat : Nat) : Int) = 1 + (n : Int) + b by omega,Zi5 hxn (List.mem_append_left _ (Zxs hb))]; rfl
   ·intro v hv
    rcases List.mem_append.1 hv with hv | hv
    ·exact h.wlen v hv
    ·rcases List.mem_append.1 hv with hv | hv
     ·obtain ⟨k,b,hb,rfl⟩ := Zcx hv
      exact Znk ..
     ·rw [List.mem_singleton] at hv; rw [hv]; exact Zdu _
   ·intro v hv
    rcases List.mem_append.1 hv with hv | hv
    ·exact h.wlow v hv
    ·rcases List.mem_append.1 hv with hv | hv
     ·obtain ⟨k,b,hb,rfl⟩ := Zcx hv
      have := hlowb b (List.mem_of_getElem? hb)
      simp only; omega
     ·rw [List.mem_singleton] at hv; rw [hv]; simp only; omega
   ·intro v hv hlt c' hc'
    rcases List.mem_append.1 hv with hv | hv
    ·exact h.wpend v hv hlt c' (List.mem_cons_of_mem _ hc')
    ·rcases List.mem_append.1 hv with hv | hv
     ·obtain ⟨k,b,hb,rfl⟩ := Zcx hv
      have := hlowb b (List.mem_of_getElem? hb)
      simp only at hlt; omega
     ·rw [List.mem_singleton] at hv; rw [hv]; simp only
      have := hq c' hc'
      omega
   ·intro v hv b hb
    rcases List.mem_append.1 hv with hv | hv
    ·exact h.wfree v hv b (by rw [hsp]; exact List.mem_append_right _ hb)
    ·rcases List.mem_append.1 hv with hv | hv
     ·obtain ⟨k,b',hb',rfl⟩ := Zcx hv
      have := hnF.2.2 b' (List.mem_of_getElem? hb') b hb
      simp only; omega
     ·have := h.flow b (by rw [hsp]; exact List.mem_append_right _ hb)
      rw [List.mem_singleton] at hv; rw [hv]; simp only; omega
   ·rw [List.map_append,List.nodup_append]
    refine ⟨h.wnodup,hxn,fun a ha b hb => ?_⟩
    obtain ⟨v,hv,rfl⟩ := List.mem_map.1 ha
    obtain ⟨u,hu,rfl⟩ := List.mem_map.1 hb
    rcases List.mem_append.1 hu with hu | hu
    ·obtain ⟨k,b',hb',rfl⟩ := Zcx hu
     exact h.wfree v hv b' (by rw [hsp]; exact List.mem_append_left _ (List.mem_of_getElem? hb'))
    ·rw [List.mem_singleton] at hu; rw [hu]; simp only
     by_cases hlt : v.1 < 1 + (n : Int)
     ·exact h.wpend v hv hlt c (List.mem_cons_self ..)
     ·omega
   ·rw [h.tab,Zvg hc0 hc1]
   ·simp only [h.cnt,List.length_append,List.length_cons,List.length_nil,Zce,List.length_map,List.length_range,hbl]; omega
theorem Zoi {nb : Nat} : ∀ (q : List Chg) (x : Tb × Nat × Bool),x.2.2 = true → (q.foldl (fun x c => Zgo x nb c) x).2.2 = true
 | [],_,h => h
 | c :: q,x,h => Zoi q _ (by show (Zgo x nb c).2.2 = true; unfold Zgo; rw [if_pos h]; exact h)
theorem Inv.run {rd fs : List Int} {dat : List (List UInt8)} {n nb : Nat} (hlen : dat.length = 1 + n + nb) : ∀ {q : List Chg} {z : ApS} {x : Tb × Nat × Bool},Inv rd fs dat n nb q z x → (∀ c ∈ q,0 ≤ c.no ∧ c.no < n) → (q.map (·.no)).Nodup → (∀ c ∈ q,c.drop = false → c.nd.st.check = 0 ∧ c.nd.data.length ≤ 512) →
  (z.run n q = none ∧ (q.foldl (fun x c => Zgo x nb c) x).2.2 = true) ∨ ∃ z',z.run n q = some z' ∧ Inv rd fs dat n nb [] z' (q.foldl (fun x c => Zgo x nb c) x)
 | [],z,x,h,_,_,_ => .inr ⟨z,rfl,h⟩
 | c :: q,z,x,h,h1,h2,h3 => by
  have h2' : c.no ∉ q.map (·.no) ∧ (q.map (·.no)).Nodup := List.nodup_cons.1 h2
  have hc := h1 c (List.mem_cons_self ..)
  rcases h.step hlen hc.1 hc.2 (fun c' hc' e => h2'.1 (List.mem_map.2 ⟨c',hc',e⟩)) (h3 c (List.mem_cons_self ..)) with ⟨e1,e2⟩ | ⟨z',e1,h'⟩
  ·left
   refine ⟨by simp [ApS.run,e1],?_⟩
   rw [List.foldl_cons]; exact Zoi q _ e2
  ·rcases h'.run hlen (fun c' hc' => h1 c' (List.mem_cons_of_mem _ hc')) h2'.2 (fun c' hc' => h3 c' (List.mem_cons_of_mem _ hc')) with ⟨g1,g2⟩ | ⟨z2,g1,g2⟩
   ·exact .inl ⟨by simp [ApS.run,e1,g1],g2⟩
   ·exact .inr ⟨z2,by simp [ApS.run,e1,g1],g2⟩
/-! ### all changes -/
theorem Zf7 {k : Int} : ∀ (l : List Chg) (A : Ents),(Zav A).Nodup → getA k (Zea A l) = if k ∈ l.map (·.no) then none else getA k A
 | [],A,_ => by simp [Zea]
 | c :: l,A,h => by
  have ih := Zf7 (k := k) l (delA c.no A) (h.sublist Zij)
  have e : Zea A (c :: l) = Zea (delA c.no A) l := rfl
  rw [e,ih,Zht h];by_cases h1 : k = c.no
  ·simp [h1]
  ·simp [h1]
theorem Zl8 : ∀ (l : List Chg) (A : Ents),(Zea A l).Sublist A
 | [],_ => List.Sublist.refl _
 | c :: l,A => (Zl8 l (delA c.no A)).trans Zni
theorem Zpa : ∀ (l : List Chg) (T : Tb),(∀ c ∈ l,0 ≤ c.no) → ∀ i,i < T.length → (Zjd T l)[i]? = if (i : Int) ∈ l.map (·.no) then some none else T[i]?
 | [],T,_,i,_ => by simp [Zjd]
 | c :: l,T,h,i,hi => by
  have e : Zjd T (c :: l) = Zjd (T.set c.no.toNat none) l := rfl
  have hc := h c (List.mem_cons_self ..)
  rw [e,Zpa l _ (fun c' hc' => h c' (List.mem_cons_of_mem _ hc')) i (by simpa using hi),List.getElem?_set];have hmc : ((i : Int) ∈ (c :: l).map (·.no)) ↔ ((i : Int) = c.no ∨ (i : Int) ∈ l.map (·.no)) := by simp
  by_cases hm : (i : Int) ∈ l.map (·.no)
  ·rw [if_pos hm,if_pos (hmc.2 (.inr hm))]
  ·rw [if_neg hm]
   by_cases h1 : c.no.toNat = i
   ·have h2 : (i : Int) = c.no := by omega
    rw [if_pos h1,if_pos (by rw [h1]; exact hi),if_pos (hmc.2 (.inl h2))]
   ·rw [if_neg h1,if_neg (fun h => (hmc.1 h).elim (fun e => h1 (by omega)) hm)]
theorem Zi7 : ∀ (l : List Chg) (T : Tb),(Zjd T l).length = T.length
 | [],_ => rfl
 | c :: l,T => by
  have e : Zjd T (c :: l) = Zjd (T.set c.no.toNat none) l := rfl
  rw [e,Zi7 l]; simp
theorem Z0l {A : Ents} {n : Nat} {l : List Chg} (h : ∀ c ∈ l,0 ≤ c.no) (hn : (Zav A).Nodup) : Zjd (tabOf A n) l = tabOf (Zea A l) n := by
 apply List.ext_getElem?
 intro i
 by_cases hi : i < n
 ·rw [Zpa l _ h i (by rw [Zb2]; exact hi),Zfg _ hi,Zfg _ hi,Zf7 l A hn]
  split <;> rfl
 ·rw [List.getElem?_eq_none (by rw [Zi7,Zb2]; omega),List.getElem?_eq_none (by rw [Zb2]; omega)]
theorem Zq9 : ∀ {l : List Chg},badC l = 0 → ∀ c ∈ l,c.drop = false → c.nd.st.check = 0 ∧ c.nd.data.length ≤ 512
 | c :: l,h,c',hc',hd => by
  unfold badC at h
  rcases List.mem_cons.1 hc' with rfl | hc'
  ·rw [if_neg (by simp [hd])] at h
   split at h
   ·rename_i h1; exact absurd h h1
   ·rename_i h1
    split at h
    ·cases h
    ·exact ⟨by simpa using h1,by omega⟩
  ·split at h
   ·exact Zq9 h c' hc' hd
   ·split at h
    ·rename_i h1; exact absurd h h1
    ·split at h
     ·cases h
     ·exact Zq9 h c' hc' hd
structure Right (l : List Chg) (n : Nat) : Prop where
 low : ∀ c ∈ l,0 ≤ c.no ∧ c.no < n
 nodup : (l.map (·.no)).Nodup
 ok : ∀ c ∈ l,c.drop = false → c.nd.st.check = 0 ∧ c.nd.data.length ≤ 512
theorem Zzh {l : List Chg} {n : Nat} (h : Zeu l n = 0) : Right l n := by
 unfold Zeu at h
 split at h
 ·cases h
 ·rename_i h1
  split at h
  ·cases h
  ·rename_i h2
   refine ⟨fun c hc => ?_,Zof (by simpa using h2),Zq9 h⟩
   have h3 : ¬ ((decide (c.no < 0) || decide ((n : Int) ≤ c.no)) = true) := fun e => h1 (List.any_eq_true.2 ⟨c,hc,e⟩)
   simp at h3
   omega
theorem Zus {A : Ents} {nb : Nat} (h : ∀ x ∈ A,x.2.ok nb) : ∀ b ∈ Zay A,0 ≤ b ∧ b < nb := fun b hb => by
 obtain ⟨x,hx,hbx⟩ := List.mem_flatMap.1 hb
 exact (h x hx).low b hbx
theorem Zur {A B : Ents} (h : A.Sublist B) : (Zay A).Sublist (Zay B) := by
 induction h with
 | slnil => exact List.Sublist.refl _
 | cons a _ ih => exact ih.trans (List.sublist_append_right _ _)
 | cons_cons a _ ih => exact ih.append_left _
theorem Inv.start {rd fs : List Int} {dat : List (List UInt8)} {n nb : Nat} {A : Ents} {l : List Chg} (hE : Enc rd fs dat n nb A) (hl : Right l n) : Inv rd fs dat n nb l (ApS.start A nb l) (Zjd (tabOf A n) l,0,false) := by
 have hsub := Zl8 l A
 have hok : ∀ s ∈ Zea A l,s.2.ok nb := fun s hs => hE.ok s (hsub.mem hs)
 have hbn : (Zay (Zea A l)).Nodup := hE.apart.sublist (Zur hsub)
 refine ⟨fun k hk => hE.keys k ((hsub.map _).mem hk),hE.nodup.sublist (hsub.map _),fun c hc hm => ?_,hok,fun b hb => (freeL_mem.1 hb).1,?_,Z0g hbn (Zus hok),hE.front,?_,?_,(fun v hv => by cases hv),(fun v hv => by cases hv),(fun v hv => by cases hv),(fun v hv => by cases hv),List.nodup_nil,Z0l (fun c hc => (hl.low c hc).1) hE.nodup,rfl,rfl⟩
 ·have := Zf7 (k := c.no) l A hE.nodup
  rw [if_pos (List.mem_map.2 ⟨c,hc,rfl⟩)] at this;exact getA_none.1 this hm
 ·rw [List.nodup_append]
  exact ⟨hbn,Zqy _ _,fun a ha b hb e => (freeL_mem.1 hb).2 (e ▸ ha)⟩
 ·intro i hi hil
  have := hE.node i hi
  show dat.getD (1 + i) [] = match getA (i : Nat) (Zea A l) with | some s => stoB s | none => zero64
  rw [Zf7 l A hE.nodup,if_neg hil];exact this
 ·intro s hs k b hb
  exact hE.at_ s (hsub.mem hs) k b hb
theorem Zxu {rd fs : List Int} {dat : List (List UInt8)} {n nb : Nat} {A : Ents} {l : List Chg} (hE : Enc rd fs dat n nb A) (hl : Right l n) :
  ((ApS.start A nb l).run n l = none ∧ (runT (tabOf A n) nb l).2.2 = true) ∨
  ∃ z,(ApS.start A nb l).run n l = some z ∧ (runT (tabOf A n) nb l) = (tabOf z.A n,z.w.length,false) ∧ Enc rd fs (Zb7 dat z.w) n nb z.A ∧ Zca z.w = 0 ∧ hasM ((1 + n + nb : Nat) : Int) z.w = true := by
 rcases (Inv.start hE hl).run hE.len hl.low hl.nodup hl.ok with ⟨h1,h2⟩ | ⟨z,h1,h⟩
 ·exact .inl ⟨h1,h2⟩
 ·refine .inr ⟨z,h1,?_,⟨by rw [Zaw]; exact hE.len,h.front,h.keys,h.nodup,fun i hi => h.node i hi (by simp),h.ok,h.at_,(List.nodup_append.1 h.all).1⟩,?_,?_⟩
  ·have e1 := h.tab
   have e2 := h.cnt
   have e3 := h.fine
   have e : runT (tabOf A n) nb l = l.foldl (fun x c => Zgo x nb c) (Zjd (tabOf A n) l,0,false) := rfl
   rw [e];generalize l.foldl (fun x c => Zgo x nb c) (Zjd (tabOf A n) l,0,false) = x at e1 e2 e3 ⊢;obtain ⟨x1,x2,x3⟩ := x
   simp only at e1 e2 e3
   rw [e1,e2,e3]
  ·unfold Zca
   rw [if_neg ?_,if_neg (by rw [Zoe h.wnodup]; simp)]
   intro hb
   obtain ⟨v,hv,hb⟩ := List.any_eq_true.1 hb
   have h1 := h.wlen v hv
   have h2 := h.wlow v hv
   unfold badW at hb
   simp [h1] at hb
   omega
  ·unfold hasM
   rw [List.all_eq_true];intro v hv
   have h2 := h.wlow v hv
   simp; omega
theorem Zwe {n : Nat} (h : n ≤ 512) : nblk n ≤ 8 := by unfold nblk; omega
end Cr
namespace Cr
open Go Go.Proofs
set_option maxRecDepth 100000
set_option maxHeartbeats 64000000
attribute [local irreducible] Calls

structure QlogOk (D : DiskM) (j m : Nat) (done : Int) (dat : List (List UInt8)) : Prop where
 q : Quiet D (1 + j + dat.length)
 line : D.line = []
 d0 : 0 ≤ done
 dm : done ≤ (m : Nat)
 jl : j ≤ 1024
 at_ : ∀ k,k < dat.length → D.laid.getD (1 + j + k) [] = dat.getD k []
def qlog (lp p j m : Nat) (dat : List (List UInt8)) : Res := fun h => ∃ D done,QlogOk D j m done dat ∧ Sep [Zcd lp p 1 0 0 j done false,disk p D] h
theorem Rd.qlog {w : World} {lp p j m : Nat} {dat : List (List UInt8)} (h : Rd w (Cr.qlog lp p j m dat)) : ∃ D done,QlogOk D j m done dat ∧ Rd w (Zcd lp p 1 0 0 j done false) ∧ Rd w (Cr.disk p D) := by
 obtain ⟨f,⟨D,done,hq,hs⟩,ha⟩ := h
 have hr := Rd.sep ⟨f,hs,ha⟩
 exact ⟨D,done,hq,hr _ (List.mem_cons_self ..),hr _ (List.mem_cons_of_mem _ (List.mem_cons_self ..))⟩
theorem St.openQlog {W : World} {F : Nat → Prop} {lp p j m : Nat} {dat : List (List UInt8)} {rs : List Res} {w : World} (hS : St W F (qlog lp p j m dat :: rs) w) : ∃ D done,QlogOk D j m done dat ∧ St W F (Zcd lp p 1 0 0 j done false :: disk p D :: rs) w := by
 obtain ⟨h,⟨h1,h2,⟨D,done,hq,hs⟩,hr,hd,hu⟩,s⟩ := hS
 exact ⟨D,done,hq,h,Sep.append_mk hs hr hd hu,s⟩
theorem St.shutQlog {W : World} {F : Nat → Prop} {lp p j m : Nat} {dat : List (List UInt8)} {rs : List Res} {w : World} {D : DiskM} {done : Int} (hq : QlogOk D j m done dat) (hS : St W F (Zcd lp p 1 0 0 j done false :: disk p D :: rs) w) : St W F (qlog lp p j m dat :: rs) w :=
 St.shutR (rs' := [Zcd lp p 1 0 0 j done false,disk p D]) hS fun _ hh => ⟨D,done,hq,hh⟩
theorem qlen {w : World} {lp p j m : Nat} {dat : List (List UInt8)} (h : Rd w (Cr.qlog lp p j m dat)) : 1 + j + dat.length ≤ 4096 ∧ ∀ s ∈ dat,s.length = 64 := by
 obtain ⟨D,done,hq,_,hD⟩ := h.qlog
 have hok := hD.disk.1
 have h1 := hok.most
 rw [hq.q.len] at h1;refine ⟨h1,fun s hs => ?_⟩
 obtain ⟨k,hk,rfl⟩ := List.mem_iff_getElem.1 hs
 have h2 := hq.at_ k hk
 rw [List.getD_eq_getElem?_getD,List.getD_eq_getElem?_getD,List.getElem?_eq_getElem hk,List.getElem?_eq_getElem (show 1 + j + k < D.laid.length by rw [hq.q.len]; omega)] at h2
 simp only [Option.getD_some] at h2
 rw [← h2];exact hok.laid64 _ (List.getElem_mem _)
theorem Zon (lp p j m : Nat) (dat : List (List UInt8)) (W : World) (h : Rd W (qlog lp p j m dat)) :
  Calls Tryz.prog 115 #[.pointer (some ⟨lp,0,none⟩)] W (Ret fun v w => v = .int .i64 (dat.length : Nat) ∧ St W noF [] w) := by
 obtain ⟨D,done,hq,hL,hD⟩ := h.qlog
 have hj := hq.jl
 have := Zek lp p 1 0 0 j done false D W hL hD (by omega)
 rwa [show (D.laid.length : Int) - 1 - j = (dat.length : Nat) by rw [hq.q.len]; omega] at this
theorem Z5z (lp p j m : Nat) (dat : List (List UInt8)) (no : Nat) (W : World) (h : Rd W (qlog lp p j m dat)) (hno : no < dat.length) :
  Calls Tryz.prog 62 #[.pointer (some ⟨lp,0,none⟩),.int .i64 (no : Nat)] W (Ret fun v w => ∃ a c,v = .tuple #[.slice a 64 c,.int .i64 0] ∧ 64 ≤ c ∧ St W noF [bytes a (dat.getD no [])] w) := by
 have h64 := (qlen h).2
 obtain ⟨D,done,hq,hL,hD⟩ := h.qlog
 have hj := hq.jl
 have := Z4c lp p 1 0 0 j done false D (no : Nat) W hL hD (by omega) (by rw [hq.line]; simp)
 have hl := hq.q.len
 have e : Zgb D j (no : Nat) = (0,dat.getD no []) := by
  unfold Zgb DiskM.read
  rw [if_neg (by simp [hq.q.off]),if_neg (by omega),if_neg (by simp [hq.q.off]),if_neg (by simp [Zc9]; omega),Zug hq.line,show ((1 : Int) + j + (no : Nat)).toNat = 1 + j + no by omega,hq.at_ no hno]
 have e2 : (dat.getD no []).length = 64 := by
  rw [List.getD_eq_getElem?_getD,List.getElem?_eq_getElem hno];exact h64 _ (List.getElem_mem _)
 rw [e] at this;simp only [e2] at this
 exact this
theorem Zr5 (lp p j m : Nat) (dat : List (List UInt8)) (a : Option Addr) (c : Nat) (l : List Wr) (rd fs : List Int) (W : World) (F : Nat → Prop) (hG : Gl W F rd fs) (hW : Wrs W F a l) (hl : l.length ≤ 1048576) (hm : (m : Int) < last)
  (hc : Zca (l.map Wr.data) = 0) (hh : hasM (dat.length : Nat) (l.map Wr.data) = true) (hS : St W F [qlog lp p j m dat] W) :
  Calls Tryz.prog 65 #[.pointer (some ⟨lp,0,none⟩),.slice a l.length c] W (Ret fun v w =>
   (j / 2 < l.length ∧ v = .int .i64 6 ∧ St W F [qlog lp p j m dat] w) ∨ (l.length ≤ j / 2 ∧ v = .int .i64 0 ∧ St W F [qlog lp p j (m + 1) (Zb7 dat (l.map Wr.data))] w)) := by
 obtain ⟨D,done,hq,hS⟩ := hS.openQlog
 have hj := hq.jl
 have h0 := hq.d0
 have hdm := hq.dm
 have hlen := hq.q.len
 have hgood := Zet hc
 have hx64 : ∀ v ∈ l,v.x.s.length ≤ 140737488355328 := fun v hv => by
  have := (hgood v.data (List.mem_map.2 ⟨v,hv,rfl⟩)).2
  simp only [Wr.data] at this
  omega
 have := Z3o lp p 1 0 0 j done false D a c l rd fs W F hG hW (by omega) h0 hl hx64 (by rw [hq.line]; simp) hS
 refine Calls.mono this fun e w ⟨v,he,hv,hS⟩ => ⟨v,he,?_⟩
 have hn : ((1 + j + dat.length : Nat) : Int) - 1 - j = (dat.length : Nat) := by omega
 have hnl : (l.map Wr.data).length = l.length := by simp
 by_cases hfull : j / 2 < l.length
 ·left
  have e : Zbm rd fs D j done (l.map Wr.data) = (6,D,done) := by
   unfold Zbm
   rw [if_neg (by simp [hq.q.off]),if_neg (by simpa using hc),hlen,hn,if_neg (by simp [hh]),if_pos (.inl (by rw [hnl]; omega))]
  rw [e] at hv hS;exact ⟨hfull,hv,hS.shutQlog hq⟩
 ·right
  have hD := Zq3 rd fs (j := j) (done := done) hq.q hq.line hc (by rw [hn]; exact hh) (by rw [hnl]; omega) (by omega)
  have hq2 : QlogOk (Zbm rd fs D j done (l.map Wr.data)).2.1 j (m + 1) (Zbm rd fs D j done (l.map Wr.data)).2.2 (Zb7 dat (l.map Wr.data)) := by
   refine ⟨by rw [Zaw]; exact hD.q,hD.line,by have := hD.lo; omega,by have := hD.hi; omega,hj,fun k hk => ?_⟩
   rw [Zaw] at hk;rw [hD.at_ k (by omega),hq.at_ k hk,Zc8 _ _ _ hk (fun v hv => (hgood v hv).1)]
  rw [hD.e] at hv;exact ⟨by omega,hv,hS.shutQlog hq2⟩
instance seg_z (l : List Value) : Seg l 0 0 [] := ⟨by simp⟩
instance seg_pre (v : Value) (l cs : List Value) (n : Nat) [h : Seg l 0 n cs] : Seg (v :: l) 0 (n + 1) (v :: cs) := ⟨by have := h.seg; simp only [List.drop_zero] at this ⊢; rw [List.take_succ_cons,this.1]; exact ⟨rfl,by simp [this.2]⟩⟩
abbrev stoV (s : Sto) (da : Option Addr) (dc : Nat) (ba : Option Addr) (bc : Nat) : List Value := [.int .i64 s.nd.st.kind,.int .i64 s.nd.st.mode,.int .i64 s.nd.st.owner,.int .i64 s.nd.st.group,.slice da s.nd.data.length dc,.slice ba s.blocks.length bc]
def Z0b (s : Sto) : List UInt8 := [1] ++ bigB s.nd.st.num 8 ++ bigB (s.nd.data.length : Nat) 4
def Zdj (s : Sto) (i : Nat) : List UInt8 := Z0b s ++ (s.blocks.take i).flatMap fun b => bigB b 4
theorem Zq6 {s : Sto} {i : Nat} {b : Int} (h : s.blocks[i]? = some b) : Zdj s (i + 1) = Zdj s i ++ bigB b 4 := by
 unfold Zdj
 rw [List.take_add_one,h];simp
theorem Znm (s : Sto) (i : Nat) : (Zdj s i).length ≤ 13 + 4 * i := by
 have : ((s.blocks.take i).flatMap fun b => bigB b 4).length = (s.blocks.take i).length * 4 := Zgw fun b _ => Zag b 4
 unfold Zdj Z0b
 simp only [List.length_append,this,Zag,List.length_take,List.length_cons,List.length_nil]
 omega
theorem Zuq (s : Sto) : Zdj s s.blocks.length = Zqc s := by
 unfold Zdj Z0b Zqc
 rw [List.take_length]
theorem Z2j (s : Sto) (da : Option Addr) (dc : Nat) (ba : Option Addr) (bc : Nat) (W : World) (hba : Rd W (row ba (ints .i64 s.blocks))) (hl : s.blocks.length ≤ 1048576) (_ : s.nd.data.length ≤ 1048576) :
  Calls Tryz.prog 131 #[.agg (stoV s da dc ba bc).toArray] W (Ret fun v w => ∃ p,v = .slice (some ⟨p,0,none⟩) 64 64 ∧ St W noF [bytes (some ⟨p,0,none⟩) (stoB s)] w) := by
 have hS := St.start W
 have hbr := hba.ro
 refine Zab Tryz.func131 rfl Tryz.ntmps131 rfl ?_
 repeat (first|refine Yeb ?_|refine Yag ?_|refine Yba (fun _ _ hS _ => ?_)|refine Yec ?_|refine Yab ?_)
 rename_i t1 _ _;refine Zti (α := Option Addr × Nat) (fun z => [(1,.pointer (some ⟨t1,0,none⟩)),(3,.slice z.1 (Zdj s 0).length z.2)]) (fun z w => (Zdj s 0).length ≤ z.2 ∧ St W noF [own 5 1 z.1 z.2 (bv (Zdj s 0)),pts t1 (.cells (stoV s da dc ba bc).toArray 241)] w) ?_ ?_
 ·have hjl : Zdj s 0 = [1] ++ bigB s.nd.st.num 8 ++ bigB (s.nd.data.length : Nat) 4 := by simp [Zdj,Z0b]
  refine Zao (.s 1 (.s 2 (.s 3 (.s 6 (.s 7 (.s 8 (.s 9 (.h 0 (.h 4 (.h 5 (.h 10 (.h 11 (.h 12 (.s 13 .nil) .no) .no) .no) .no) .no) (.h 4 (.h 0 (.h 5 (.h 10 (.h 11 (.h 12 (.s 13 .nil) .no) .no) .no) .no) (.h 5 (.h 0 (.h 10 (.h 11 (.h 12 (.s 13 .nil) .no) .no) .no) (.h 10 (.h 0 (.h 11 (.h 12 (.s 13 .nil) .no) .no) .no) .no)) .no)) .no))))))))) mixed (by kernel_rfl) rfl ?_
  have hS := hS.drew
  repeat (first|(refine Zaf ?_;first|refine Ybk ?_|refine Ydv ?_|refine Ybn ?_|refine Yb0 ?_))
  refine Zp3 ?_ ?_
  ·skip
   repeat (first|refine Ybe (fun _ _ hS _ => ?_)|(refine Zaf ?_;first|refine Yax ?_)|(refine Zad ?_;first|refine Yay ?_))
   rename_i b0 _ _;repeat (first|fail)
   refine Zac _ rfl rfl rfl rfl rfl hS (Zsb s.nd.st _) ?_
   rintro _ w rfl hS
   repeat (first|(refine Zaf ?_;first|refine Yax ?_)|(refine Zad ?_;first|refine Yay ?_))
   repeat (first|fail)
   refine Zaa _ rfl rfl rfl rfl rfl (Zm7 s.nd.st.num 8 (by omega) _) ?_
   rintro _ w ⟨a1,k1,rfl,hk1,hS'⟩
   replace hS := hS.plus hS';clear hS';repeat (first|(refine Zaf ?_;first|refine Yax ?_)|(refine Zad ?_;first|refine Yay ?_))
   repeat (first|fail)
   refine Zaa _ rfl rfl rfl rfl rfl (Zm7 (s.nd.data.length : Nat) 4 (by omega) _) ?_
   rintro _ w ⟨a2,k2,rfl,hk2,hS'⟩
   replace hS := hS.plus hS';clear hS';repeat (first|refine Ybe (fun _ _ hS _ => ?_)|(refine Zaf ?_;first|refine Yax ?_)|(refine Zad ?_;first|refine Yay ?_))
   rename_i b3 w3 _;have hB := Bss.ofRd (w := w3) (a := some ⟨b3,0,none⟩) (l := [⟨some ⟨b0,0,none⟩,1,[1]⟩,⟨a1,k1,bigB s.nd.st.num 8⟩,⟨a2,k2,bigB (s.nd.data.length : Nat) 4⟩])
    (by simpa [Bs.val,Zag] using hS.ownRd (a := some ⟨b3,0,none⟩)) (fun x hx => by
     simp only [List.mem_cons,List.not_mem_nil,or_false] at hx
     rcases hx with rfl | rfl | rfl
     ·exact hS.ownRd
     ·exact hS.ownRd
     ·exact hS.ownRd)
   refine Zaa _ rfl rfl rfl rfl rfl (Zku _ 3 _ _ hB (by simp) (by simp [Zah,Zag])) ?_
   rintro _ w ⟨a',c',rfl,hc',hS'⟩
   replace hS := (hS.plus hS')
   repeat (first|(refine Zaf ?_;first|refine Ya2 ?_|refine Ybl ?_)|(refine Zad ?_;first|refine Yay ?_))
   refine Zbw (a',c') ⟨rfl,by simp only; rw [hjl]; simp [Zah,Zag,look],trivial⟩ ⟨by simp only; rw [hjl]; simpa [Zah,Zag] using hc',?_⟩
   have hj : Zah [⟨some ⟨b0,0,none⟩,1,[1]⟩,⟨a1,k1,bigB s.nd.st.num 8⟩,⟨a2,k2,bigB (s.nd.data.length : Nat) 4⟩] = [1] ++ bigB s.nd.st.num 8 ++ bigB (s.nd.data.length : Nat) 4 := by simp [Zah]
   simp only; rw [hjl,← hj]
   exact hS.took
  repeat (first|(refine Zaf ?_;first|refine Yax ?_))
  refine Zac _ rfl rfl rfl rfl rfl hS (Zsb s.nd.st _) ?_
  rintro _ w rfl hS
  repeat (first|(refine Zad ?_;first|refine Yay ?_))
  refine Zp3 ?_ ?_
  ·skip
   repeat (first|refine Ybe (fun _ _ hS _ => ?_)|(refine Zaf ?_;first|refine Yax ?_)|(refine Zad ?_;first|refine Yay ?_))
   rename_i b0 _ _;repeat (first|fail)
   refine Zaa _ rfl rfl rfl rfl rfl (Zm7 s.nd.st.num 8 (by omega) _) ?_
   rintro _ w ⟨a1,k1,rfl,hk1,hS'⟩
   replace hS := hS.plus hS';clear hS';repeat (first|(refine Zaf ?_;first|refine Yax ?_)|(refine Zad ?_;first|refine Yay ?_))
   repeat (first|fail)
   refine Zaa _ rfl rfl rfl rfl rfl (Zm7 (s.nd.data.length : Nat) 4 (by omega) _) ?_
   rintro _ w ⟨a2,k2,rfl,hk2,hS'⟩
   replace hS := hS.plus hS';clear hS';repeat (first|refine Ybe (fun _ _ hS _ => ?_)|(refine Zaf ?_;first|refine Yax ?_)|(refine Zad ?_;first|refine Yay ?_))
   rename_i b3 w3 _;have hB := Bss.ofRd (w := w3) (a := some ⟨b3,0,none⟩) (l := [⟨some ⟨b0,0,none⟩,1,[1]⟩,⟨a1,k1,bigB s.nd.st.num 8⟩,⟨a2,k2,bigB (s.nd.data.length : Nat) 4⟩])
    (by simpa [Bs.val,Zag] using hS.ownRd (a := some ⟨b3,0,none⟩)) (fun x hx => by
     simp only [List.mem_cons,List.not_mem_nil,or_false] at hx
     rcases hx with rfl | rfl | rfl
     ·exact hS.ownRd
     ·exact hS.ownRd
     ·exact hS.ownRd)
   refine Zaa _ rfl rfl rfl rfl rfl (Zku _ 3 _ _ hB (by simp) (by simp [Zah,Zag])) ?_
   rintro _ w ⟨a',c',rfl,hc',hS'⟩
   replace hS := (hS.plus hS')
   repeat (first|(refine Zaf ?_;first|refine Ya2 ?_|refine Ybl ?_)|(refine Zad ?_;first|refine Yay ?_))
   refine Zbw (a',c') ⟨rfl,by simp only; rw [hjl]; simp [Zah,Zag,look],trivial⟩ ⟨by simp only; rw [hjl]; simpa [Zah,Zag] using hc',?_⟩
   have hj : Zah [⟨some ⟨b0,0,none⟩,1,[1]⟩,⟨a1,k1,bigB s.nd.st.num 8⟩,⟨a2,k2,bigB (s.nd.data.length : Nat) 4⟩] = [1] ++ bigB s.nd.st.num 8 ++ bigB (s.nd.data.length : Nat) 4 := by simp [Zah]
   simp only; rw [hjl,← hj]
   exact hS.took
  repeat (first|(refine Zaf ?_;first|refine Yax ?_))
  refine Zaa _ rfl rfl rfl rfl rfl (Zm7 s.nd.st.num 8 (by omega) _) ?_
  rintro _ w ⟨a1,k1,rfl,hk1,hS'⟩
  replace hS := hS.plus hS';clear hS';repeat (first|(refine Zad ?_;first|refine Yay ?_))
  refine Zp3 ?_ ?_
  ·skip
   repeat (first|refine Ybe (fun _ _ hS _ => ?_)|(refine Zaf ?_;first|refine Yax ?_)|(refine Zad ?_;first|refine Yay ?_))
   rename_i b0 _ _;repeat (first|fail)
   refine Zaa _ rfl rfl rfl rfl rfl (Zm7 (s.nd.data.length : Nat) 4 (by omega) _) ?_
   rintro _ w ⟨a2,k2,rfl,hk2,hS'⟩
   replace hS := hS.plus hS';clear hS';repeat (first|refine Ybe (fun _ _ hS _ => ?_)|(refine Zaf ?_;first|refine Yax ?_)|(refine Zad ?_;first|refine Yay ?_))
   rename_i b3 w3 _;have hB := Bss.ofRd (w := w3) (a := some ⟨b3,0,none⟩) (l := [⟨some ⟨b0,0,none⟩,1,[1]⟩,⟨a1,k1,bigB s.nd.st.num 8⟩,⟨a2,k2,bigB (s.nd.data.length : Nat) 4⟩])
    (by simpa [Bs.val,Zag] using hS.ownRd (a := some ⟨b3,0,none⟩)) (fun x hx => by
     simp only [List.mem_cons,List.not_mem_nil,or_false] at hx
     rcases hx with rfl | rfl | rfl
     ·exact hS.ownRd
     ·exact hS.ownRd
     ·exact hS.ownRd)
   refine Zaa _ rfl rfl rfl rfl rfl (Zku _ 3 _ _ hB (by simp) (by simp [Zah,Zag])) ?_
   rintro _ w ⟨a',c',rfl,hc',hS'⟩
   replace hS := (hS.plus hS')
   repeat (first|(refine Zaf ?_;first|refine Ya2 ?_|refine Ybl ?_)|(refine Zad ?_;first|refine Yay ?_))
   refine Zbw (a',c') ⟨rfl,by simp only; rw [hjl]; simp [Zah,Zag,look],trivial⟩ ⟨by simp only; rw [hjl]; simpa [Zah,Zag] using hc',?_⟩
   have hj : Zah [⟨some ⟨b0,0,none⟩,1,[1]⟩,⟨a1,k1,bigB s.nd.st.num 8⟩,⟨a2,k2,bigB (s.nd.data.length : Nat) 4⟩] = [1] ++ bigB s.nd.st.num 8 ++ bigB (s.nd.data.length : Nat) 4 := by simp [Zah]
   simp only; rw [hjl,← hj]
   exact hS.took
  repeat (first|(refine Zaf ?_;first|refine Yax ?_))
  refine Zaa _ rfl rfl rfl rfl rfl (Zm7 (s.nd.data.length : Nat) 4 (by omega) _) ?_
  rintro _ w ⟨a2,k2,rfl,hk2,hS'⟩
  replace hS := hS.plus hS';clear hS';repeat (first|refine Ybe (fun _ _ hS _ => ?_)|(refine Zaf ?_;first|refine Yax ?_)|(refine Zad ?_;first|refine Yay ?_))
  rename_i b0 _ _ _ b3 w3 _;have hB := Bss.ofRd (w := w3) (a := some ⟨b3,0,none⟩) (l := [⟨some ⟨b0,0,none⟩,1,[1]⟩,⟨a1,k1,bigB s.nd.st.num 8⟩,⟨a2,k2,bigB (s.nd.data.length : Nat) 4⟩])
   (by simpa [Bs.val,Zag] using hS.ownRd (a := some ⟨b3,0,none⟩)) (fun x hx => by
    simp only [List.mem_cons,List.not_mem_nil,or_false] at hx
    rcases hx with rfl | rfl | rfl
    ·exact hS.ownRd
    ·exact hS.ownRd
    ·exact hS.ownRd)
  refine Zaa _ rfl rfl rfl rfl rfl (Zku _ 3 _ _ hB (by simp) (by simp [Zah,Zag])) ?_
  rintro _ w ⟨a',c',rfl,hc',hS'⟩
  replace hS := (hS.plus hS')
  repeat (first|(refine Zaf ?_;first|refine Ya2 ?_|refine Ybl ?_)|(refine Zad ?_;first|refine Yay ?_))
  refine Zbw (a',c') ⟨rfl,by simp only; rw [hjl]; simp [Zah,Zag,look],trivial⟩ ⟨by simp only; rw [hjl]; simpa [Zah,Zag] using hc',?_⟩
  have hj : Zah [⟨some ⟨b0,0,none⟩,1,[1]⟩,⟨a1,k1,bigB s.nd.st.num 8⟩,⟨a2,k2,bigB (s.nd.data.length : Nat) 4⟩] = [1] ++ bigB s.nd.st.num 8 ++ bigB (s.nd.data.length : Nat) 4 := by simp [Zah]
  simp only; rw [hjl,← hj]
  exact hS.took
 ·clear hS
  rintro ⟨a1,c1⟩ w ⟨hc1,hS⟩
  simp only at hc1 hS ⊢
  repeat (first|refine Yeb ?_|refine Yaf ?_|refine Yan ?_|refine Yat ?_|refine Yaq ?_|refine Yee ?_|refine Yab ?_)
  refine Zaj (α := Nat × Option Addr × Nat) (fun z => [(3,.slice z.2.1 (Zdj s z.1).length z.2.2),(20,.slice ba s.blocks.length bc),(21,.int .i64 (s.blocks.length : Nat)),(22,.int .i64 (z.1 : Nat))])
   (fun z w => z.1 ≤ s.blocks.length ∧ (Zdj s z.1).length ≤ z.2.2 ∧ St W noF [own 5 1 z.2.1 z.2.2 (bv (Zdj s z.1))] w) (fun z => s.blocks.length - z.1) (0,a1,c1) ⟨rfl,rfl,rfl,rfl,trivial⟩ ⟨Nat.zero_le _,hc1,hS.pick [0]⟩ ?_
  clear hS;rintro ⟨i,a2,c2⟩ w ⟨hi,hc,hS⟩
  simp only at hi hc hS ⊢
  have hbl := Znm s i
  by_cases hlt : i < s.blocks.length
  ·have hx0 : s.blocks[i]? = some s.blocks[i] := List.getElem?_eq_getElem hlt
   generalize s.blocks[i] = b at hx0;have hsu := Zq6 hx0
   have hr := hbr
   have hx : (ints .i64 s.blocks)[i]? = some (.int .i64 b) := by simp [ints,hx0]
   obtain ⟨xb,xo,rfl⟩ := (hr.rd hS).base (by intro e; rw [e] at hx; simp at hx)
   repeat (first|refine Yeb ?_|(refine X_id ?_;first|refine Yaf ?_|refine Yag ?_|refine Ya1 ?_|refine Ybd ?_|refine Yb7 ?_)|refine Yef ?_|refine Yab ?_)
   refine Zaa _ rfl rfl rfl rfl rfl (Zm7 b 4 (by omega) _) ?_
   rintro _ w ⟨a3,k3,rfl,hk3,hS'⟩
   replace hS := hS.plus hS';clear hS';repeat (first|refine Yaa ?_)
   refine Zas rfl rfl rfl rfl rfl hS (by simp) hc (hS.ownRd (a := a3)) (by simp [Zag]) Zdb (by omega) (by simp only [maxLen]; omega) (fun a' c' w hS hc' _ => ?_)
   repeat (first|refine Yeb ?_|refine Yer ?_|refine Yad ?_|refine Yej ?_)
   refine Zae (z := (i,a2,c2)) (i + 1,a',c') ⟨?_,rfl,rfl,rfl,trivial⟩ ⟨by simp only; omega,by simp only; rw [hsu]; simp [Zag]; omega,?_⟩ (by simp only; omega)
   ·simp only
    rw [hsu]; simp only [List.length_append,Zag]; rfl
   ·simp only
    rw [hsu,Zb8];exact hS.took
  ·obtain rfl : i = s.blocks.length := by omega
   repeat (first|refine Yeb ?_|refine Yaf ?_|refine Yaz ?_|refine Yeo ?_|refine Yeh ?_)
   refine Zaa _ rfl rfl rfl rfl rfl (Znf a2 c2 (Zdj s s.blocks.length) _ hS.ownRd) ?_
   rintro _ w ⟨p,rfl,hS'⟩
   replace hS := hS.plus hS';clear hS';repeat (first|refine Yeb ?_|refine Yag ?_|refine Yah ?_|refine Yed ?_)
   refine ⟨p,rfl,?_⟩
   have h := hS.pick [0]
   rw [Zuq] at h;exact h
abbrev Zy8 (lp n r : Nat) : List Value := [.pointer (some ⟨lp,0,none⟩),.int .i64 (n : Nat),.map (some r)]
abbrev Zid (tp lp n r : Nat) : Res := pts tp (.cells (Zy8 lp n r).toArray 161)
theorem Z16 (tp lp n r : Nat) (b : Int) (W : World) (hT : Rd W (Zid tp lp n r)) (hn : n ≤ 1048576) (hb : 0 ≤ b) (hb1 : b ≤ 1048576) :
  Calls Tryz.prog 130 #[.pointer (some ⟨tp,0,none⟩),.int .i64 b] W (Ret fun v w => v = .int .i64 (1 + (n : Int) + b) ∧ W = w) := by
 have hc := hT.pts
 have hS := St.start W
 refine Zab Tryz.func130 rfl Tryz.ntmps130 rfl ?_
 repeat (first|refine Yeb ?_|(refine X_id ?_;first|refine Yaf ?_|refine Yag ?_|refine Yau ?_|refine Yan ?_|refine Yaw ?_|refine Yb5 ?_)|refine Yep ?_|refine Yed ?_)
 exact ⟨rfl,rfl⟩
theorem Zy4 (tp lp n r p j m nb : Nat) (dat : List (List UInt8)) (W : World) (hT : Rd W (Zid tp lp n r)) (hq : Rd W (qlog lp p j m dat)) (hd : dat.length = 1 + n + nb) :
  Calls Tryz.prog 173 #[.pointer (some ⟨tp,0,none⟩)] W (Ret fun v w => v = .int .i64 (nb : Nat) ∧ St W noF [] w) := by
 have hTo := hT.ro
 have hqo := hq.ro
 have hql := (qlen hq).1
 have hS := St.start W
 have e : (dat.length : Int) - 1 - (n : Nat) = (nb : Nat) := by omega
 rw [← e];refine Zab Tryz.func173 rfl Tryz.ntmps173 rfl ?_
 repeat (first|refine Yeb ?_|refine Yag ?_|refine Yec ?_|refine Yab ?_)
 refine Zao (.s 0 (.s 1 (.s 2 (.s 3 (.s 6 (.s 7 (.s 8 (.s 9 (.h 4 (.s 5 (.s 10 (.s 11 .nil))) .no))))))))) mixed (by kernel_rfl) rfl ?_
 have hS := hS.drew
 have hc := hTo
 repeat (first|(refine X_id ?_;first|(refine Zac 115 rfl rfl rfl rfl rfl hS (Zon lp p j m dat _ (hqo.rd hS)) ?_;rintro _ _ rfl hS))|refine Yah ?_|refine Yed ?_|(refine Zaf ?_;first|refine Ya2 ?_|refine Ya6 ?_|refine Ybl ?_|refine Ybs ?_|refine Ybk ?_|refine Yce ?_|refine Yax ?_|refine Ydw ?_)|(refine Zad ?_;first|refine Yay ?_))
 exact ⟨rfl,hS⟩
theorem may_ (lp p j m n : Nat) (dat : List (List UInt8)) (W : World) (hq : Rd W (qlog lp p j m dat)) (h1 : 1 ≤ n) (h2 : n ≤ 400) (h3 : n + 2 ≤ dat.length) :
  Calls Tryz.prog 61 #[.pointer (some ⟨lp,0,none⟩),.int .i64 (n : Nat)] W (Ret fun v w => v = .bool true ∧ St W noF [] w) := by
 have hqo := hq.ro
 have hql := (qlen hq).1
 have hS := St.start W
 refine Zab Tryz.func61 rfl Tryz.ntmps61 rfl ?_
 repeat (first|refine Yes ?_|(refine X_id ?_;first|(refine Zac 115 rfl rfl rfl rfl rfl hS (Zon lp p j m dat _ (hqo.rd hS)) ?_;rintro _ _ rfl hS)|refine Yaf ?_|refine Yag ?_|refine Ya9 ?_|refine Ydc ?_|refine Yb2 ?_|refine Yaw ?_)|refine Yep ?_|refine Yed ?_)
 exact ⟨rfl,hS⟩
theorem Z15 (n : Nat) (rd fs : List Int) (W : World) (hG : Gl W noF rd fs) :
  Calls Tryz.prog 66 #[.int .i64 (n : Nat)] W (Ret fun v w => ∃ p,v = .slice (some ⟨p,0,none⟩) 64 64 ∧ St W noF [bytes (some ⟨p,0,none⟩) (Zcf rd fs n)] w) := by
 have hS := St.start W
 have hcl : [Value.int .u8 67,.int .u8 82,.int .u8 69,.int .u8 69,.int .u8 76] = bv Zd5 := rfl
 refine Zab Tryz.func66 rfl Tryz.ntmps66 rfl ?_
 repeat (first|refine Yeb ?_|refine Yeq ?_|refine Yec ?_|refine Yab ?_)
 refine Zaa _ rfl rfl rfl rfl rfl (Zm7 (n : Nat) 4 (by omega) _) ?_
 rintro _ w ⟨a1,k1,rfl,hk1,hS'⟩
 replace hS := hS.plus hS';clear hS';repeat (first|refine Yeb ?_|refine Yag ?_|refine Ybe (fun _ _ hS _ => ?_)|refine Yec ?_|refine Yab ?_)
 rename_i b0 _ _;refine Zf8 rfl rfl rfl rfl hS (by simp) (fun w hS => ?_)
 repeat (first|refine Yaa ?_|refine Yaf ?_|refine Ybe (fun _ _ hS _ => ?_))
 rename_i b1 w1 _;have hB := Bss.ofRd (w := w1) (a := some ⟨b1,0,none⟩) (l := [⟨some ⟨b0,0,none⟩,5,Zd5⟩,⟨a1,k1,bigB (n : Nat) 4⟩]) (by simpa [Bs.val,Zag,Zd5] using hS.ownRd (a := some ⟨b1,0,none⟩)) (fun x hx => by
  simp only [List.mem_cons,List.not_mem_nil,or_false] at hx
  rcases hx with rfl | rfl
  ·exact hS.rd (by simp [bytes,← hcl])
  ·exact hS.ownRd)
 have hfl : (Zaz (Zbe [⟨some ⟨b0,0,none⟩,5,Zd5⟩,⟨a1,k1,bigB (n : Nat) 4⟩])).length < 1152921504606846976 := by simp [Zaz,Zbe,Za2,Zag,Zd5]
 have hl32 : LenO (bv (digest rd fs (Zbe [⟨some ⟨b0,0,none⟩,5,Zd5⟩,⟨a1,k1,bigB (n : Nat) 4⟩]))) 32 := ⟨by rw [Zak]; exact Zbc _ _ _⟩
 refine Zac _ rfl rfl rfl rfl rfl hS (Zne _ 2 _ rd fs _ hfl (by simp) (hG.mono fun r hr => (hr.rd hS).ro) hB) ?_
 rintro _ w rfl hS
 clear hB hfl;repeat (first|refine Yeb ?_|refine Yao (fun _ hS _ => ?_)|refine Yar (fun _ _ hS _ => ?_)|refine Ybe (fun _ _ hS _ => ?_)|refine Yec ?_|refine Yab ?_)
 rename_i b2 _ _ _ _ _ _ b4 _ _;refine Zf8 rfl rfl rfl rfl hS (by simp) (fun w hS => ?_)
 repeat (first|refine Yaa ?_|refine Yaf ?_|refine Ydm ?_|refine Ybe (fun _ _ hS _ => ?_))
 rename_i b6 w6 _;have hB := Bss.ofRd (w := w6) (a := some ⟨b6,0,none⟩) (l := [⟨some ⟨b4,0,none⟩,5,Zd5⟩,⟨a1,k1,bigB (n : Nat) 4⟩,⟨some ⟨b2,0,none⟩,32,digest rd fs [Zd5,bigB (n : Nat) 4]⟩]) (by simpa [Bs.val,Zag,Zd5,Zbc] using hS.ownRd (a := some ⟨b6,0,none⟩)) (fun x hx => by
  simp only [List.mem_cons,List.not_mem_nil,or_false] at hx
  rcases hx with rfl | rfl | rfl
  ·exact hS.rd (by simp [bytes,← hcl])
  ·exact hS.ownRd
  ·exact (hS.rd (r := pts b2 (.cells (bv (digest rd fs [Zd5,bigB (n : Nat) 4])).toArray 54)) (by simp [Zbe])).ptsB (T := 54))
 refine Zaa _ rfl rfl rfl rfl rfl (Zku _ 3 _ _ hB (by simp) (by simp [Zah,Zag,Zbc,Zd5])) ?_
 rintro _ w ⟨a',c',rfl,hc',hS'⟩
 replace hS := hS.plus hS';clear hS' hB;repeat (first|refine Yaa ?_)
 refine Zaa _ rfl rfl rfl rfl rfl (Znf a' c' (Zah [⟨some ⟨b4,0,none⟩,5,Zd5⟩,⟨a1,k1,bigB (n : Nat) 4⟩,⟨some ⟨b2,0,none⟩,32,digest rd fs [Zd5,bigB (n : Nat) 4]⟩]) _ hS.ownRd) ?_
 rintro _ w ⟨p,rfl,hS'⟩
 replace hS := hS.plus hS';clear hS';repeat (first|refine Yeb ?_|refine Yag ?_|refine Yah ?_|refine Yed ?_)
 refine ⟨p,rfl,?_⟩
 have h := hS.pick [0]
 unfold Zcf
 simpa [Zah] using h
theorem Ze6 (a : Option Addr) (n c : Nat) (s : List UInt8) (W : World) (hs : Rd W (bytes a s)) (hn : s.length = n) (hlim : n ≤ 1073741824) :
  Calls Tryz.prog 102 #[.slice a n c] W (Ret fun v w => ∃ a' c',v = .slice a' n c' ∧ (a' = none ↔ a = none) ∧ n ≤ c' ∧ St W noF [own 5 1 a' c' (bv s)] w) := by
 have hS := St.start W
 cases a with
 | none =>
  have h0 : bv s = [] := hs.none_nil
  obtain rfl : n = 0 := by rw [← hn,← Zak s,h0]; rfl
  refine Zab Tryz.func102 rfl Tryz.ntmps102 rfl ?_
  repeat (first|refine Yeb ?_|refine Yaf ?_|refine Yag ?_|refine Ycu ?_|refine Yet ?_|refine Yeu ?_)
  refine ⟨none,0,rfl,by simp,by omega,?_⟩
  rw [h0];exact hS.own_none _ _ _
 | some ad =>
  refine Zab Tryz.func102 rfl Tryz.ntmps102 rfl ?_
  repeat (first|refine Yeb ?_|refine Yaf ?_|refine Yag ?_|refine Ycu ?_|refine Ybe (fun _ _ hS _ => ?_)|refine Yen ?_|refine Yab ?_)
  rename_i b w hb;have hs := hs.below hb
  repeat (first|fail)
  refine Zas rfl rfl rfl rfl rfl hS rfl (by omega) hs (by simp [hn]) Zdb (by omega) (by simp only [maxLen]; omega) (fun a' c' w hS hc hnil => ?_)
  repeat (first|refine Yeb ?_|refine Yag ?_|refine Yah ?_|refine Yed ?_)
  refine ⟨a',c',by rw [Nat.zero_add],by rw [hnil]; simp,by omega,hS⟩
theorem Z3u (a b : Option Addr) (n m c c' : Nat) (s t : List UInt8) (W : World) (ha : Rd W (bytes a s)) (hb : Rd W (bytes b t)) (hn : s.length = n) (hm : t.length = m) :
  Calls Tryz.prog 63 #[.slice a n c,.slice b m c'] W (Ret fun v w => v = .bool (decide (s = t)) ∧ W = w) := by
 refine Zab Tryz.func63 rfl Tryz.ntmps63 rfl ?_
 repeat (first|refine Yeb ?_|refine Yeq ?_|refine Yec ?_|refine Yab ?_)
 refine X_yl (Zcz rfl rfl ha hn) rfl rfl ?_
 repeat (first|refine Yaa ?_|refine Yaf ?_)
 refine X_yl (Zcz rfl rfl hb hm) rfl rfl ?_
 repeat (first|refine Yeb ?_|(refine X_id ?_;first|refine Yag ?_|refine X_yl (Zh4 rfl rfl rfl) rfl rfl ?_)|refine Yah ?_|refine Yed ?_)
 exact ⟨rfl,rfl⟩
end Cr
namespace Cr
open Go Go.MapKept
set_option maxRecDepth 10000
set_option maxHeartbeats 64000000

structure StampOk (es : Array MapEntry) (clock : Nat) : Prop where
 low : ∀ e ∈ es.toList,e.born < clock
 apart : (es.toList.map (·.born)).Nodup
def kvs (es : Array MapEntry) : List (Value × Value) := es.toList.map fun e => (e.key,e.val)
def mapq {α : Type} (mk : α → Value) (r : Nat) (L : List (α × Value)) : Res := fun h => ∃ (es : Array MapEntry) (clock : Nat),kvs es = L.map (fun x => (mk x.1,x.2)) ∧ StampOk es clock ∧ pts r (.map es clock) h
section
variable {α : Type}
theorem St.openMap {W : World} {F : Nat → Prop} {mk : α → Value} {r : Nat} {L : List (α × Value)} {rs : List Res} {w : World} (hS : St W F (mapq mk r L :: rs) w) : ∃ es clock,kvs es = L.map (fun x => (mk x.1,x.2)) ∧ StampOk es clock ∧ St W F (pts r (.map es clock) :: rs) w := by
 obtain ⟨h,⟨h1,h2,⟨es,clock,a,b,hp⟩,hs,hd,hu⟩,s⟩ := hS
 exact ⟨es,clock,a,b,h,⟨h1,h2,hp,hs,hd,hu⟩,s⟩
theorem Ro.openMap {W : World} {F : Nat → Prop} {mk : α → Value} {r : Nat} {L : List (α × Value)} (H : Ro W F (mapq mk r L)) : ∃ es clock,kvs es = L.map (fun x => (mk x.1,x.2)) ∧ StampOk es clock ∧ Ro W F (pts r (.map es clock)) := by
 obtain ⟨h,⟨es,clock,a,b,hp⟩,ha⟩ := H
 exact ⟨es,clock,a,b,h,hp,ha⟩
theorem Rd.openMap {w : World} {mk : α → Value} {r : Nat} {L : List (α × Value)} (H : Rd w (mapq mk r L)) : ∃ es clock,kvs es = L.map (fun x => (mk x.1,x.2)) ∧ StampOk es clock ∧ Rd w (Cr.pts r (.map es clock)) := by
 obtain ⟨h,⟨es,clock,a,b,hp⟩,ha⟩ := H
 exact ⟨es,clock,a,b,h,hp,ha⟩
theorem Rd.mapq_r {w : World} {mk : α → Value} {r : Nat} {L : List (α × Value)} (H : Rd w (mapq mk r L)) : Rd w (mapr mk r L) := by
 obtain ⟨h,⟨es,clock,a,b,hp⟩,ha⟩ := H
 exact ⟨h,⟨es,clock,a,hp⟩,ha⟩
end
def delM {α : Type} [DecidableEq α] (k : α) : List (α × Value) → List (α × Value)
 | [] => []
 | x :: l => if k = x.1 then l else x :: delM k l
section
variable {α : Type} [DecidableEq α]
theorem Zkp {d : TypeDesc} {mk : α → Value} [hk : Key d mk] (k : α) : ∀ (L : List (α × Value)) (es : List MapEntry) (i : Nat),es.map (fun e => (e.key,e.val)) = L.map (fun x => (mk x.1,x.2)) →
  (Instr.findNow d (mk k) es i = some none ∧ delM k L = L) ∨ ∃ j v,Instr.findNow d (mk k) es i = some (some (j,v)) ∧ i ≤ j ∧ j - i < es.length ∧ (es.eraseIdx (j - i)).map (fun e => (e.key,e.val)) = (delM k L).map (fun x => (mk x.1,x.2))
 | [],[],i,_ => .inl ⟨rfl,rfl⟩
 | [],_ :: _,_,h => by simp at h
 | _ :: _,[],_,h => by simp at h
 | x :: L,e :: es,i,h => by
  simp only [List.map_cons,List.cons.injEq,Prod.mk.injEq] at h
  obtain ⟨⟨h1,h2⟩,h3⟩ := h
  unfold Instr.findNow delM
  rw [h1,hk.same];by_cases hkx : k = x.1
  ·right
   exact ⟨i,e.val,by simp [hkx],Nat.le_refl _,by simp,by simp [hkx,h3]⟩
  ·rcases Zkp (d := d) k L es (i + 1) h3 with ⟨g1,g2⟩ | ⟨j,v,g1,g2,g4,g3⟩
   ·left
    exact ⟨by simp [hkx,g1],by simp [hkx,g2]⟩
   ·right
    have e1 : j - i = (j - (i + 1)) + 1 := by omega
    refine ⟨j,v,by simp [hkx,g1],by omega,by simp; omega,?_⟩
    rw [e1,List.eraseIdx_cons_succ,List.map_cons,g3,if_neg hkx,h1,h2]
    rfl
variable {P : Program} {o : Oper} {σ : Env} {w : World} {x y : Operand} {t kt et : TypeId} {N : Nat} {ds : Md} {K : Env → World → Prop} {mk : α → Value} {dd : TypeDesc}
theorem Zew {β : Type} {d : Nat} {W : World} {F : Nat → Prop} {rs : List Res} (mk : β → Value) (ho : o.op = .makeMap t none) (hd : o.dst = some d) (hN : Nat.blt d N = true) (hS : St W F rs w)
  (hk : ∀ r w',St W F (mapq mk r [] :: rs) w' → K ((d,.map (some r)) :: σ) w') : X P o N ds σ w K := ⟨fun f ha K' Q' hK => by
 unfold Oper.wp
 have hexec : (execOp f.eval o).run P w = .ok (.value (.map (some w.heap.size))) (w.alloc (.map #[] 0)) := by
  have : (Instr.makeMap t none).run P w = .ok (.map (some w.heap.size)) (w.alloc (.map #[] 0)) := rfl
  simp [execOp,ho,this]
 rw [hexec];have := hK _ _ _ (ha.put (Zam hN) (.map (some w.heap.size))) (hk w.heap.size _ ((hS.alloc (.map #[] 0)).head fun h hh => ⟨#[],0,rfl,⟨by simp,by simp⟩,hh⟩))
 rw [← hd] at this;exact this⟩
theorem Zg1 {r : Nat} {L : List (α × Value)} {k : α} {z : Value} {n m : Nat} (ho : o.op = .lookup t x y true) (hx : ev σ x = some (.map (some r))) (hy : ev σ y = some (mk k)) [hu : Und P t (.map kt et)] [hkt : Und P kt dd] [hK : Key dd mk] [hi : Inf P et z n m]
  (hr : Rd w (mapr mk r L)) : Yl P o σ w (.tuple #[(getM k L).getD z,.bool (getM k L).isSome]) := ⟨fun N ds f ha => by
 obtain ⟨h,⟨es,clock,hes,rfl⟩,hag⟩ := hr
 have hb : w.heap[r]? = some (.map es clock) := hag r _ (Zan _ _)
 obtain ⟨q,g1,g2,_⟩ := Zcu (hk := hK) k L es.toList 0 hes
 obtain ⟨i,hi',hz',_⟩ := info_parts hi.inf
 have hc := run_checkKey (P := P) (w := w) hkt.und (hK.isKey k) es.isEmpty 9999
 have hf := run_findKey (P := P) (w := w) hkt.und g1
 have hg : (getObj r).run P w = .ok (.map es clock) w := by simp [getObj,Sem.run,hb]
 simp only [execOp,ho,ha.eval hx,ha.eval hy,Instr.lookup,Sem.run_bind,run_underlying hu.und,hg,hc,hf,Result.andThen_ok,Sem.run_pure]
 rw [← g2];cases q <;> simp [zeroValue,typeInfo,hi',hz']⟩
theorem Zln {es : Array MapEntry} {clock : Nat} (h : StampOk es clock) (k v : Value) : StampOk (es.push { key := k,val := v,born := clock }) (clock + 1) := by
 refine ⟨fun e he => ?_,?_⟩
 ·simp only [Array.toList_push,List.mem_append,List.mem_singleton] at he
  rcases he with he | rfl
  ·have := h.low e he; omega
  ·exact Nat.lt_succ_self _
 ·rw [Array.toList_push,List.map_append,List.nodup_append]
  refine ⟨h.apart,by simp,fun a ha b hb => ?_⟩
  obtain ⟨e,he,rfl⟩ := List.mem_map.1 ha
  have := h.low e he
  simp at hb
  omega
theorem Ziy {es : Array MapEntry} {clock : Nat} (h : StampOk es clock) (j : Nat) (f : MapEntry → MapEntry) (hf : ∀ e,(f e).born = e.born) : StampOk (es.modify j f) clock := by
 have e1 : (es.modify j f).toList.map (·.born) = es.toList.map (·.born) := by
  rw [Array.toList_modify];generalize es.toList = l
  induction l generalizing j with
  | nil => simp
  | cons x l ih =>
   cases j with
   | zero => simp [hf]
   | succ j => simp [ih]
 refine ⟨fun e he => ?_,by rw [e1]; exact h.apart⟩
 have : e.born ∈ (es.modify j f).toList.map (·.born) := List.mem_map.2 ⟨e,he,rfl⟩
 rw [e1] at this;obtain ⟨e',he',hb⟩ := List.mem_map.1 this
 rw [← hb];exact h.low e' he'
theorem Zqd {es : Array MapEntry} {clock : Nat} (h : StampOk es clock) (j : Nat) (hj : j < es.size) : StampOk (es.eraseIdx j hj) clock := by
 have hsub : (es.eraseIdx j hj).toList.Sublist es.toList := by rw [Array.toList_eraseIdx]; exact List.eraseIdx_sublist _ _
 exact ⟨fun e he => h.low e (hsub.subset he),h.apart.sublist (hsub.map _)⟩
theorem Zfw {r : Nat} {L : List (α × Value)} {k : α} {v : Value} {W : World} {F : Nat → Prop} {rs : List Res} {z : Operand} (ho : o.op = .mapUpdate t x y z) (hx : ev σ x = some (.map (some r))) (hy : ev σ y = some (mk k)) (hz : ev σ z = some v) [hu : Und P t (.map kt et)] [hkt : Und P kt dd] [hK : Key dd mk]
  (hd : o.dst = none) (hS : St W F (mapq mk r L :: rs) w) (hk : ∀ w',St W F (mapq mk r (setM k v L) :: rs) w' → K σ w') : X P o N ds σ w K := ⟨fun f ha K' Q' hKK => by
 obtain ⟨es,clock,hes,hst,hS2⟩ := hS.openMap
 have hb : w.heap[r]? = some (.map es clock) := hS2.get
 obtain ⟨q,g1,g2,_⟩ := Zcu (hk := hK) k L es.toList 0 hes
 have hc := run_checkKey (P := P) (w := w) hkt.und (hK.isKey k) false 9999
 have hf := run_findKey (P := P) (w := w) hkt.und g1
 have hg : (getObj r).run P w = .ok (.map es clock) w := by simp [getObj,Sem.run,hb]
 have hset : ∀ o',(setObj r o').run P w = .ok () { w with heap := w.heap.setIfInBounds r o' } := fun o' => run_setObj_map o' hb
 unfold Oper.wp
 have key : ∃ es' clock',(execOp f.eval o).run P w = .ok .skip { w with heap := w.heap.setIfInBounds r (.map es' clock') } ∧ kvs es' = (setM k v L).map (fun x => (mk x.1,x.2)) ∧ StampOk es' clock' := by
  cases hq : q with
  | none =>
   subst hq
   refine ⟨es.push { key := mk k,val := v,born := clock },clock + 1,?_,?_,Zln hst _ _⟩
   ·simp only [execOp,ho,ha.eval hx,ha.eval hy,ha.eval hz,Instr.mapUpdate,Sem.run_bind,run_underlying hu.und,hg,hc,hf,hset,Result.andThen_ok,Sem.run_pure]
   ·rw [Zhb (by rw [← g2]; rfl)]
    have hes' : es.toList.map (fun e => (e.key,e.val)) = L.map (fun x => (mk x.1,x.2)) := hes
    simp [kvs,hes']
  | some p =>
   obtain ⟨j,u⟩ := p
   subst hq
   obtain ⟨g4,g5,g6⟩ := Zha (v := v) L es.toList 0 hes j u g1
   simp only [Nat.sub_zero] at g4 g6
   have hek : ((es[j]?).map (·.key)).getD (mk k) = mk k := by
    rw [← Array.getElem?_toList,g6]; rfl
   refine ⟨es.modify j fun e => { e with key := mk k,val := v },clock,?_,?_,Ziy hst _ _ (fun _ => rfl)⟩
   ·simp only [execOp,ho,ha.eval hx,ha.eval hy,ha.eval hz,Instr.mapUpdate,Sem.run_bind,run_underlying hu.und,hg,hc,hf,hset,Result.andThen_ok,Sem.run_pure,hek,Instr.keyThatStays,hK.bits,if_true]
   ·simpa [kvs,Array.toList_modify] using g4
 obtain ⟨es',clock',hexec,hes',hst'⟩ := key
 rw [hexec];have u := Za6 (o' := .map es' clock') hb
 refine hKK _ _ _ (?_ : Fr σ N ds _) (hk _ ((hS2.set u).head fun h hh => ⟨es',clock',hes',hst',hh⟩))
 rw [hd]; exact ha⟩
end
/-! ### going through a map -/
def Zc7 (es : Array MapEntry) (seen : Array Nat) : List MapEntry := es.toList.filter fun e => !seen.contains e.born
theorem Zkg (es : Array MapEntry) : Zc7 es #[] = es.toList := by simp [Zc7]
theorem Zhe (e : MapEntry) : ∀ (l : List MapEntry),(l.map (·.born)).Nodup → e ∈ l → l.Perm (e :: l.filter fun x => !(x.born == e.born))
 | x :: l,hn,he => by
  have hn' : x.born ∉ l.map (·.born) ∧ (l.map (·.born)).Nodup := List.nodup_cons.1 hn
  by_cases hx : x.born = e.born
  ·rcases List.mem_cons.1 he with rfl | he
   ·have : l.filter (fun x => !(x.born == e.born)) = l := List.filter_eq_self.2 fun y hy => by
     have : y.born ≠ e.born := fun q => hn'.1 (by rw [← q]; exact List.mem_map.2 ⟨y,hy,rfl⟩)
     simpa using this
    rw [List.filter_cons_of_neg (by simp),this]
   ·exact absurd (show x.born ∈ l.map (·.born) by rw [hx]; exact List.mem_map.2 ⟨e,he,rfl⟩) hn'.1
  ·have he' : e ∈ l := (List.mem_cons.1 he).resolve_left fun q => hx (by rw [q])
   have ih := Zhe e l hn'.2 he'
   rw [List.filter_cons_of_pos (by simpa using hx)];exact (ih.cons x).trans (.swap _ _ _)
theorem Zlx {es : Array MapEntry} {clock : Nat} (h : StampOk es clock) {seen : Array Nat} {e : MapEntry} (he : e ∈ Zc7 es seen) : (Zc7 es seen).Perm (e :: Zc7 es (seen.push e.born)) := by
 have hn : ((Zc7 es seen).map (·.born)).Nodup := h.apart.sublist ((List.filter_sublist ..).map _)
 have h1 := Zhe e _ hn he
 have h2 : Zc7 es (seen.push e.born) = (Zc7 es seen).filter fun x => !(x.born == e.born) := by
  unfold Zc7
  rw [List.filter_filter];refine List.filter_congr fun x _ => ?_
  have e3 : (x.born == e.born) = decide (x.born = e.born) := by by_cases h : x.born = e.born <;> simp [h]
  simp [e3,Bool.and_comm]
 rw [h2];exact h1
section
variable {P : Program} {o : Oper} {σ : Env} {w : World} {x y : Operand} {t kt et : TypeId} {N : Nat} {ds : Md} {K : Env → World → Prop}
theorem Zqg (w : World) (ty : TypeId) (it bm since c0 : Nat) (seen : Array Nat) (es : Array MapEntry) (clock : Nat) (hi : w.heap[it]? = some (.mapIter (some bm) since seen c0)) (hb : w.heap[bm]? = some (.map es clock)) (hold : ∀ x ∈ es.toList,x.born < since) (hsc : since ≤ c0) :
  (Zc7 es seen = [] ∧ (Instr.next (.pointer (some ⟨it,0,none⟩)) false ty).run P w = .ok (.tuple #[.bool false]) w) ∨
  ∃ e ∈ Zc7 es seen,∃ w1 : World,(w1 = w ∨ w1 = w.drew) ∧ (Instr.next (.pointer (some ⟨it,0,none⟩)) false ty).run P w = .ok (.tuple #[.bool true,e.key,e.val]) { w1 with heap := w1.heap.setIfInBounds it (.mapIter (some bm) since (seen.push e.born) clock) } := by
 simp only [Instr.next,getObj,Sem.run_bind,Sem.run,hi,hb,Result.andThen,next_test_false seen es since c0 hold hsc,Bool.false_eq_true,if_false]
 have hLe : Zc7 es seen = (Array.filter (fun e => !seen.contains e.born) es).toList := by simp [Zc7]
 rw [hLe];have hmem : ∀ x ∈ (Array.filter (fun e => !seen.contains e.born) es).toList,x.born < since := fun x hx => hold x (by simp at hx ⊢; exact hx.1)
 generalize Array.filter (fun e => !seen.contains e.born) es = L at hmem ⊢;have e1 : L.filter (fun x => decide (x.born < since)) = L := Array.filter_eq_self.2 (fun x hx => by simpa using hmem x (by simpa using hx))
 have e2 : L.filter (fun x => decide (x.born ≥ since)) = #[] := by
  rw [Array.filter_eq_empty_iff];intro x hx
  have := hmem x (by simpa using hx)
  simp
  omega
 simp only [e1,e2,Array.append_empty]
 by_cases h0 : L.size = 0
 ·left
  have : L = #[] := Array.eq_empty_of_size_eq_zero h0
  subst this
  refine ⟨rfl,?_⟩
  simp [choose,Sem.run,Question.forced]
 ·right
  have hne : L.isEmpty = false := by simp [Array.isEmpty,h0]
  simp only [hne,Bool.false_eq_true,if_false,Array.empty_append,Array.size_map]
  have hch : ∃ (j : Nat) (w1 : World),j < L.size ∧ (w1 = w ∨ w1 = w.drew) ∧ (choose (Question.mapNext L.size)).run P w = .ok j w1 := by
   by_cases hf : L.size ≤ 1
   ·exact ⟨0,w,by omega,.inl rfl,by simp [choose,Sem.run,Question.forced,hf]⟩
   ·exact ⟨_,w.drew,Nat.mod_lt _ (by omega),.inr rfl,by
     simp only [choose,Sem.run,Question.forced,decide_eq_true_eq,hf,if_false,Question.cut]
     rfl⟩
  obtain ⟨j,w1,hj,hal,hrun⟩ := hch
  refine ⟨L[j],by simp,w1,hal,?_⟩
  have hi1 : w1.heap[it]? = some (.mapIter (some bm) since seen c0) := by rcases hal with rfl | rfl <;> exact hi
  have hset : ∀ o' : Obj,(setObj it o').run P w1 = .ok () { w1 with heap := w1.heap.setIfInBounds it o' } := fun o' => by simp [setObj,Sem.run,hi1]
  simp only [hrun,Array.getElem?_map,Array.getElem?_eq_getElem hj,Option.map_some,Sem.run_bind,hset,Result.andThen]
  rfl
theorem Zmf {bm d : Nat} {es : Array MapEntry} {clock : Nat} {W : World} {F : Nat → Prop} {rs : List Res} (ho : o.op = .range t x) (hx : ev σ x = some (.map (some bm))) [hu : Und P t (.map kt et)] (hm : Rd w (pts bm (.map es clock))) (hd : o.dst = some d) (hN : Nat.blt d N = true) (hS : St W F rs w)
  (hk : ∀ it w',St W F (pts it (.mapIter (some bm) clock #[] clock) :: rs) w' → RowKit.Below w.heap.size w w' → K ((d,.pointer (some ⟨it,0,none⟩)) :: σ) w') : X P o N ds σ w K := ⟨fun f ha K' Q' hK => by
 have hb : w.heap[bm]? = some (.map es clock) := by obtain ⟨h,rfl,hag⟩ := hm; exact hag bm _ (Zan _ _)
 unfold Oper.wp
 have hexec : (execOp f.eval o).run P w = .ok (.value (.pointer (some ⟨w.heap.size,0,none⟩))) (w.alloc (.mapIter (some bm) clock #[] clock)) := by
  simp [execOp,ho,ha.eval hx,run_range_map w t kt et bm es clock hu.und hb]
 rw [hexec];have := hK _ _ _ (ha.put (Zam hN) (.pointer (some ⟨w.heap.size,0,none⟩))) (hk w.heap.size _ (hS.alloc _) ((RowKit.Below.refl _ _).alloc (Nat.le_refl _) _))
 rw [← hd] at this;exact this⟩
theorem Zpy {it bm d : Nat} {es : Array MapEntry} {clock : Nat} {seen : Array Nat} {W : World} {F : Nat → Prop} {rs : List Res} (ho : o.op = .next x false) (hx : ev σ x = some (.pointer (some ⟨it,0,none⟩))) (hst : StampOk es clock) (hm : Rd w (pts bm (.map es clock))) (hd : o.dst = some d) (hN : Nat.blt d N = true)
  (hS : St W F (pts it (.mapIter (some bm) clock seen clock) :: rs) w) (h0 : Zc7 es seen = [] → K ((d,.tuple #[.bool false]) :: σ) w)
  (h1 : ∀ e,e ∈ Zc7 es seen → ∀ w',St W F (pts it (.mapIter (some bm) clock (seen.push e.born) clock) :: rs) w' → K ((d,.tuple #[.bool true,e.key,e.val]) :: σ) w') : X P o N ds σ w K := ⟨fun f ha K' Q' hK => by
 have hb : w.heap[bm]? = some (.map es clock) := by obtain ⟨h,rfl,hag⟩ := hm; exact hag bm _ (Zan _ _)
 have hi : w.heap[it]? = some (.mapIter (some bm) clock seen clock) := hS.get
 unfold Oper.wp
 rcases Zqg (P := P) w o.type it bm clock clock seen es clock hi hb hst.low (Nat.le_refl _) with ⟨g1,g2⟩ | ⟨e,he,w1,hw1,g2⟩
 ·have hexec : (execOp f.eval o).run P w = .ok (.value (.tuple #[.bool false])) w := by
   simp [execOp,ho,ha.eval hx,g2]
  rw [hexec];have := hK _ _ _ (ha.put (Zam hN) (.tuple #[.bool false])) (h0 g1)
  rw [← hd] at this;exact this
 ·have hexec : (execOp f.eval o).run P w = .ok (.value (.tuple #[.bool true,e.key,e.val])) { w1 with heap := w1.heap.setIfInBounds it (.mapIter (some bm) clock (seen.push e.born) clock) } := by
   simp [execOp,ho,ha.eval hx,g2]
  rw [hexec];have hS1 : St W F (pts it (.mapIter (some bm) clock seen clock) :: rs) w1 := by
   rcases hw1 with rfl | rfl
   ·exact hS
   ·exact hS.drew
  have := hK _ _ _ (ha.put (Zam hN) (.tuple #[.bool true,e.key,e.val])) (h1 e he _ (hS1.set (Za6 (o' := .mapIter (some bm) clock (seen.push e.born) clock) hS1.get)))
  rw [← hd] at this;exact this⟩
end
theorem Zl4 {e : MapEntry} : ∀ {l : List MapEntry},(l.map (·.born)).Nodup → e ∈ l → l.find? (fun x => x.born == e.born) = some e
 | x :: l,hn,he => by
  have hn' : x.born ∉ l.map (·.born) ∧ (l.map (·.born)).Nodup := List.nodup_cons.1 hn
  rcases List.mem_cons.1 he with rfl | he
  ·simp
  ·have : x.born ≠ e.born := fun q => hn'.1 (by rw [q]; exact List.mem_map.2 ⟨e,he,rfl⟩)
   rw [List.find?_cons_of_neg (by simpa using this)];exact Zl4 hn'.2 he
section
variable {P : Program} {o : Oper} {σ : Env} {w : World} {x y : Operand} {t kt et : TypeId} {N : Nat} {ds : Md} {K : Env → World → Prop}
theorem Ztd {it bm since : Nat} {es : Array MapEntry} {clock : Nat} {seen : Array Nat} {e : MapEntry} (ho : o.op = .entry x) (hx : ev σ x = some (.pointer (some ⟨it,0,none⟩))) (hst : StampOk es clock) (he : e ∈ es.toList) (hi : w.heap[it]? = some (.mapIter (some bm) since (seen.push e.born) clock)) (hb : w.heap[bm]? = some (.map es clock)) :
  Yl P o σ w (.tuple #[e.key,e.val]) := ⟨fun N ds a ha => by
 have hg : (getObj it).run P w = .ok (.mapIter (some bm) since (seen.push e.born) clock) w := by simp [getObj,Sem.run,hi]
 have hm : (getObj bm).run P w = .ok (.map es clock) w := by simp [getObj,Sem.run,hb]
 have hf : es.find? (fun x => x.born == e.born) = some e := by rw [← Array.find?_toList]; exact Zl4 hst.apart he
 simp only [execOp,ho,ha.eval hx,Instr.entry,Sem.run_bind,hg,hm,Result.andThen_ok,Array.back?_push]
 simp [hf,Result.andThen]⟩
variable {α : Type} [DecidableEq α] {mk : α → Value} {dd : TypeDesc}
theorem Zjb {r : Nat} {L : List (α × Value)} {k : α} {W : World} {F : Nat → Prop} {rs : List Res} {ts : TypeId} (ho : o.op = .call { callee := .builtin .delete,args := #[x,y],argTypes := #[t,ts] }) (hx : ev σ x = some (.map (some r))) (hy : ev σ y = some (mk k)) [hu : Und P t (.map kt et)] [hkt : Und P kt dd] [hK : Key dd mk]
  (hd : o.dst = none) (hS : St W F (mapq mk r L :: rs) w) (hk : ∀ w',St W F (mapq mk r (delM k L) :: rs) w' → K σ w') : X P o N ds σ w K := ⟨fun f ha K' Q' hKK => by
 obtain ⟨es,clock,hes,hst,hS2⟩ := hS.openMap
 have hb : w.heap[r]? = some (.map es clock) := hS2.get
 have hc := run_checkKey (P := P) (w := w) hkt.und (hK.isKey k) es.isEmpty 9999
 have hg : (getObj r).run P w = .ok (.map es clock) w := by simp [getObj,Sem.run,hb]
 have hset : ∀ o',(setObj r o').run P w = .ok () { w with heap := w.heap.setIfInBounds r o' } := fun o' => run_setObj_map o' hb
 unfold Oper.wp
 have key : ∃ es' w',(execOp f.eval o).run P w = .ok (.value (.tuple #[])) w' ∧ SetBlock w w' r (.map es' clock) ∧ kvs es' = (delM k L).map (fun x => (mk x.1,x.2)) ∧ StampOk es' clock := by
  rcases Zkp (hk := hK) k L es.toList 0 hes with ⟨g1,g2⟩ | ⟨j,v,g1,_,g4,g3⟩
  ·have hf := run_findKey (P := P) (w := w) hkt.und g1
   refine ⟨es,{ w with heap := w.heap.setIfInBounds r (.map es clock) },?_,Za6 hb,by rw [g2]; exact hes,hst⟩
   simp [execOp,ho,resolve,invoke,builtin,ha.eval hx,ha.eval hy,Builtin.delete_,run_underlying hu.und,hg,hc,hf,hset,Result.andThen]
  ·have hf := run_findKey (P := P) (w := w) hkt.und g1
   simp only [Nat.sub_zero,Array.length_toList] at g4 g3
   refine ⟨es.eraseIdx j g4,{ w with heap := w.heap.setIfInBounds r (.map (es.eraseIdx j g4) clock) },?_,Za6 hb,by rw [← g3]; simp [kvs,Array.toList_eraseIdx],Zqd hst j g4⟩
   have e1 : es.eraseIdxIfInBounds j = es.eraseIdx j g4 := by unfold Array.eraseIdxIfInBounds; rw [dif_pos g4]
   simp [execOp,ho,resolve,invoke,builtin,ha.eval hx,ha.eval hy,Builtin.delete_,run_underlying hu.und,hg,hc,hf,hset,Result.andThen,e1]
 obtain ⟨es',w',hexec,u,hes',hst'⟩ := key
 rw [hexec];refine hKK _ _ _ (?_ : Fr σ N ds _) (hk _ ((hS2.set u).head fun h hh => ⟨es',clock,hes',hst',hh⟩))
 rw [hd]; exact ha⟩
class EClone (P : Program) (g : FuncId) : Prop where
 run : ∀ {t : TypeId} {r : Nat} {es : Array MapEntry} {clock : Nat} {w : World},w.heap[r]? = some (.map es clock) → (callFunc g #[.iface t (.map (some r))]).run P w = .ok (.value (.iface t (.map (some w.heap.size)))) (w.alloc (.map es clock))
theorem Zpu {a : Option Nat} {t2 : TypeId} {k e : TypeId} (ho : o.op = .binOp .eql t x y t2) (hx : ev σ x = some (.map a)) (hy : ev σ y = some (.map none)) [h : Und P t (.map k e)] : Yl P o σ w (.bool a.isNone) := ⟨fun N ds f ha => by
 simp only [execOp,ho,ha.eval hx,ha.eval hy,eqGuard,binOp,Sem.run_bind,Sem.run_pure,Result.andThen_ok,Zmv (e := e)]; cases a <;> rfl⟩
theorem Zpr {v : Value} (ho : o.op = .makeInterface t x) (hx : ev σ x = some v) (hi : ∀ w,(Instr.makeInterface t v).run P w = .ok (.iface t v) w) : Yl P o σ w (.iface t v) := ⟨fun N ds f ha => by
 simp [execOp,ho,ha.eval hx,hi]⟩
end
end Cr
namespace Cr
open Go Go.Proofs
set_option maxRecDepth 100000
set_option maxHeartbeats 64000000
attribute [local irreducible] Calls

structure SV where
 s : Sto
 da : Option Addr
 dc : Nat
 ba : Option Addr
 bc : Nat
abbrev SV.val (x : SV) : Value := .agg (stoV x.s x.da x.dc x.ba x.bc).toArray
abbrev AV := List (Int × SV)
def AV.ents (A : AV) : Ents := A.map fun x => (x.1,x.2.s)
def AV.vals (A : AV) : List (Int × Value) := A.map fun x => (x.1,x.2.val)
def AV.rows (A : AV) : List RowD := A.flatMap fun x => [(x.2.da,bv x.2.s.nd.data),(x.2.ba,ints .i64 x.2.s.blocks)]
theorem AV.row_d {A : AV} {x : Int × SV} (h : x ∈ A) : (x.2.da,bv x.2.s.nd.data) ∈ A.rows := List.mem_flatMap.2 ⟨x,h,by simp⟩
theorem AV.row_b {A : AV} {x : Int × SV} (h : x ∈ A) : (x.2.ba,ints .i64 x.2.s.blocks) ∈ A.rows := List.mem_flatMap.2 ⟨x,h,by simp⟩
theorem AV.mem_ents {A : AV} {x : Int × SV} (h : x ∈ A) : (x.1,x.2.s) ∈ A.ents := List.mem_map.2 ⟨x,h,rfl⟩
theorem Zw1 {k : Int} : ∀ A : AV,getM k A.vals = (getA k A).map SV.val
 | [] => rfl
 | x :: A => by
  have ih := Zw1 (k := k) A
  simp only [AV.vals,List.map_cons,getM,getA] at ih ⊢
  split
  ·rfl
  ·exact ih
theorem Z07 {k : Int} {v : SV} : ∀ A : AV,setM k v.val A.vals = AV.vals (setA k v A)
 | [] => rfl
 | x :: A => by
  have ih := Z07 (k := k) (v := v) A
  simp only [AV.vals,List.map_cons,setM,setA] at ih ⊢
  split
  ·rfl
  ·rw [ih]; rfl
theorem Z1l {k : Int} : ∀ A : AV,delM k A.vals = AV.vals (delA k A)
 | [] => rfl
 | x :: A => by
  have ih := Z1l (k := k) A
  simp only [AV.vals,List.map_cons,delM,delA] at ih ⊢
  split
  ·rfl
  ·rw [ih]; rfl
theorem Z0h {k : Int} (A : AV) : getA k A.ents = (getA k A).map SV.s := Zsr SV.s
def atT (T : Tb) (no : Int) : Option Nd := if 0 ≤ no then T.getD no.toNat none else none
theorem Z7d {A : Ents} {n : Nat} (hk : ∀ k ∈ Zav A,0 ≤ k ∧ k < n) (no : Int) : atT (tabOf A n) no = (getA no A).map (·.nd) := by
 unfold atT
 by_cases h0 : 0 ≤ no
 ·rw [if_pos h0]
  by_cases h1 : no.toNat < n
  ·rw [List.getD_eq_getElem?_getD,Zfg A h1,Option.getD_some,show ((no.toNat : Nat) : Int) = no by omega]
  ·rw [List.getD_eq_getElem?_getD,List.getElem?_eq_none (by rw [Zb2]; omega),Option.getD_none,getA_none.2 (fun h => by have := hk no h; omega)]; rfl
 ·rw [if_neg h0,getA_none.2 (fun h => by have := hk no h; omega)]; rfl
structure TabOk (rd fs : List Int) (n nb : Nat) (T : Tb) (A : AV) (dat : List (List UInt8)) : Prop where
 tab : tabOf A.ents n = T
 enc : Enc rd fs dat n nb A.ents
 n1 : 1 ≤ n
 n4 : n ≤ 400
 nb1 : 1 ≤ nb
def itab (rd fs : List Int) (tp lp p j m n nb : Nat) (T : Tb) : Res := fun h => ∃ (r : Nat) (A : AV) (dat : List (List UInt8)),TabOk rd fs n nb T A dat ∧ Sep [Zid tp lp n r,mapq (Value.int .i64) r A.vals,bag A.rows,qlog lp p j m dat] h
structure ItabRd (w : World) (rd fs : List Int) (tp lp p j m n nb : Nat) (T : Tb) (r : Nat) (A : AV) (dat : List (List UInt8)) : Prop where
 ok : TabOk rd fs n nb T A dat
 t : Rd w (Zid tp lp n r)
 mp : Rd w (mapq (Value.int .i64) r A.vals)
 bg : Rd w (bag A.rows)
 q : Rd w (qlog lp p j m dat)
section
variable {rd fs : List Int} {tp lp p j m n nb : Nat} {T : Tb}
theorem Rd.itab {w : World} (h : Rd w (Cr.itab rd fs tp lp p j m n nb T)) : ∃ r A dat,ItabRd w rd fs tp lp p j m n nb T r A dat := by
 obtain ⟨f,⟨r,A,dat,hok,hs⟩,ha⟩ := h
 have hr := Rd.sep ⟨f,hs,ha⟩
 exact ⟨r,A,dat,hok,hr _ (List.mem_cons_self ..),hr _ (List.mem_cons_of_mem _ (List.mem_cons_self ..)),hr _ (List.mem_cons_of_mem _ (List.mem_cons_of_mem _ (List.mem_cons_self ..))),hr _ (List.mem_cons_of_mem _ (List.mem_cons_of_mem _ (List.mem_cons_of_mem _ (List.mem_cons_self ..))))⟩
theorem St.openItab {W : World} {F : Nat → Prop} {rs : List Res} {w : World} (hS : St W F (itab rd fs tp lp p j m n nb T :: rs) w) : ∃ r A dat,TabOk rd fs n nb T A dat ∧ St W F (Zid tp lp n r :: mapq (Value.int .i64) r A.vals :: bag A.rows :: qlog lp p j m dat :: rs) w := by
 obtain ⟨h,⟨h1,h2,⟨r,A,dat,hq,hs⟩,hr,hd,hu⟩,s⟩ := hS
 exact ⟨r,A,dat,hq,h,Sep.append_mk hs hr hd hu,s⟩
theorem St.shutItab {W : World} {F : Nat → Prop} {rs : List Res} {w : World} {r : Nat} {A : AV} {dat : List (List UInt8)} (hq : TabOk rd fs n nb T A dat) (hS : St W F (Zid tp lp n r :: mapq (Value.int .i64) r A.vals :: bag A.rows :: qlog lp p j m dat :: rs) w) : St W F (itab rd fs tp lp p j m n nb T :: rs) w :=
 St.shutR (rs' := [Zid tp lp n r,mapq (Value.int .i64) r A.vals,bag A.rows,qlog lp p j m dat]) hS fun _ hh => ⟨r,A,dat,hq,hh⟩
theorem TabOk.tlen {A : AV} {dat : List (List UInt8)} (h : TabOk rd fs n nb T A dat) : T.length = n := by rw [← h.tab,Zb2]
theorem TabOk.at_ {A : AV} {dat : List (List UInt8)} (h : TabOk rd fs n nb T A dat) (no : Int) : (getA no A).map (fun x => x.s.nd) = atT T no := by
 rw [← h.tab,Z7d h.enc.keys,Z0h,Option.map_map]; rfl
abbrev ndV (x : Nd) (a : Option Addr) (c : Nat) : List Value := [.int .i64 x.st.kind,.int .i64 x.st.mode,.int .i64 x.st.owner,.int .i64 x.st.group,.slice a x.data.length c]
abbrev nd0 : Value := .agg (List.toArray [.int .i64 0,.int .i64 0,.int .i64 0,.int .i64 0,.slice none 0 0])
theorem Z6d {r : Nat} {A : AV} {dat : List (List UInt8)} (W : World) (hI : ItabRd W rd fs tp lp p j m n nb T r A dat) : Calls Tryz.prog 91 #[.pointer (some ⟨tp,0,none⟩)] W (Ret fun v w => v = .int .i64 (n : Nat) ∧ W = w) := by
 have hc := hI.t.pts
 have hS := St.start W
 refine Zab Tryz.func91 rfl Tryz.ntmps91 rfl ?_
 repeat (first|refine Yeb ?_|(refine X_id ?_;first|refine Yaf ?_|refine Yag ?_|refine Yau ?_|refine Yan ?_|refine Ybt ?_|refine Yb5 ?_)|refine Ye1 ?_|refine Yed ?_)
 exact ⟨rfl,rfl⟩
theorem Z0e (no : Int) (hno : atT T no = none) {r : Nat} {A : AV} {dat : List (List UInt8)} (W : World) (hI : ItabRd W rd fs tp lp p j m n nb T r A dat) :
  Calls Tryz.prog 67 #[.pointer (some ⟨tp,0,none⟩),.int .i64 no] W (Ret fun v w => v = .tuple #[nd0,.int .i64 7] ∧ St W noF [] w) := by
 have hc := hI.t.ro
 have hmo := hI.mp.ro
 have hg : getM no A.vals = none := by
  rw [Zw1];have := hI.ok.at_ no
  rw [hno] at this;rw [Option.map_eq_none_iff] at this ⊢;exact this
 have hS := St.start W
 refine Zab Tryz.func67 rfl Tryz.ntmps67 rfl ?_
 repeat (first|refine Yeb ?_|(refine X_id ?_;first|refine Yaf ?_|refine Yag ?_|refine Yau ?_|refine Yan ?_|refine Ybt ?_|refine Yar (fun _ _ hS _ => ?_)|refine Ycv ?_)|refine Yen ?_|refine Yab ?_)
 refine X_yl (Zg1 (mk := Value.int .i64) (L := A.vals) (k := no) rfl rfl rfl ((hmo.rd hS).mapq_r)) rfl rfl ?_
 rw [hg];simp only [Option.getD_none,Option.isSome_none]
 repeat (first|refine Yeb ?_|(refine X_id ?_;first|refine Yaf ?_|refine Yag ?_|refine Ya0 ?_|refine Ybo ?_|refine Ybm ?_|refine Yao (fun _ hS _ => ?_)|refine Yar (fun _ _ hS _ => ?_))|refine Yet ?_|refine Yab ?_|refine Yap ?_|refine Ybz ?_)
 exact ⟨rfl,hS.drops⟩
theorem Z0d (no : Int) (x : Nd) (hno : atT T no = some x) {r : Nat} {A : AV} {dat : List (List UInt8)} (W : World) (hI : ItabRd W rd fs tp lp p j m n nb T r A dat) :
  Calls Tryz.prog 67 #[.pointer (some ⟨tp,0,none⟩),.int .i64 no] W (Ret fun v w => ∃ a c,v = .tuple #[.agg (ndV x a c).toArray,.int .i64 0] ∧ x.data.length ≤ c ∧ St W noF [own 5 1 a c (bv x.data)] w) := by
 have hc := hI.t.ro
 have hmo := hI.mp.ro
 have hbo := hI.bg.ro
 obtain ⟨s,hs,rfl⟩ := Option.map_eq_some_iff.1 ((hI.ok.at_ no).trans hno)
 have hg : getM no A.vals = some s.val := by rw [Zw1,hs]; rfl
 have hm := Zjj hs
 have hlen := (hI.ok.enc.ok _ (AV.mem_ents hm)).len
 have hda : Ro W noF (bytes s.da s.s.nd.data) := hbo.bag (AV.row_d hm)
 have hS := St.start W
 refine Zab Tryz.func67 rfl Tryz.ntmps67 rfl ?_
 repeat (first|refine Yeb ?_|(refine X_id ?_;first|refine Yaf ?_|refine Yag ?_|refine Yau ?_|refine Yan ?_|refine Ybt ?_|refine Yar (fun _ _ hS _ => ?_)|refine Ycv ?_)|refine Yen ?_|refine Yab ?_)
 refine X_yl (Zg1 (mk := Value.int .i64) (L := A.vals) (k := no) rfl rfl rfl ((hmo.rd hS).mapq_r)) rfl rfl ?_
 rw [hg];simp only [Option.getD_some,Option.isSome_some]
 repeat (first|refine Yeb ?_|(refine X_id ?_;first|refine Yaf ?_|refine Yag ?_|refine Ya0 ?_|refine Ybb ?_|refine Yao (fun _ hS _ => ?_)|refine Yar (fun _ _ hS _ => ?_))|refine Yen ?_|refine Yab ?_)
 refine Zao (.s 0 (.s 1 (.s 2 (.s 3 (.s 4 (.s 5 (.h 6 (.s 7 (.h 8 (.s 9 .nil) .no)) .no))))))) mixed (by kernel_rfl) rfl ?_
 have hS := hS.drew
 repeat (first|(refine Zaf ?_;first|refine Ybk ?_|refine Ybn ?_|refine Yb0 ?_|refine Yax ?_))
 refine Zaa _ rfl rfl rfl rfl rfl (Ze6 s.da s.s.nd.data.length s.dc s.s.nd.data _ (hda.rd hS) rfl (by simp only at hlen; omega)) ?_
 rintro _ w ⟨a,c,rfl,_,hca,hS'⟩
 replace hS := hS.plus hS';clear hS';repeat (first|refine Yao (fun _ hS _ => ?_)|refine Yah ?_|refine Yab ?_|refine Ybz ?_|(refine Zaf ?_;first|refine Ya2 ?_|refine Ybl ?_|refine Ycd ?_|refine Yax ?_)|(refine Zad ?_;first|refine Yay ?_))
 exact ⟨a,c,rfl,hca,hS.took⟩
end
end Cr
