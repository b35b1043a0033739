/-
  Package chain: the record that a value is,or that it is none.
  Package chain: read,Open,Whole,whatever values stand at the keys.
  Package audit: Of and Verify of a change whose chain holds any values; Open and Whole of such a chain.
  Values that are built,list in list: what lies on the stack; how great they are; two values that are alike. No program is in sight.
  Package codec: Same,lists in lists too.
  The builtin min. Over any program.
  How long a leaf's bytes are.
  Layer 27: the laws' helpers cut and To; how long a record's bytes are.
  The law AuditBent: what it computes.
  A law's arguments,opened: bytes,lists of writes. What is read of them,by the reading that the row gives.
  A law's argument,opened: a slice of structs,whatever their fields; an array of bytes.
  Layer 27's record as an argument,opened.
  The argument of the audit's laws,opened: a slice of records.
-/
import Derived.Test.YtpbgaojjlepkcaaGreatDoorAbn15
import Derived.Test.YtpbgaojjlepkcaaGreatDoorAbn5
import Derived.Test.YtpbgaojjlepkcaaGreatDoorAbn7
import Derived.Test.YtpbgaojjlepkcaaGreatDoorAbn4
import Derived.Test.YtpbgaojjlepkcaaGreatDoorAbn3
import Derived.Test.YtpbgaojjlepkcaaGreatDoorAbn6
import Derived.Deep.SlicePairs
import Derived.Carry
import Derived.OpenShut
namespace Cr
open Go Go.Proofs
set_option maxRecDepth 100000
set_option maxHeartbeats 64000000
attribute [local irreducible] Calls

theorem Zq8 {P : Program} {o : Oper} {σ : Env} {w : World} {t e : TypeId} {z : Value} {n size N m : Nat} (ho : o.op = .build t #[]) [h : Und P t (.array n e)] [hs : Siz P e size] [hi : Inf P t z N m] : Yl P o σ w (.agg z.cells) := ⟨fun N' ds a ha => by
 obtain ⟨i,hi',hz',hsz,_⟩ := info_parts hi.inf
 have hze : (zeroValue t).run P w = .ok z w := by simp [zeroValue,typeInfo,hi',hz']
 have hb : (Instr.build t #[]).run P w = .ok (.agg z.cells) w := by
  unfold Instr.build
  rw [Sem.run_bind,hze];show (underlying t >>= _ : Sem _).run P w = _
  rw [Sem.run_bind,run_underlying h.und];show (Go.sizeOf _ >>= _ : Sem _).run P w = _
  rw [Sem.run_bind,Zbj];simp [Result.andThen,Instr.fill]
 simp [execOp,ho,hb]⟩
theorem Zep {o : Oper} {σ : Env} {w : World} (ho : o.op = .build 79 #[]) : Yl Tryz.prog o σ w (.agg (List.replicate 32 (Value.int .u8 0)).toArray) := by
 have h := Zq8 (P := Tryz.prog) (σ := σ) (w := w) ho
 exact h
theorem Z39 {α : Type} {x : List α} (h : x.length = 2) : ∃ y0 y1,x = [y0,y1] := by
 match x,h with
 | [a,b],_ => exact ⟨a,b,rfl⟩
theorem Zzn {R : Option Addr → List Value → Prop} (W : World) (hR : ∀ a cs,R a cs → Ro W noF (row a cs)) (v : Mv) (hck : chkM 8 v = 0) (cs : List Value) (hv : Mrd R v cs) :
  Calls Tryz.prog 125 #[.agg (List.toArray cs)] W (Ret fun u w => match Zlp v with
   | some p => ∃ a c,u = .tuple #[.slice a p.1.length c,.agg (bv p.2).toArray,.bool true] ∧ p.1.length ≤ c ∧ R a (bv p.1) ∧ St W noF [] w
   | none => u = .tuple #[.slice none 0 0,.agg (List.replicate 32 (Value.int .u8 0)).toArray,.bool false] ∧ St W noF [] w) := by
 cases hrec : Zlp v with
 | some p =>
  obtain ⟨s,d⟩ := p
  obtain ⟨rfl,hs,hd⟩ := Zim hrec
  exact Z2k W hR s d hs hd cs hv
 | none =>
  have hS := St.start W
  have hz : LenO (List.replicate 32 (Value.int .u8 0)) 32 := ⟨by simp⟩
  obtain ⟨a1,c1,a2,c2,rows,rfl,hc1,_,hrow,hM⟩ := hv.lit
  rcases Za8 hck with ⟨n,rfl⟩ | ⟨s,rfl⟩ | ⟨x,m',rfl,_,hxc⟩
  ·simp only [Mv.kind,Mv.num,Mv.txt,Mv.lst,List.length_nil] at *
   refine Zab Tryz.func125 rfl Tryz.ntmps125 rfl ?_
   repeat (first|refine Yep ?_|(refine X_id ?_;first|refine Yaf ?_|refine Yag ?_|refine Yan ?_|refine Ya8 ?_|refine Ybj ?_|refine Yap ?_|refine Ya5 (fun _ _ hS _ => ?_)|refine Yar (fun _ _ hS _ => ?_))|refine Yev ?_|refine Yab ?_)
   refine X_yl (Zep rfl) rfl rfl ?_
   repeat (first|refine Yea ?_|refine Yag ?_|refine Yao (fun _ hS _ => ?_)|refine Yah ?_|refine Yab ?_|refine Yaq ?_|refine Yco ?_)
   exact ⟨rfl,hS.drops⟩
  ·simp only [Mv.kind,Mv.num,Mv.txt,Mv.lst,List.length_nil] at *
   refine Zab Tryz.func125 rfl Tryz.ntmps125 rfl ?_
   repeat (first|refine Yep ?_|(refine X_id ?_;first|refine Yaf ?_|refine Yag ?_|refine Yan ?_|refine Ya8 ?_|refine Ybj ?_|refine Yap ?_|refine Ya5 (fun _ _ hS _ => ?_)|refine Yar (fun _ _ hS _ => ?_))|refine Yev ?_|refine Yab ?_)
   refine X_yl (Zep rfl) rfl rfl ?_
   repeat (first|refine Yea ?_|refine Yag ?_|refine Yao (fun _ hS _ => ?_)|refine Yah ?_|refine Yab ?_|refine Yaq ?_|refine Yco ?_)
   exact ⟨rfl,hS.drops⟩
  simp only [Mv.kind,Mv.num,Mv.txt,Mv.lst,List.length_nil] at hrow hM hc1 ⊢
  by_cases h2 : x.length = 2
  case neg =>
   refine Zab Tryz.func125 rfl Tryz.ntmps125 rfl ?_
   repeat (first|refine Yer ?_|(refine X_id ?_;first|refine Yaf ?_|refine Yag ?_|refine Yan ?_|refine Ya1 ?_|refine Yav ?_|refine Ybj ?_|refine Ya4 ?_|refine Yap ?_|refine Ya5 (fun _ _ hS _ => ?_)|refine Yar (fun _ _ hS _ => ?_))|refine Yev ?_|refine Yab ?_)
   refine X_yl (Zep rfl) rfl rfl ?_
   repeat (first|refine Yea ?_|refine Yag ?_|refine Yao (fun _ hS _ => ?_)|refine Yah ?_|refine Yab ?_|refine Yaq ?_|refine Yco ?_)
   exact ⟨rfl,hS.drops⟩
  obtain ⟨y0,y1,rfl⟩ := Z39 h2
  simp only [List.length_cons,List.length_nil,Nat.zero_add,Nat.reduceAdd]
  obtain ⟨cs0,hxs0,hy0⟩ := hM.at_ (i := 0) (y := y0) rfl
  obtain ⟨cs1,hxs1,hy1⟩ := hM.at_ (i := 1) (y := y1) rfl
  obtain ⟨d1,e1,d2,e2,_,rfl,_⟩ := hy0.lit
  obtain ⟨d3,e3,d4,e4,_,rfl,_⟩ := hy1.lit
  have hr := hR _ _ hrow
  obtain ⟨xb,xo,rfl⟩ := hr.start.base (by intro e; rw [e] at hxs0; simp at hxs0)
  have hno : y0.kind = 1 → y1.kind = 1 → y1.txt.length = 32 → ¬ y0.txt.length ≤ 400 := fun k0 k1 l1 l0 => by
   rcases Za8 (hxc y0 (by simp)) with ⟨n,rfl⟩ | ⟨s,rfl⟩ | ⟨_,_,rfl,_⟩
   ·cases k0
   ·rcases Za8 (hxc y1 (by simp)) with ⟨n,rfl⟩ | ⟨d,rfl⟩ | ⟨_,_,rfl,_⟩
    ·cases k1
    ·have := Zin (s := s) (d := d) l0 l1
     rw [recV,hrec] at this; cases this
    ·cases k1
   ·cases k0
  clear hM hy0 hy1 hv hrec;generalize y0.kind = k0 at *;generalize y1.kind = k1 at *;generalize y0.txt.length = l0 at *;generalize y1.txt.length = l1 at *;by_cases hk0 : k0 = 1
  ·by_cases hk1 : k1 = 1
   ·by_cases hl1 : l1 = 32
    ·have hl0 := hno hk0 hk1 hl1
     refine Zab Tryz.func125 rfl Tryz.ntmps125 rfl ?_
     repeat (first|refine Yer ?_|(refine X_id ?_;first|refine Yaf ?_|refine Yag ?_|refine Yan ?_|refine Ya1 ?_|refine Yav ?_|refine Ya4 ?_|refine Yap ?_|refine Ya5 (fun _ _ hS _ => ?_)|refine Yar (fun _ _ hS _ => ?_))|refine Yem ?_|refine Yab ?_)
     refine Zam (.s 0 (.s 1 (.s 2 (.s 3 (.s 4 (.s 5 (.s 6 (.s 7 (.h 8 (.h 9 (.h 10 (.h 11 .nil .no) .no) .no) (.h 9 (.h 8 (.h 10 (.h 11 .nil .no) .no) .no) .no)))))))))) mixed (by kernel_rfl) rfl ?_
     have hS := hS.drew
     repeat (first|(refine Zae ?_;first|refine Ybe ?_|refine Yb3 ?_|refine Ybk ?_))
     refine Zat (fun w' => Zcp w' _ _ _) rfl rfl ((hr.rd hS).cellsX (by omega) hxs0 rfl) (fun _ hc => Za3 rfl rfl hc) rfl rfl ?_
     repeat (first|(refine Zae ?_;first|refine Ybe ?_|refine Yb3 ?_|refine Ybk ?_))
     refine Zat (fun w' => Zcp w' _ _ _) rfl rfl ((hr.rd hS).cellsX (by omega) hxs1 rfl) (fun _ hc => Za3 rfl rfl hc) rfl rfl ?_
     repeat' (first|refine Zfg ?_ ?_|refine Yer ?_|(refine X_id ?_;first|refine Yaf ?_|refine Yan ?_|refine Ya1 ?_|refine Yav ?_|refine Ya4 ?_|refine Ybx ?_|refine Yap ?_|refine Yao (fun _ hS _ => ?_)|refine Yar (fun _ _ hS _ => ?_))|refine Yev ?_|refine Yab ?_|(refine Zae ?_;first|refine Yfl ?_)|(refine Zac ?_;first|refine Ydr ?_))
     all_goals
      refine X_yl (Zep rfl) rfl rfl ?_
      repeat (first|refine Yea ?_|refine Yag ?_|refine Yao (fun _ hS _ => ?_)|refine Yah ?_|refine Yab ?_|refine Yaq ?_|refine Yco ?_)
      exact ⟨rfl,hS.drops⟩
    ·refine Zab Tryz.func125 rfl Tryz.ntmps125 rfl ?_
     repeat (first|refine Yer ?_|(refine X_id ?_;first|refine Yaf ?_|refine Yag ?_|refine Yan ?_|refine Ya1 ?_|refine Yav ?_|refine Ya4 ?_|refine Yap ?_|refine Ya5 (fun _ _ hS _ => ?_)|refine Yar (fun _ _ hS _ => ?_))|refine Yem ?_|refine Yab ?_)
     refine Zam (.s 0 (.s 1 (.s 2 (.s 3 (.s 4 (.s 5 (.s 6 (.s 7 (.h 8 (.h 9 (.h 10 (.h 11 .nil .no) .no) .no) (.h 9 (.h 8 (.h 10 (.h 11 .nil .no) .no) .no) .no)))))))))) mixed (by kernel_rfl) rfl ?_
     have hS := hS.drew
     repeat (first|(refine Zae ?_;first|refine Ybe ?_|refine Yb3 ?_|refine Ybk ?_))
     refine Zat (fun w' => Zcp w' _ _ _) rfl rfl ((hr.rd hS).cellsX (by omega) hxs0 rfl) (fun _ hc => Za3 rfl rfl hc) rfl rfl ?_
     repeat (first|(refine Zae ?_;first|refine Ybe ?_|refine Yb3 ?_|refine Ybk ?_))
     refine Zat (fun w' => Zcp w' _ _ _) rfl rfl ((hr.rd hS).cellsX (by omega) hxs1 rfl) (fun _ hc => Za3 rfl rfl hc) rfl rfl ?_
     repeat' (first|refine Zfg ?_ ?_|refine Yeu ?_|(refine X_id ?_;first|refine Yaf ?_|refine Yan ?_|refine Ya8 ?_|refine Ya1 ?_|refine Yav ?_|refine Ybj ?_|refine Ya4 ?_|refine Yap ?_|refine Yao (fun _ hS _ => ?_)|refine Yar (fun _ _ hS _ => ?_))|refine Yev ?_|refine Yab ?_|(refine Zae ?_;first|refine Yfl ?_)|(refine Zac ?_;first|refine Ydr ?_))
     all_goals
      refine X_yl (Zep rfl) rfl rfl ?_
      repeat (first|refine Yea ?_|refine Yag ?_|refine Yao (fun _ hS _ => ?_)|refine Yah ?_|refine Yab ?_|refine Yaq ?_|refine Yco ?_)
      exact ⟨rfl,hS.drops⟩
   ·refine Zab Tryz.func125 rfl Tryz.ntmps125 rfl ?_
    repeat (first|refine Yer ?_|(refine X_id ?_;first|refine Yaf ?_|refine Yag ?_|refine Yan ?_|refine Ya1 ?_|refine Yav ?_|refine Ya4 ?_|refine Yap ?_|refine Ya5 (fun _ _ hS _ => ?_)|refine Yar (fun _ _ hS _ => ?_))|refine Yem ?_|refine Yab ?_)
    refine Zam (.s 0 (.s 1 (.s 2 (.s 3 (.s 4 (.s 5 (.s 6 (.s 7 (.h 8 (.h 9 (.h 10 (.h 11 .nil .no) .no) .no) (.h 9 (.h 8 (.h 10 (.h 11 .nil .no) .no) .no) .no)))))))))) mixed (by kernel_rfl) rfl ?_
    have hS := hS.drew
    repeat (first|(refine Zae ?_;first|refine Ybe ?_|refine Yb3 ?_|refine Ybk ?_))
    refine Zat (fun w' => Zcp w' _ _ _) rfl rfl ((hr.rd hS).cellsX (by omega) hxs0 rfl) (fun _ hc => Za3 rfl rfl hc) rfl rfl ?_
    repeat (first|(refine Zae ?_;first|refine Ybe ?_|refine Yb3 ?_|refine Ybk ?_))
    refine Zat (fun w' => Zcp w' _ _ _) rfl rfl ((hr.rd hS).cellsX (by omega) hxs1 rfl) (fun _ hc => Za3 rfl rfl hc) rfl rfl ?_
    repeat' (first|refine Zfg ?_ ?_|refine Yeu ?_|(refine X_id ?_;first|refine Yaf ?_|refine Yan ?_|refine Ya8 ?_|refine Ya1 ?_|refine Ybj ?_|refine Ya4 ?_|refine Yap ?_|refine Yao (fun _ hS _ => ?_)|refine Yar (fun _ _ hS _ => ?_))|refine Yev ?_|refine Yab ?_|(refine Zae ?_;first|refine Yfl ?_)|(refine Zac ?_;first|refine Ydr ?_))
    all_goals
     refine X_yl (Zep rfl) rfl rfl ?_
     repeat (first|refine Yea ?_|refine Yag ?_|refine Yao (fun _ hS _ => ?_)|refine Yah ?_|refine Yab ?_|refine Yaq ?_|refine Yco ?_)
     exact ⟨rfl,hS.drops⟩
  ·refine Zab Tryz.func125 rfl Tryz.ntmps125 rfl ?_
   repeat (first|refine Yer ?_|(refine X_id ?_;first|refine Yaf ?_|refine Yag ?_|refine Yan ?_|refine Ya1 ?_|refine Yav ?_|refine Ya4 ?_|refine Yap ?_|refine Ya5 (fun _ _ hS _ => ?_)|refine Yar (fun _ _ hS _ => ?_))|refine Yem ?_|refine Yab ?_)
   refine Zam (.s 0 (.s 1 (.s 2 (.s 3 (.s 4 (.s 5 (.s 6 (.s 7 (.h 8 (.h 9 (.h 10 (.h 11 .nil .no) .no) .no) (.h 9 (.h 8 (.h 10 (.h 11 .nil .no) .no) .no) .no)))))))))) mixed (by kernel_rfl) rfl ?_
   have hS := hS.drew
   repeat (first|(refine Zae ?_;first|refine Ybe ?_|refine Yb3 ?_|refine Ybk ?_))
   refine Zat (fun w' => Zcp w' _ _ _) rfl rfl ((hr.rd hS).cellsX (by omega) hxs0 rfl) (fun _ hc => Za3 rfl rfl hc) rfl rfl ?_
   repeat (first|(refine Zae ?_;first|refine Ybe ?_|refine Yb3 ?_|refine Ybk ?_))
   refine Zat (fun w' => Zcp w' _ _ _) rfl rfl ((hr.rd hS).cellsX (by omega) hxs1 rfl) (fun _ hc => Za3 rfl rfl hc) rfl rfl ?_
   repeat' (first|refine Zfg ?_ ?_|refine Yep ?_|(refine X_id ?_;first|refine Yaf ?_|refine Yan ?_|refine Ya8 ?_|refine Ybj ?_|refine Yap ?_|refine Yao (fun _ hS _ => ?_)|refine Yar (fun _ _ hS _ => ?_))|refine Yev ?_|refine Yab ?_|(refine Zae ?_;first|refine Yfl ?_)|(refine Zac ?_;first|refine Ydr ?_))
   all_goals
    refine X_yl (Zep rfl) rfl rfl ?_
    repeat (first|refine Yea ?_|refine Yag ?_|refine Yao (fun _ hS _ => ?_)|refine Yah ?_|refine Yab ?_|refine Yaq ?_|refine Yco ?_)
    exact ⟨rfl,hS.drops⟩
section
variable {c f tp : Nat} {b : Int} {T : Int → Option Nd} {X : List RowD}
abbrev runV (rd fs : List Int) (vs : List Mv) : List (List UInt8) × Bool := runC rd fs 0 (Zb3 rd fs Zcw) vs
def ValsOk (vs : List Mv) : Prop := vs.length ≤ 7 ∧ ∀ v ∈ vs,chkM 8 v = 0 ∧ fitM v ∧ (encM v).length ≤ 512
theorem ValsOk.tree {vs : List Mv} (h : ValsOk vs) : TreeOk 10 (trV vs) := Z05 _ vs rfl h.1 fun v hv => ⟨(h.2 v hv).1,(h.2 v hv).2.2⟩
theorem Zxr (rd fs : List Int) (vs : List Mv) (hvs : ValsOk vs) (tb : Nat) (W : World) (F : Nat → Prop) (hT : TreeRo W F f tp 10 b T) (hG : Lg W F) (hD : Gl W F rd fs) (htb : Ro W F (pts tb (tbC c logN))) (hS : St W F [chR c f b T (Nt (trV vs)) X] W) :
  Calls Tryz.prog 73 #[.pointer (some ⟨tb,0,none⟩)] W (Ret fun v w => ∃ (x : Nat) (ra : Option Addr) (rc : Nat) (L : List Bs) (X' : List RowD),v = .tuple #[.pointer (some ⟨x,0,none⟩),.bool (runV rd fs vs).2] ∧ (∀ y ∈ X,y ∈ X') ∧ Zax L = (runV rd fs vs).1 ∧ BsIn L X' ∧ (runV rd fs vs).1.length ≤ rc ∧
   St W F [pts x (chnC (runV rd fs vs).1.length (Zaq rd fs (runV rd fs vs).1 (runV rd fs vs).1.length) tb ra rc),own 35 1 ra rc (L.map Bs.val),chR c f b T (Nt (trV vs)) X'] w) := by
 have ht := hvs.tree
 have h7 := hvs.1
 have hl33 : LenO (endV 0 (Zb3 rd fs Zcw)) 33 := ⟨by rw [List.length_cons,Zah,Zcn]⟩
 refine Zab Tryz.func73 rfl Tryz.ntmps73 rfl ?_
 repeat (first|refine Yea ?_|refine Yag ?_|refine Yae ?_|refine Ycj ?_|refine Yad ?_|refine Yab ?_)
 refine Zaa _ rfl rfl rfl rfl rfl (Z50 rd fs _ (hD.mono fun r hr => (hr.rd hS).ro)) ?_
 rintro _ w ⟨rfl,hS'⟩
 replace hS := hS.plus hS';clear hS';have hm0 : (Zb3 rd fs Zcw).length = 32 := Zcn _ _ _
 have hs1 := fun z r => Zzd hm0 z r
 have hs2 := fun u v r => Zzc hm0 u v r
 repeat (first|refine Yea ?_|refine Yaf ?_|refine Yag ?_|refine Ybl ?_|refine Ya5 (fun _ _ hS _ => ?_)|refine Yae ?_|refine Zhh ?_|refine Yal ?_|refine Yab ?_)
 rename_i xb _ _;have hS := hS.own_none 35 1 none
 refine Zal (α := List (List UInt8) × Option Addr × Nat × List Bs × List RowD) (fun z => [(0,.pointer (some ⟨tb,0,none⟩)),(4,.pointer (some ⟨xb,0,none⟩))])
  (fun z w => z.1.length ≤ vs.length ∧ (∀ y ∈ X,y ∈ z.2.2.2.2) ∧ Zax z.2.2.2.1 = z.1 ∧ BsIn z.2.2.2.1 z.2.2.2.2 ∧ z.1.length ≤ z.2.2.1 ∧ runV rd fs vs = (z.1 ++ (runC rd fs z.1.length (Zaq rd fs z.1 z.1.length) (vs.drop z.1.length)).1,(runC rd fs z.1.length (Zaq rd fs z.1 z.1.length) (vs.drop z.1.length)).2) ∧
   St W F [pts xb (.cells (endX z.1.length (Zaq rd fs z.1 z.1.length) [.pointer (some ⟨tb,0,none⟩),.slice z.2.1 z.1.length z.2.2.1]).toArray 157 (0,0)),own 35 1 z.2.1 z.2.2.1 (z.2.2.2.1.map Bs.val),chR c f b T (Nt (trV vs)) z.2.2.2.2] w)
  (fun z => vs.length - z.1.length) ([],none,0,[],X) ⟨rfl,rfl,trivial⟩ ⟨Nat.zero_le _,fun _ h => h,rfl,⟨fun _ h => (List.not_mem_nil h).elim,fun _ h => (List.not_mem_nil h).elim⟩,Nat.le_refl _,rfl,hS.pick [1,0,0]⟩ ?_
 clear hS;rintro ⟨l,ra,rc,L,X1⟩ w ⟨hi,hX1,hT1,hB1,hrc,hrun,hS⟩
 simp only at hi hX1 hT1 hB1 hrc hrun hS ⊢
 have hL1 : L.length = l.length := by rw [← hT1]; simp [Zax]
 obtain ⟨i,hil⟩ : ∃ i,i = l.length := ⟨_,rfl⟩
 rw [← hil] at hi hrc hrun hS hL1;obtain ⟨m,hm⟩ : ∃ m,m = Zaq rd fs l i := ⟨_,rfl⟩
 have hm32 : m.length = 32 := by rw [hm]; exact Zbo _ _ _ _
 rw [← hm] at hrun hS;repeat (first|refine Yaa ?_|refine Yaf ?_|refine Yau ?_|refine Yan ?_|refine Yap ?_|refine Yed ?_)
 refine Zaa _ rfl rfl rfl rfl rfl (Zt8 i (by omega) _ (hG.at_ hS)) ?_
 rintro _ w ⟨rfl,hS'⟩
 replace hS := hS.plus hS';clear hS';repeat (first|refine Yea ?_|refine Yen ?_|refine Yeb ?_|refine Yab ?_)
 obtain ⟨_,hcc,hr1,hw,hbk⟩ := hS.call [false,false,true]
 refine Zaa _ rfl rfl rfl rfl rfl (Z4c ht tb logN (keyD i) _ _ (hT.mono hw) (hG.mono hw) (hw _ htb) hcc) ?_
 rintro v w ⟨X2,hX2,hS,hv⟩
 replace hS := hbk hS
 clear hbk hw hcc hr1;have hX12 : ∀ y ∈ X,y ∈ X2 := fun y hy => hX2 y (hX1 y hy)
 by_cases hlt : i < vs.length
 case neg =>
  have hiz : i = vs.length := by omega
  rw [Zv8 (by omega) (by omega)] at hv;obtain ⟨_,rfl⟩ := hv
  rw [hiz,List.drop_length,runC,List.append_nil] at hrun;repeat (first|refine Yep ?_|(refine X_id ?_;first|refine Yaf ?_|refine Yag ?_|refine Yat ?_|refine Ya8 ?_|refine Ybi ?_|refine Yao (fun _ hS _ => ?_)|refine Yar (fun _ _ hS _ => ?_))|refine Yfb ?_|refine Yab ?_|refine Yaq ?_|refine Yb4 ?_|refine Ya7 ?_|refine Ybo ?_)
  rw [hrun];refine ⟨xb,ra,rc,L,X2,rfl,hX12,hT1,⟨fun x hx => hX2 _ (hB1.inn x hx),hB1.cap⟩,by rw [← hil]; exact hrc,?_⟩
  rw [← hil,← hm];exact hS.took
 have hv0 : vs[i]? = some vs[i] := List.getElem?_eq_getElem hlt
 have hdr : vs.drop i = vs[i] :: vs.drop (i + 1) := List.drop_eq_getElem_cons hlt
 generalize vs[i] = y at hv0 hdr;obtain ⟨hyc,hyf,hyl⟩ := hvs.2 y (List.mem_of_getElem? hv0)
 rw [Zs4 h7 hv0 hyc hyf] at hv;obtain ⟨cs,rfl,hM⟩ := hv
 obtain ⟨e1,e2,e3,e4,e5,rfl,_⟩ := hM.lit
 rw [hdr,runC] at hrun;have hrg := fun W h => Zzn (R := RX X2) W h y hyc _ hM
 cases hrec : Zlp y with
 | none =>
  rw [hrec] at hrun hrg;simp only [List.append_nil] at hrun hrg
  have hz : LenO (List.replicate 32 (Value.int .u8 0)) 32 := ⟨by simp⟩
  repeat (first|refine Yer ?_|(refine X_id ?_;first|refine Yaf ?_|refine Yag ?_|refine Yat ?_|refine Ya1 ?_|refine Ybh ?_|refine Ya4 ?_|refine Ybg ?_|refine Yao (fun _ hS _ => ?_)|refine Yar (fun _ _ hS _ => ?_)|refine Ydj ?_)|refine Ye4 ?_|refine Yei ?_)
  refine Zaa _ rfl rfl rfl rfl rfl (hrg _ (fun a cs h => (h.rd (hS.rd (r := chR c f b T (Nt (trV vs)) X2) (by simp)).ch).ro)) ?_
  rintro _ w ⟨rfl,hS'⟩
  replace hS := hS.plus hS';clear hS';repeat (first|refine Yea ?_|refine Yeo ?_|refine Yao (fun _ hS _ => ?_)|refine Yar (fun _ _ hS _ => ?_)|refine Yae ?_|refine Yab ?_)
  refine Zam (.s 0 (.s 1 (.s 2 (.s 3 (.s 4 (.s 5 (.s 6 (.s 7 (.s 8 (.s 9 (.s 10 (.s 11 (.s 12 (.s 13 (.s 15 (.h 14 (.s 16 (.s 17 .nil)) .no)))))))))))))))) mixed (by kernel_rfl) rfl ?_
  have hS := hS.drew
  repeat (first|refine Yea ?_|refine Yen ?_|refine Yae ?_|refine Yad ?_|refine Yah ?_|refine Ya9 ?_|refine Yaj ?_|refine Yab ?_|refine Yb4 ?_|refine Yba ?_|refine Ybb ?_|refine Zo2 rfl ?_|refine Ybo ?_|(refine Zae ?_;first|refine Yay ?_|refine Ya3 ?_|refine Ycb ?_|refine Zak rfl rfl (fun _ => Zoo rfl rfl) rfl rfl ?_|refine Ycw ?_|refine Ycc ?_))
  rw [hrun];refine ⟨xb,ra,rc,L,X2,rfl,hX12,hT1,⟨fun x hx => hX2 _ (hB1.inn x hx),hB1.cap⟩,by rw [← hil]; exact hrc,?_⟩
  rw [← hil,← hm];exact hS.took
 | some p =>
  obtain ⟨s,d⟩ := p
  obtain ⟨_,hs4,hd32⟩ := Zim hrec
  rw [hrec] at hrun hrg;simp only at hrun hrg
  have hm2 : LenO (bv d) 32 := ⟨by rw [Zah]; exact hd32⟩
  obtain ⟨dg,hdg⟩ : ∃ dg,digest rd fs [m,be8 (i : Nat),s] = dg := ⟨_,rfl⟩
  have hdg32 : dg.length = 32 := by rw [← hdg]; exact Zau _ _ _
  have hmd : LenO (bv dg) 32 := ⟨by rw [Zah]; exact hdg32⟩
  rw [hdg] at hrun;repeat (first|refine Yer ?_|(refine X_id ?_;first|refine Yaf ?_|refine Yag ?_|refine Yat ?_|refine Ya1 ?_|refine Ybh ?_|refine Ya4 ?_|refine Ybg ?_|refine Yao (fun _ hS _ => ?_)|refine Yar (fun _ _ hS _ => ?_)|refine Ydj ?_)|refine Ye4 ?_|refine Yei ?_)
  refine Zaa _ rfl rfl rfl rfl rfl (hrg _ (fun a cs h => (h.rd (hS.rd (r := chR c f b T (Nt (trV vs)) X2) (by simp)).ch).ro)) ?_
  rintro _ w ⟨a,q,rfl,hq,hrow,hS'⟩
  replace hS := hS.plus hS';clear hS';repeat (first|refine Yea ?_|refine Yeo ?_|refine Yao (fun _ hS _ => ?_)|refine Yar (fun _ _ hS _ => ?_)|refine Yae ?_|refine Yab ?_)
  refine Zam (.s 0 (.s 1 (.s 2 (.s 3 (.s 4 (.s 5 (.s 6 (.s 7 (.s 8 (.s 9 (.s 10 (.s 11 (.s 12 (.s 13 (.s 15 (.h 14 (.s 16 (.s 17 .nil)) .no)))))))))))))))) mixed (by kernel_rfl) rfl ?_
  have hS := hS.drew
  repeat (first|(refine Zae ?_;first|refine Ya3 ?_|refine Ydd ?_|refine Yb6 ?_|refine Yct ?_|refine Yck ?_))
  have hqE := (hS.rd (r := pts xb (.cells (endX i m [.pointer (some ⟨tb,0,none⟩),.slice ra i rc]).toArray 157 (0,0))) (by simp)).pts
  refine Zcu (fun w' => Zcp w' _ _ _) rfl rfl rfl rfl (Zh4 hm32 hqE) (fun _ hc => Za3 rfl rfl hc) rfl rfl ?_
  repeat (first|(refine Zae ?_;first|refine Yb6 ?_|refine Yct ?_|refine Yck ?_|refine Ycx ?_|refine Ycr ?_|refine Ydv ?_))
  refine Zad 113 rfl rfl rfl rfl rfl hS (Zzz m (i : Nat) a q s rd fs _ hm32 (hD.mono fun r hr => (hr.rd hS).ro) (hrow.rd (hS.rd (r := chR c f b T (Nt (trV vs)) X2) (by simp)).ch).ro (by omega)) ?_
  rintro _ w rfl hS
  rw [hdg];repeat (first|(refine Zac ?_;first|refine Yaz ?_))
  refine Zbv rfl rfl rfl rfl (fun _ => Zia rfl rfl rfl hdg32 hd32) rfl rfl ?_
  by_cases heq : dg = d
  case neg =>
   rw [decide_eq_true (show ¬ dg = d from heq)];rw [if_neg heq] at hrun;simp only [List.append_nil] at hrun
   repeat (first|refine Yea ?_|refine Yen ?_|refine Yae ?_|refine Yad ?_|refine Yah ?_|refine Ya9 ?_|refine Yaj ?_|refine Yab ?_|refine Yb4 ?_|refine Yba ?_|refine Ybb ?_|refine Zo2 rfl ?_|refine Ybo ?_|(refine Zae ?_;first|refine Yay ?_|refine Yb7 ?_))
   rw [hrun];refine ⟨xb,ra,rc,L,X2,rfl,hX12,hT1,⟨fun x hx => hX2 _ (hB1.inn x hx),hB1.cap⟩,by rw [← hil]; exact hrc,?_⟩
   rw [← hil,← hm];exact hS.took
  rw [decide_eq_false (show ¬ ¬ dg = d from fun h => h heq)];rw [if_pos heq] at hrun;repeat (first|refine Yaa ?_|refine Yaf ?_|refine Yau ?_|refine Yan ?_|refine Yem ?_|refine Yab ?_|(refine Zae ?_;first|refine Yay ?_|refine Yb7 ?_))
  have hS : St W F [pts xb (.cells (endX i m [.pointer (some ⟨tb,0,none⟩),.slice ra i rc]).toArray 157 (0,0)),own 35 1 ra rc (L.map Bs.val),chR c f b T (Nt (trV vs)) X2] _ := hS.took
  obtain ⟨_,hcc,hr1,hw,hbk⟩ := hS.call [true]
  refine Zaa _ rfl rfl rfl rfl rfl (Z1q xb i m _ _ a q s rd fs _ _ hm32 (by omega) (hD.mono hw) (hrow.ro (hr1 (chR c f b T (Nt (trV vs)) X2) (by simp)).ch) (by omega) hcc) ?_
  rintro _ w ⟨rfl,hS⟩
  replace hS := hbk hS
  clear hbk hw hcc hr1;rw [hdg] at hS ⊢;repeat (first|refine Yea ?_|(refine X_id ?_;first|refine Yaf ?_|refine Yau ?_|refine Yan ?_|refine Yap ?_|refine Ybn (fun _ _ hS _ => ?_))|refine Yad ?_|refine Yab ?_)
  have hnw := (hS.rd (List.mem_cons_self ..)).own_row
  refine Zar rfl rfl rfl rfl rfl hS (by rw [List.length_map,hL1,Nat.mul_one]) hrc hnw rfl (by simp [Value.oneCell']) (by omega) (by simp only [maxLen]; omega) (fun b' q' w hS hq' _ => ?_)
  repeat (first|refine Yea ?_|refine Yau ?_|refine Yan ?_|refine Yao (fun _ hS _ => ?_)|refine Yaw ?_)
  have hS : St W F [chR c f b T (Nt (trV vs)) X2,pts xb (.cells (endX (i + 1) dg [.pointer (some ⟨tb,0,none⟩),.slice b' (i + 1) q']).toArray 157 (0,0)),own 35 1 b' q' (L.map Bs.val ++ [.slice a s.length q])] _ := hS.took
  obtain ⟨X3,hX3,hin,hS⟩ := hS.chRX hrow
  have hl1 : (l ++ [s]).length = i + 1 := by rw [List.length_append,← hil]; rfl
  have hnx : Zaq rd fs (l ++ [s]) (i + 1) = dg := by
   show digest rd fs [Zaq rd fs (l ++ [s]) i,be8 (i : Nat),(l ++ [s]).getD i []] = dg
   rw [Ze6 rd fs l [s] (by omega),← hm,← hdg,hil]
   simp
  refine Zaf (z := (l,ra,rc,L,X1)) (l ++ [s],b',q',L ++ [⟨a,q,s⟩],X3) ⟨rfl,rfl,trivial⟩ ⟨by dsimp only; omega,fun y hy => hX3 y (hX12 y hy),?_,hB1.snoc (fun y hy => hX3 y (hX2 y hy)) hin hq,by dsimp only; omega,?_,?_⟩ (by dsimp only; omega)
  ·dsimp only
   rw [← hT1]; simp [Zax]
  ·dsimp only
   rw [hl1,hnx,hrun,heq];simp
  ·dsimp only
   rw [hl1,hnx,List.map_append,show List.map Bs.val [(⟨a,q,s⟩ : Bs)] = [Value.slice a s.length q] from rfl]
   exact hS.took
end
section
variable {c f tp : Nat} {b : Int} {T : Int → Option Nd} {X : List RowD}
theorem Zsd (rd fs : List Int) (vs : List Mv) (hvs : ValsOk vs) (tb : Nat) (W : World) (F : Nat → Prop) (hT : TreeRo W F f tp 10 b T) (hG : Lg W F) (hD : Gl W F rd fs) (htb : Ro W F (pts tb (tbC c logN))) (hS : St W F [chR c f b T (Nt (trV vs)) X] W) :
  Calls Tryz.prog 59 #[.pointer (some ⟨tb,0,none⟩)] W (Ret fun v w => ((runV rd fs vs).2 = false ∧ ∃ X',v = .tuple #[.pointer none,.int .i64 5] ∧ St W F [chR c f b T (Nt (trV vs)) X'] w) ∨ ((runV rd fs vs).2 = true ∧ ∃ (x : Nat) (ra : Option Addr) (rc : Nat) (L : List Bs) (X' : List RowD),v = .tuple #[.pointer (some ⟨x,0,none⟩),.int .i64 0] ∧ Zax L = (runV rd fs vs).1 ∧ BsIn L X' ∧ (runV rd fs vs).1.length ≤ rc ∧
   St W F [pts x (chnC (runV rd fs vs).1.length (Zaq rd fs (runV rd fs vs).1 (runV rd fs vs).1.length) tb ra rc),own 35 1 ra rc (L.map Bs.val),chR c f b T (Nt (trV vs)) X'] w)) := by
 have ht := hvs.tree
 have hrd := fun X => Zxr (X := X) (c := c) (f := f) (tp := tp) (b := b) (T := T) rd fs vs hvs tb
 generalize runV rd fs vs = R at hrd ⊢;obtain ⟨es,ok⟩ := R
 simp only at hrd ⊢
 refine Zab Tryz.func59 rfl Tryz.ntmps59 rfl ?_
 repeat (first|refine Yea ?_|refine Yen ?_|refine Yeb ?_|refine Yab ?_)
 obtain ⟨_,hcc,_,hw,hbk⟩ := hS.call [true]
 refine Zaa _ rfl rfl rfl rfl rfl (Z06 ht tb logN _ _ (hT.mono hw) (hG.mono hw) (hw _ htb) hcc) ?_
 rintro _ w ⟨X1,a,q,hX1,rfl,_,hS⟩
 replace hS := hbk hS
 clear hbk hw hcc;rw [Zpx];repeat (first|refine Yea ?_|refine Yff ?_|refine Yem ?_|refine Yab ?_)
 obtain ⟨_,hcc,_,hw,hbk⟩ := hS.call [false,true]
 refine Zaa _ rfl rfl rfl rfl rfl (hrd _ _ _ (hT.mono hw) (hG.mono hw) (hD.mono hw) (hw _ htb) hcc) ?_
 rintro _ w ⟨x,ra,rc,L,X2,rfl,hX2,hT2,hB2,hrc,hS⟩
 replace hS := hbk hS
 clear hbk hw hcc hrd;rcases Bool.eq_false_or_eq_true ok with hk | hk
 ·rw [hk]
  repeat (first|refine Yea ?_|refine Yaf ?_|refine Yag ?_|refine Yat ?_|refine Ybd ?_|refine Yfa ?_|refine Yex ?_)
  exact .inr ⟨rfl,x,ra,rc,L,X2,rfl,hT2,hB2,hrc,hS.took⟩
 ·rw [hk]
  repeat (first|refine Yea ?_|refine Yaf ?_|refine Yag ?_|refine Yat ?_|refine Ybq ?_|refine Yek ?_|refine Yew ?_)
  exact .inl ⟨rfl,X2,rfl,hS.took⟩
theorem Zt7 (rd fs : List Int) (vs : List Mv) (hvs : ValsOk vs) (tb : Nat) (W : World) (F : Nat → Prop) (hT : TreeRo W F f tp 10 b T) (hG : Lg W F) (hD : Gl W F rd fs) (htb : Ro W F (pts tb (tbC c logN))) (hS : St W F [chR c f b T (Nt (trV vs)) X] W) :
  Calls Tryz.prog 31 #[.pointer (some ⟨tb,0,none⟩)] W (Ret fun v w => ∃ X',v = .tuple #[.int .i64 ((runV rd fs vs).1.length : Nat),.bool (runV rd fs vs).2] ∧ St W F [chR c f b T (Nt (trV vs)) X'] w) := by
 have ht := hvs.tree
 refine Zab Tryz.func31 rfl Tryz.ntmps31 rfl ?_
 repeat (first|refine Yea ?_|refine Yen ?_|refine Yeb ?_|refine Yab ?_)
 obtain ⟨_,hcc,_,hw,hbk⟩ := hS.call [true]
 refine Zaa _ rfl rfl rfl rfl rfl (Z06 ht tb logN _ _ (hT.mono hw) (hG.mono hw) (hw _ htb) hcc) ?_
 rintro _ w ⟨X1,a,q,hX1,rfl,_,hS⟩
 replace hS := hbk hS
 clear hbk hw hcc;rw [Zpx];repeat (first|refine Yea ?_|refine Yff ?_|refine Yem ?_|refine Yab ?_)
 obtain ⟨_,hcc,_,hw,hbk⟩ := hS.call [false,true]
 refine Zaa _ rfl rfl rfl rfl rfl (Zxr rd fs vs hvs tb _ _ (hT.mono hw) (hG.mono hw) (hD.mono hw) (hw _ htb) hcc) ?_
 rintro _ w ⟨x,ra,rc,L,X2,rfl,hX2,hT2,hB2,hrc,hS⟩
 replace hS := hbk hS
 clear hbk hw hcc;repeat (first|refine Yea ?_|(refine X_id ?_;first|refine Yaf ?_|refine Yag ?_|refine Yau ?_|refine Yan ?_|refine Yat ?_|refine Yap ?_)|refine Ye1 ?_|refine Yex ?_)
 exact ⟨X2,rfl,hS.took⟩
def errL (l : List (List UInt8)) : Int := match Zet l with
 | some _ => 0
 | none => 3
def errV (rd fs : List Int) (vs : List Mv) : Int := if (runV rd fs vs).2 = true then errL (runV rd fs vs).1 else 5
theorem Z7k (rd fs : List Int) (vs : List Mv) (hvs : ValsOk vs) (W : World) (F : Nat → Prop) (hT : TreeRo W F f tp 10 b T) (hG : Lg W F) (hD : Gl W F rd fs) (hSp : Sp W F) (hS : St W F [chR c f b T (Nt (trV vs)) X] W) :
  Calls Tryz.prog 18 #[.pointer (some ⟨c,0,none⟩)] W (Ret fun v w => ∃ u X',v = .tuple #[u,.int .i64 (errV rd fs vs)] ∧ St W F [chR c f b T (Nt (trV vs)) X'] w) := by
 have h7 := hvs.1
 have hsh : ∀ s ∈ (runV rd fs vs).1,s.length ≤ 400 := Zil rd fs vs 0 (Zb3 rd fs Zcw)
 have hle : (runV rd fs vs).1.length ≤ vs.length := (Zjq rd fs vs 0 (Zb3 rd fs Zcw)).1
 have hop := fun X => Zsd (X := X) (c := c) (f := f) (tp := tp) (b := b) (T := T) rd fs vs hvs
 unfold errV
 generalize runV rd fs vs = R at hop hsh hle ⊢;obtain ⟨es,ok⟩ := R
 simp only at hop hsh hle ⊢
 refine Zab Tryz.func18 rfl Tryz.ntmps18 rfl ?_
 repeat (first|refine Yea ?_|refine Yen ?_|refine Yeb ?_|refine Yab ?_)
 refine Zaa _ rfl rfl rfl rfl rfl (tof_ c logN Zn2 _) ?_
 rintro _ w ⟨tb,rfl,hS'⟩
 replace hS := hS.plus hS';clear hS';have hS : St W F [pts tb (tbC c logN),chR c f b T (Nt (trV vs)) X] w := hS.took
 repeat (first|refine Yea ?_|refine Yff ?_|refine Yem ?_|refine Yab ?_)
 obtain ⟨_,hcc,hr1,hw,hbk⟩ := hS.call [false,true]
 refine Zaa _ rfl rfl rfl rfl rfl (hop _ tb _ _ (hT.mono hw) (hG.mono hw) (hD.mono hw) (hr1 (pts tb (tbC c logN)) (by simp)) hcc) ?_
 rintro _ w0 (⟨hk,X0,rfl,hS⟩ | ⟨hk,x,ra,rc,L,X0,rfl,hTL,hBL,hrc,hS⟩)
 ·replace hS := hbk hS
  clear hbk hw hcc hr1;rw [hk,if_neg (by decide)];repeat (first|refine Yea ?_|refine Yfg ?_|refine Yek ?_|refine Yew ?_)
  exact ⟨_,X0,rfl,hS.took⟩
 replace hS := hbk hS
 clear hbk hw hcc hr1 hop;rw [hk,if_pos rfl];have hLl : L.length = es.length := by rw [← hTL]; simp [Zax]
 have hL4 : ∀ y ∈ L,y.s.length ≤ 400 := fun y hy => hsh y.s (by rw [← hTL]; exact List.mem_map_of_mem hy)
 have hm : (Zaq rd fs es es.length).length = 32 := Zbo _ _ _ _
 have hcl := fun W' h1 h2 => Zxv x (Zaq rd fs es es.length) hm tb ra rc L W' (by omega) (fun y hy => by have := hL4 y hy; omega) h1 h2
 rw [hLl] at hcl;repeat (first|refine Yea ?_|refine Yff ?_|refine Yem ?_|refine Yab ?_)
 refine Zaa _ rfl rfl rfl rfl rfl (hcl _ (hS.rd (r := pts x (chnC es.length (Zaq rd fs es es.length) tb ra rc)) (by simp)).ro ((hBL.bss (hS.rd (r := own 35 1 ra rc (L.map Bs.val)) (by simp)).ro (hS.rd (r := chR c f b T (Nt (trV vs)) X0) (by simp)).ro.ch))) ?_
 rintro _ w ⟨a1,q1,M1,Y1,rfl,hTM,hBM,hq1,hS'⟩
 replace hS := hS.plus hS';clear hS' hcl;have hMl : M1.length = es.length := by rw [← hTL,← hTM]; simp [Zax]
 have hM4 : ∀ y ∈ M1,y.s.length ≤ 400 := fun y hy => hsh y.s (by rw [← hTL,← hTM]; exact List.mem_map_of_mem hy)
 have hrd := fun W' h0 h1 h2 => Zx3 a1 q1 M1 W' h0 h1 h2 hBM.cap (fun y hy => by have := hM4 y hy; omega) (by omega)
 rw [hMl,hTM,hTL] at hrd;unfold errL
 generalize Zet es = res at hrd ⊢;repeat (first|refine Yaa ?_)
 refine Zaa _ rfl rfl rfl rfl rfl (hrd _ (hG.at_ hS) (hSp.at_ hS) (hBM.bss (hS.rd (r := own 35 1 a1 q1 (M1.map Bs.val)) (by simp)).ro (hS.rd (r := bag Y1) (by simp)).ro)) ?_
 rintro v w hV
 cases res with
 | none =>
  obtain ⟨rfl,hS'⟩ := hV
  replace hS := hS.plus hS';clear hS' hrd;repeat (first|refine Yea ?_|refine Yfg ?_|refine Yek ?_|refine Yew ?_)
  exact ⟨_,X0,rfl,hS.took⟩
 | some A =>
  obtain ⟨la,lc,rfl,hlc,hS'⟩ := hV
  replace hS := hS.plus hS';clear hS' hrd;repeat (first|refine Yea ?_|(refine X_id ?_;first|refine Yaf ?_|refine Yag ?_|refine Yat ?_|refine Ya4 ?_|refine Ybl ?_|refine Ya5 (fun _ _ hS _ => ?_))|refine Yfa ?_|refine Yex ?_)
  exact ⟨_,X0,rfl,hS.took⟩
theorem Zx1 (rd fs : List Int) (vs : List Mv) (hvs : ValsOk vs) (W : World) (F : Nat → Prop) (hT : TreeRo W F f tp 10 b T) (hG : Lg W F) (hD : Gl W F rd fs) (hSp : Sp W F) (hS : St W F [chR c f b T (Nt (trV vs)) X] W) :
  Calls Tryz.prog 32 #[.pointer (some ⟨c,0,none⟩)] W (Ret fun v w => ∃ X',v = .tuple #[.int .i64 ((runV rd fs vs).1.length : Nat),.int .i64 (errV rd fs vs)] ∧ St W F [chR c f b T (Nt (trV vs)) X'] w) := by
 have h7 := hvs.1
 have hsh : ∀ s ∈ (runV rd fs vs).1,s.length ≤ 400 := Zil rd fs vs 0 (Zb3 rd fs Zcw)
 have hle : (runV rd fs vs).1.length ≤ vs.length := (Zjq rd fs vs 0 (Zb3 rd fs Zcw)).1
 have hop := fun X => Zsd (X := X) (c := c) (f := f) (tp := tp) (b := b) (T := T) rd fs vs hvs
 have hwh := fun X => Zt7 (X := X) (c := c) (f := f) (tp := tp) (b := b) (T := T) rd fs vs hvs
 unfold errV
 generalize runV rd fs vs = R at hop hwh hsh hle ⊢;obtain ⟨es,ok⟩ := R
 simp only at hop hwh hsh hle ⊢
 refine Zab Tryz.func32 rfl Tryz.ntmps32 rfl ?_
 repeat (first|refine Yea ?_|refine Yen ?_|refine Yeb ?_|refine Yab ?_)
 refine Zaa _ rfl rfl rfl rfl rfl (tof_ c logN Zn2 _) ?_
 rintro _ w ⟨tb,rfl,hS'⟩
 replace hS := hS.plus hS';clear hS';have hS : St W F [pts tb (tbC c logN),chR c f b T (Nt (trV vs)) X] w := hS.took
 repeat (first|refine Yea ?_|refine Yff ?_|refine Yem ?_|refine Yab ?_)
 obtain ⟨_,hcc,hr1,hw,hbk⟩ := hS.call [false,true]
 refine Zaa _ rfl rfl rfl rfl rfl (hwh _ tb _ _ (hT.mono hw) (hG.mono hw) (hD.mono hw) (hr1 (pts tb (tbC c logN)) (by simp)) hcc) ?_
 rintro _ w ⟨X1,rfl,hS⟩
 replace hS := hbk hS
 clear hbk hw hcc hr1 hwh;rcases Bool.eq_false_or_eq_true ok with hk | hk
 case inr =>
  rw [hk,if_neg (by decide)];repeat (first|refine Yea ?_|refine Yaf ?_|refine Yag ?_|refine Yat ?_|refine Ybq ?_|refine Yek ?_|refine Yew ?_)
  exact ⟨X1,rfl,hS.took⟩
 rw [hk,if_pos rfl];repeat (first|refine Yea ?_|refine Yaf ?_|refine Yag ?_|refine Yat ?_|refine Ybd ?_|refine Yem ?_|refine Yab ?_)
 have hS : St W F [pts tb (tbC c logN),chR c f b T (Nt (trV vs)) X1] w := hS.took
 obtain ⟨_,hcc,hr1,hw,hbk⟩ := hS.call [false,true]
 refine Zaa _ rfl rfl rfl rfl rfl (hop _ tb _ _ (hT.mono hw) (hG.mono hw) (hD.mono hw) (hr1 (pts tb (tbC c logN)) (by simp)) hcc) ?_
 rintro _ w0 (⟨hk2,_⟩ | ⟨_,x,ra,rc,L,X0,rfl,hTL,hBL,hrc,hS⟩)
 ·rw [hk] at hk2; cases hk2
 replace hS := hbk hS
 clear hbk hw hcc hr1 hop;have hLl : L.length = es.length := by rw [← hTL]; simp [Zax]
 have hL4 : ∀ y ∈ L,y.s.length ≤ 400 := fun y hy => hsh y.s (by rw [← hTL]; exact List.mem_map_of_mem hy)
 have hm : (Zaq rd fs es es.length).length = 32 := Zbo _ _ _ _
 have hcl := fun W' h1 h2 => Zxv x (Zaq rd fs es es.length) hm tb ra rc L W' (by omega) (fun y hy => by have := hL4 y hy; omega) h1 h2
 rw [hLl] at hcl;repeat (first|refine Yea ?_|refine Yff ?_|refine Yem ?_|refine Yab ?_)
 refine Zaa _ rfl rfl rfl rfl rfl (hcl _ (hS.rd (r := pts x (chnC es.length (Zaq rd fs es es.length) tb ra rc)) (by simp)).ro ((hBL.bss (hS.rd (r := own 35 1 ra rc (L.map Bs.val)) (by simp)).ro (hS.rd (r := chR c f b T (Nt (trV vs)) X0) (by simp)).ro.ch))) ?_
 rintro _ w ⟨a1,q1,M1,Y1,rfl,hTM,hBM,hq1,hS'⟩
 replace hS := hS.plus hS';clear hS' hcl;have hMl : M1.length = es.length := by rw [← hTL,← hTM]; simp [Zax]
 have hM4 : ∀ y ∈ M1,y.s.length ≤ 400 := fun y hy => hsh y.s (by rw [← hTL,← hTM]; exact List.mem_map_of_mem hy)
 have hrd := fun W' h0 h1 h2 => Zx3 a1 q1 M1 W' h0 h1 h2 hBM.cap (fun y hy => by have := hM4 y hy; omega) (by omega)
 rw [hMl,hTM,hTL] at hrd;unfold errL
 generalize Zet es = res at hrd ⊢;repeat (first|refine Yaa ?_)
 refine Zaa _ rfl rfl rfl rfl rfl (hrd _ (hG.at_ hS) (hSp.at_ hS) (hBM.bss (hS.rd (r := own 35 1 a1 q1 (M1.map Bs.val)) (by simp)).ro (hS.rd (r := bag Y1) (by simp)).ro)) ?_
 rintro v w hV
 cases res with
 | none =>
  obtain ⟨rfl,hS'⟩ := hV
  replace hS := hS.plus hS';clear hS' hrd;repeat (first|refine Yea ?_|refine Yeo ?_|refine Ye1 ?_|refine Yex ?_)
  exact ⟨X0,rfl,hS.took⟩
 | some A =>
  obtain ⟨la,lc,rfl,hlc,hS'⟩ := hV
  replace hS := hS.plus hS';clear hS' hrd;repeat (first|refine Yea ?_|refine Yeo ?_|refine Ye1 ?_|refine Yex ?_)
  exact ⟨X0,rfl,hS.took⟩
theorem Z55 (rd fs : List Int) (W : World) (F : Nat → Prop) (hT : TreeRo W F f tp 10 b T) (hG : Lg W F) (hD : Gl W F rd fs) (hS : St W F [chR c f b T (Nt (trV (Zbc rd fs []))) X] W) :
  Calls Tryz.prog 18 #[.pointer (some ⟨c,0,none⟩)] W (Ret fun v w => ∃ (ax x tb : Nat) (z : AuZ),v = .tuple #[.pointer (some ⟨ax,0,none⟩),.int .i64 0] ∧ z.A = [] ∧ z.Ok ∧ St W F (pts tb (tbC c logN) :: z.res rd fs ax x tb c f b T) w) := by
 refine Zab Tryz.func18 rfl Tryz.ntmps18 rfl ?_
 repeat (first|refine Yea ?_|refine Yen ?_|refine Yeb ?_|refine Yab ?_)
 refine Zaa _ rfl rfl rfl rfl rfl (tof_ c logN Zn2 _) ?_
 rintro _ w ⟨tb,rfl,hS'⟩
 replace hS := hS.plus hS';clear hS';have hS : St W F [pts tb (tbC c logN),chR c f b T (Nt (trV (Zbc rd fs []))) X] w := hS.took
 repeat (first|refine Yea ?_|refine Yff ?_|refine Yem ?_|refine Yab ?_)
 obtain ⟨_,hcc,hr1,hw,hbk⟩ := hS.call [false,true]
 refine Zaa _ rfl rfl rfl rfl rfl (Zsd rd fs [] ⟨Nat.zero_le _,fun _ h => (List.not_mem_nil h).elim⟩ tb _ _ (hT.mono hw) (hG.mono hw) (hD.mono hw) (hr1 (pts tb (tbC c logN)) (by simp)) hcc) ?_
 rintro _ w0 (⟨hk,_⟩ | ⟨_,x,ra,rc,L,X0,rfl,hTL,hBL,hrc,hS⟩)
 ·cases hk
 replace hS := hbk hS
 clear hbk hw hcc hr1;have hTL : Zax L = [] := hTL
 have hS : St W F [pts x (chnC 0 (Zaq rd fs [] 0) tb ra rc),own 35 1 ra rc (L.map Bs.val),chR c f b T (Nt (trV (Zbc rd fs []))) X0,pts tb (tbC c logN)] w0 := hS
 obtain rfl : L = [] := by
  have := congrArg List.length hTL
  exact List.eq_nil_of_length_eq_zero (by simpa [Zax] using this)
 have hm : (Zaq rd fs [] 0).length = 32 := Zbo _ _ _ _
 repeat (first|refine Yea ?_|refine Yff ?_|refine Yem ?_|refine Yab ?_)
 refine Zaa _ rfl rfl rfl rfl rfl (Zxv x (Zaq rd fs [] 0) hm tb ra rc [] _ (by simp) (by simp) (hS.rd (r := pts x (chnC 0 (Zaq rd fs [] 0) tb ra rc)) (by simp)).ro ((hBL.bss (hS.rd (r := own 35 1 ra rc (List.map Bs.val [])) (by simp)).ro (hS.rd (r := chR c f b T (Nt (trV (Zbc rd fs []))) X0) (by simp)).ro.ch))) ?_
 rintro _ w ⟨a1,q1,M1,Y1,rfl,_,_,_,hS'⟩
 replace hS := hS.plus hS';clear hS';repeat (first|refine Yaa ?_)
 refine Zaa _ rfl rfl rfl rfl rfl (Z3q a1 q1 _) ?_
 rintro _ w ⟨rfl,hS'⟩
 replace hS := hS.plus hS';clear hS';repeat (first|refine Yea ?_|(refine X_id ?_;first|refine Yaf ?_|refine Yag ?_|refine Yat ?_|refine Ya4 ?_|refine Ybl ?_|refine Ya5 (fun _ _ hS _ => ?_))|refine Yfa ?_|refine Yex ?_)
 rename_i ax _ _;refine ⟨ax,x,tb,⟨[],none,0,ra,rc,[],X0⟩,rfl,rfl,⟨rfl,hBL,by simp,by simp,Nat.zero_le _,Nat.le_refl _⟩,?_⟩
 have hS := hS.own_none 62 5 none
 have hS : St W F [pts tb (tbC c logN),pts ax (audC x none 0 0),own 62 5 none 0 [],pts x (chnC 0 (Zaq rd fs [] 0) tb ra rc),own 35 1 ra rc (List.map Bs.val []),chR c f b T (Nt (trV (Zbc rd fs []))) X0] _ := hS.took
 exact hS
end
end Cr
namespace Cr
open Go
set_option maxHeartbeats 64000000

mutual
def eqM : Mv → Mv → Bool
 | .mk k n b l,.mk k' n' b' l' => decide (k = k') && (decide (n = n') && (decide (b = b') && eqMs l l'))
def eqMs : List Mv → List Mv → Bool
 | [],[] => true
 | x :: l,y :: m => eqM x y && eqMs l m
 | [],_ :: _ => false
 | _ :: _,[] => false
end
theorem Zt3 : ∀ {l m : List Mv},l.length ≠ m.length → eqMs l m = false
 | [],[],h => absurd rfl h
 | [],y :: m,_ => by rw [eqMs]
 | x :: l,[],_ => by rw [eqMs]
 | x :: l,y :: m,h => by
  rw [eqMs,Zt3 (by simpa using h),Bool.and_false]
end Cr
namespace Cr
open Go Go.Proofs
set_option maxRecDepth 100000
set_option maxHeartbeats 64000000
attribute [local irreducible] Calls

def Z1y (m : Nat) : Prop := ∀ (v u : Mv) (cs ds : List Value) (W : World) (F : Nat → Prop),wM v ≤ m → Mrd (RoR W F) v cs → Mrd (RoR W F) u ds →
  Calls Tryz.prog 16 #[.agg (List.toArray cs),.agg (List.toArray ds)] W (Ret fun r w => r = .bool (eqM v u) ∧ St W noF [] w)
theorem eqf_ (m : Nat) (hm : m ≤ 1048576) (ih : Z1y m) (l l' : List Mv) (a a' : Option Addr) (c c' : Nat) (rows rows' : List (List Value)) (W : World) (hw : wMs l ≤ m) (hr : Ro W noF (row a rows.flatten)) (hM : Mrds (RoR W noF) l rows) (hr' : Ro W noF (row a' rows'.flatten)) (hM' : Mrds (RoR W noF) l' rows') :
  Calls Tryz.prog 58 #[.slice a l.length c,.slice a' l'.length c',.func (.func 16) #[] #[]] W (Ret fun r w => r = .bool (eqMs l l') ∧ St W noF [] w) := by
 have hS := St.start W
 have hwl := Zih l
 by_cases hlen : l.length = l'.length
 case neg =>
  rw [Zt3 hlen];refine Zab Tryz.func58 rfl Tryz.ntmps58 rfl ?_
  repeat (first|refine Yea ?_|refine Yaf ?_|refine Yag ?_|refine Yav ?_|refine Ybj ?_|refine Yek ?_|refine Yel ?_)
  exact ⟨rfl,hS.drops⟩
 rw [← hlen];refine Zab Tryz.func58 rfl Tryz.ntmps58 rfl ?_
 repeat (first|refine Yea ?_|refine Yaf ?_|refine Yag ?_|refine Yav ?_|refine Ya4 ?_|refine Ye4 ?_|refine Yab ?_)
 refine Zal (α := Nat) (fun i => [(1,.slice a' l.length c'),(2,.func (.func 16) #[] #[]),(15,.slice a l.length c),(16,.int .i64 (l.length : Nat)),(17,.int .i64 (i : Nat))])
  (fun i w => i ≤ l.length ∧ eqMs l l' = eqMs (l.drop i) (l'.drop i) ∧ St W noF [] w) (fun i => l.length - i) 0 ⟨rfl,rfl,rfl,rfl,rfl,trivial⟩ ⟨Nat.zero_le _,rfl,hS⟩ ?_
 clear hS;rintro i w ⟨hi,he,hS2⟩
 by_cases hlt : i < l.length
 ·have hlt' : i < l'.length := by omega
  obtain ⟨y,hyx⟩ : ∃ y,y = l[i] := ⟨_,rfl⟩
  have hy0 : l[i]? = some y := by rw [hyx]; exact List.getElem?_eq_getElem hlt
  obtain ⟨z,hzx⟩ : ∃ z,z = l'[i] := ⟨_,rfl⟩
  have hz0 : l'[i]? = some z := by rw [hzx]; exact List.getElem?_eq_getElem hlt'
  have hyw := Zig (List.mem_of_getElem? hy0)
  have hd1 : l.drop i = y :: l.drop (i + 1) := by rw [List.drop_eq_getElem_cons hlt,← hyx]
  have hd2 : l'.drop i = z :: l'.drop (i + 1) := by rw [List.drop_eq_getElem_cons hlt',← hzx]
  rw [hd1,hd2,eqMs] at he;obtain ⟨cs,hxs,hy⟩ := hM.at_ hy0
  obtain ⟨d1,e1,d2,e2,rows2,rfl,_⟩ := hy.lit
  obtain ⟨ds,hzs,hz⟩ := hM'.at_ hz0
  obtain ⟨f1,g1,f2,g2,rows3,rfl,_⟩ := hz.lit
  obtain ⟨ab,ao,rfl⟩ := hr.start.base (by
   intro e
   rw [e] at hxs;simp at hxs)
  obtain ⟨bb,bo,rfl⟩ := hr'.start.base (by
   intro e
   rw [e] at hzs;simp at hzs)
  have hS := hS2
  repeat (first|refine Yea ?_|refine Yfr ?_|refine Yao (fun _ hS _ => ?_)|refine Yar (fun _ _ hS _ => ?_)|refine Yee ?_|refine Yab ?_)
  refine X_yl (Za3 rfl rfl ((hr'.rd hS).cellsX (by omega) hzs rfl)) rfl rfl ?_
  repeat (first|refine Yea ?_|refine Yaf ?_|refine Ybg ?_|refine Yao (fun _ hS _ => ?_)|refine Yar (fun _ _ hS _ => ?_)|refine Yeb ?_|refine Yab ?_)
  refine Zaa _ rfl rfl rfl rfl rfl (ih y z _ _ _ noF (by omega) (hy.mono fun _ _ h => (h.rd hS).ro) (hz.mono fun _ _ h => (h.rd hS).ro)) ?_
  rintro _ w ⟨rfl,hS'⟩
  replace hS := hS.plus hS';clear hS';cases hyz : eqM y z with
  | false =>
   rw [hyz,Bool.false_and] at he;repeat (first|refine Yea ?_|refine Yag ?_|refine Ybq ?_|refine Yek ?_|refine Yey ?_)
   rw [he];exact ⟨rfl,hS.drops⟩
  | true =>
   rw [hyz,Bool.true_and] at he;repeat (first|refine Yea ?_|refine Yaf ?_|refine Ybd ?_|refine Ya0 ?_|refine Yet ?_|refine Yei ?_)
   exact Zaf (i + 1) ⟨rfl,rfl,rfl,rfl,rfl,trivial⟩ ⟨hlt,he,hS.drops⟩ (by omega)
 ·obtain rfl : i = l.length := by omega
  have hS := hS2
  rw [List.drop_length,hlen,List.drop_length,eqMs] at he;rw [he];repeat (first|refine Yea ?_|refine Yag ?_|refine Ya6 ?_|refine Yej ?_|refine Yfe ?_)
  exact ⟨rfl,hS.drops⟩
theorem Zzf : ∀ m : Nat,m ≤ 1048576 → Z1y m := by
 intro m
 induction m with
 | zero =>
  intro _ v u cs ds W F hw
  obtain ⟨k,n,b,l⟩ := v
  rw [Zfs] at hw; omega
 | succ m ih =>
  intro hm v u cs ds W F hw hv hu
  have hS := St.start W
  obtain ⟨k,n,b,l⟩ := v
  obtain ⟨k',n',b',l'⟩ := u
  rw [Zfs] at hw;obtain ⟨a1,c1,a2,c2,rows,rfl,hc1,hb,hr,hM⟩ := hv.lit
  obtain ⟨d1,e1,d2,e2,rows',rfl,he1,hb',hr',hM'⟩ := hu.lit
  simp only [Mv.kind,Mv.num,Mv.txt,Mv.lst] at *
  have hE := fun W h1 h2 h3 h4 => eqf_ m (by omega) (ih (by omega)) l l' a2 d2 c2 e2 rows rows' W (by omega) h1 h2 h3 h4
  have hq := fun W h1 h2 => Zx0 a1 d1 b.length b'.length c1 e1 b b' W h1 h2 rfl rfl
  replace hb : Ro W noF (bytes a1 b) := hb.start.ro
  replace hr : Ro W noF (row a2 rows.flatten) := hr.start.ro
  replace hM : Mrds (RoR W noF) l rows := hM.mono fun _ _ h => h.start.ro
  replace hb' : Ro W noF (bytes d1 b') := hb'.start.ro
  replace hr' : Ro W noF (row d2 rows'.flatten) := hr'.start.ro
  replace hM' : Mrds (RoR W noF) l' rows' := hM'.mono fun _ _ h => h.start.ro
  rw [eqM];by_cases hk : k = k'
  case neg =>
   rw [decide_eq_false hk,Bool.false_and];refine Zab Tryz.func16 rfl Tryz.ntmps16 rfl ?_
   repeat (first|refine Yep ?_|(refine X_id ?_;first|refine Yaf ?_|refine Yag ?_|refine Yan ?_|refine Ya1 ?_|refine Ybh ?_|refine Yap ?_|refine Ya5 (fun _ _ hS _ => ?_))|refine Ye1 ?_|refine Yec ?_)
   exact ⟨rfl,hS.drops⟩
  subst hk
  by_cases hn : n = n'
  case neg =>
   rw [decide_eq_false hn,Bool.false_and,Bool.and_false];refine Zab Tryz.func16 rfl Tryz.ntmps16 rfl ?_
   repeat (first|refine Yeu ?_|(refine X_id ?_;first|refine Yaf ?_|refine Yag ?_|refine Yan ?_|refine Ya8 ?_|refine Ya1 ?_|refine Ybi ?_|refine Ybh ?_|refine Yap ?_|refine Ya5 (fun _ _ hS _ => ?_))|refine Ye1 ?_|refine Yec ?_)
   exact ⟨rfl,hS.drops⟩
  subst hn
  by_cases hbb : b = b'
  case neg =>
   rw [decide_eq_false hbb,Bool.false_and,Bool.and_false,Bool.and_false];simp only [decide_eq_false hbb] at hq
   refine Zab Tryz.func16 rfl Tryz.ntmps16 rfl ?_
   repeat (first|refine Yeu ?_|(refine X_id ?_;first|(refine Zaa 57 rfl rfl rfl rfl rfl (hq _ (hb.rd hS) (hb'.rd hS)) ?_;rintro _ _ ⟨rfl,rfl⟩)|refine Yaf ?_|refine Yag ?_|refine Yan ?_|refine Ya8 ?_|refine Ya1 ?_|refine Ybi ?_|refine Yap ?_|refine Ya5 (fun _ _ hS _ => ?_))|refine Ye1 ?_|refine Yec ?_)
   exact ⟨rfl,hS.drops⟩
  rw [decide_eq_true rfl,decide_eq_true rfl,decide_eq_true hbb,Bool.true_and,Bool.true_and,Bool.true_and];simp only [decide_eq_true hbb] at hq
  refine Zab Tryz.func16 rfl Tryz.ntmps16 rfl ?_
  repeat (first|refine Yer ?_|(refine X_id ?_;first|(refine Zaa 57 rfl rfl rfl rfl rfl (hq _ (hb.rd hS) (hb'.rd hS)) ?_;rintro _ _ ⟨rfl,rfl⟩)|refine Yaf ?_|refine Yag ?_|refine Yan ?_|refine Ya8 ?_|refine Ybi ?_|refine Yap ?_|refine Ya5 (fun _ _ hS _ => ?_))|refine Yeb ?_|refine Yab ?_)
  refine Zaa _ rfl rfl rfl rfl rfl (hE _ (hr.rd hS).ro (hM.mono fun _ _ h => (h.rd hS).ro) (hr'.rd hS).ro (hM'.mono fun _ _ h => (h.rd hS).ro)) ?_
  rintro _ w ⟨rfl,hS'⟩
  replace hS := hS.plus hS';clear hS';repeat (first|refine Yea ?_|refine Yag ?_|refine Ya8 ?_|refine Yah ?_|refine Yec ?_)
  exact ⟨rfl,hS.drops⟩
theorem Z4m (v u : Mv) (cs ds : List Value) (W : World) (F : Nat → Prop) (hw : wM v ≤ 1048576) (hv : Mrd (RoR W F) v cs) (hu : Mrd (RoR W F) u ds) :
  Calls Tryz.prog 16 #[.agg (List.toArray cs),.agg (List.toArray ds)] W (Ret fun r w => r = .bool (eqM v u) ∧ St W noF [] w) := Zzf _ (Nat.le_refl _) v u cs ds W F hw hv hu
end Cr
namespace Cr
open Go
set_option maxHeartbeats 64000000
theorem Zya {P : Program} {o : Oper} {σ : Env} {w : World} {x y : Operand} {ts : Array TypeId} {m n T : Nat} (ho : o.op = .call { callee := .builtin .min,args := #[x,y],argTypes := ts }) (hx : ev σ x = some (.int .i64 (m : Nat))) (hy : ev σ y = some (.int .i64 (n : Nat))) (hT : min m n = T) : Yl P o σ w (.int .i64 (T : Nat)) := ⟨fun N ds a ha => by
 simp [execOp,ho,resolve,invoke,builtin,ha.eval hx,ha.eval hy,Builtin.min_,Builtin.min2]
 rw [← hT]
 split <;> omega⟩
end Cr
namespace Cr
open Go Go.Proofs
set_option maxHeartbeats 64000000
end Cr
namespace Cr
open Go Go.Proofs
set_option maxRecDepth 100000
set_option maxHeartbeats 64000000
attribute [local irreducible] Calls

theorem Zxq (s : List UInt8) (W : World) : Calls Tryz.prog 64 #[.string (str s)] W (Ret fun v w => v = .string (str (s.take 40)) ∧ St W noF [] w) := by
 obtain ⟨T,hT⟩ : ∃ T,min s.length 40 = T := ⟨_,rfl⟩
 have hz := Zce s
 have hS := St.start W
 refine Zab Tryz.func64 rfl Tryz.ntmps64 rfl ?_
 repeat (first|refine Yea ?_|refine Yaf ?_|refine Yag ?_|refine Yb0 ?_|refine Yeb ?_|refine Yab ?_)
 refine X_yl (Zya (m := (str s).size) (n := 40) (T := T) rfl rfl rfl (by rw [hz]; exact hT)) rfl rfl ?_
 repeat (first|refine Yea ?_|refine Yag ?_|refine Ydl ?_|refine Yah ?_|refine Yec ?_)
 refine ⟨?_,hS⟩
 rw [List.drop_zero,Nat.sub_zero,Int.toNat_natCast,← hT]
 congr 2
 rw [Nat.min_comm,← List.take_eq_take_min]
def Rec.cut (r : Rec) : Rec := ⟨r.cmd.take 40,r.pub.take 40,r.pkg.take 40,r.rev,r.out⟩
theorem Z4b (r : Rec) (W : World) : Calls Tryz.prog 21 #[.agg r.cells.toArray] W (Ret fun v w => v = .agg r.cut.cells.toArray ∧ St W noF [] w) := by
 have hS := St.start W
 have C1 := fun W => Zxq r.cmd W
 have C2 := fun W => Zxq r.pub W
 have C3 := fun W => Zxq r.pkg W
 refine Zab Tryz.func21 rfl Tryz.ntmps21 rfl ?_
 repeat (first|refine Yea ?_|refine Ya5 (fun _ _ hS _ => ?_)|refine Yar (fun _ _ hS _ => ?_)|refine Yeb ?_|refine Yab ?_)
 refine Zam (.s 0 (.s 1 (.s 3 (.s 4 (.s 6 (.s 7 (.s 9 (.s 10 (.s 11 (.s 12 (.h 2 (.h 5 (.h 8 (.s 13 (.h 14 .nil .no)) .no) .no) .no))))))))))) mixed (by kernel_rfl) rfl ?_
 have hS := hS.drew
 repeat (first|(refine X_id ?_;first|(refine Zad 64 rfl rfl rfl rfl rfl hS (C1 _) ?_;rintro _ _ rfl hS)|(refine Zad 64 rfl rfl rfl rfl rfl hS (C2 _) ?_;rintro _ _ rfl hS)|(refine Zad 64 rfl rfl rfl rfl rfl hS (C3 _) ?_;rintro _ _ rfl hS)|refine Yao (fun _ hS _ => ?_))|refine Yah ?_|refine Yab ?_|refine Ybw ?_|(refine Zae ?_;first|refine Yay ?_|refine Ybe ?_|refine Yb8 ?_|refine Ybk ?_|refine Yas ?_)|(refine Zac ?_;first|refine Yaz ?_))
 exact ⟨rfl,hS.drops⟩
theorem Zv1 {m : Nat} (ih : ∀ v,chkM m v = 0 → wM v ≤ (encM v).length) : ∀ l : List Mv,(∀ x ∈ l,chkM m x = 0) → wMs l ≤ (Zaz l).length
 | [],_ => by rw [wMs]; exact Nat.zero_le _
 | x :: l,h => by
  have h1 := ih x (h x (List.mem_cons_self ..))
  have h2 := Zv1 ih l fun y hy => h y (List.mem_cons_of_mem _ hy)
  rw [wMs,Zaz,List.length_append]; omega
theorem Z03 : ∀ (m : Nat) (v : Mv),chkM m v = 0 → wM v ≤ (encM v).length
 | m,v,h => by
  rcases Za8 h with ⟨n,rfl⟩ | ⟨b,rfl⟩ | ⟨l,m',rfl,hm,hl⟩
  ·rw [Zfs,Zcq,wMs]; simp only [List.length_cons,List.length_append,List.length_nil]; omega
  ·rw [Zfs,Zbx,wMs]; simp only [List.length_cons,List.length_append]; omega
  ·subst hm
   have := Zv1 (fun v hv => Z03 m' v hv) l hl
   rw [Zfs,Zbl]; simp only [List.length_cons,List.length_append,List.length_nil]; omega
theorem Zv3 (rd fs : List Int) {l : List (List UInt8)} (h7 : l.length ≤ 7) (h4 : ∀ s ∈ l,s.length ≤ 400) : ValsOk (Zbc rd fs l) := ⟨by rw [Zbi]; exact h7,fun v hv => by
 obtain ⟨i,hi,rfl⟩ := List.mem_map.1 hv
 rw [List.mem_range] at hi;have hs : (l.getD i []).length ≤ 400 := by rw [List.getD_eq_getElem?_getD,List.getElem?_eq_getElem hi]; exact h4 _ (List.getElem_mem hi)
 have hm : (Zaq rd fs l (i + 1)).length = 32 := Zbo _ _ _ _
 exact ⟨Znw _ _,Zte (by omega) (by omega),Znv hs hm⟩⟩
theorem ValsOk.set {vs : List Mv} (h : ValsOk vs) (k : Nat) {v : Mv} (hc : chkM 8 v = 0) (hf : fitM v) (hl : (encM v).length ≤ 512) : ValsOk (vs.set k v) := ⟨by rw [List.length_set]; exact h.1,fun x hx => (List.mem_or_eq_of_mem_set hx).elim (h.2 x) fun e => by subst e; exact ⟨hc,hf,hl⟩⟩
theorem auditBent_ (a1 : Option Addr) (c1 : Nat) (l1 : List Rec) (at0 : Int) (ab : Option Addr) (s0 : List UInt8) (c0 : Nat) (hsc : s0.length ≤ c0) (rd fs : List Int) (W : World) (hG : Gl W noF rd fs) (hL : Lg W noF) (hSp : Sp W noF) (hl1 : Ro W noF (row a1 (Zdw l1))) (hbs : Ro W noF (bytes ab s0)) :
  Calls Tryz.prog 5 #[.slice a1 l1.length c1,.int .i64 at0,.slice ab s0.length c0] W (Ret fun v w => v = .bool true ∧ St W noF [] w) := by
 have hS := St.start W
 refine Zab Tryz.func5 rfl Tryz.ntmps5 rfl ?_
 repeat (first|refine Yea ?_|refine Yag ?_|refine Yeb ?_|refine Yab ?_)
 refine Zaa _ rfl rfl rfl rfl rfl (Z0j rd fs _ (hG.mono fun _ hr => (hr.rd hS).ro) (hL.at_ hS)) ?_
 rintro _ wb ⟨lp,tp,p,f,c,rfl,hS'⟩
 replace hS := hS.plus hS';clear hS';obtain ⟨F1,hS1,hro,hw1,hbk1⟩ := hS.call [true]
 have hT := Z17 (hro (pts f (.cells (List.toArray [.pointer (some ⟨tp,0,none⟩),.int .i64 0]) 100 (0,0))) (by simp)) (hro (itab rd fs tp lp p 60 2 10 40 (Zc3 10)) (by simp))
 have hG1 := hG.mono fun r hr => hw1 r hr
 have hL1 := hL.mono fun r hr => hw1 r hr
 have hSp1 : Sp wb F1 := hw1 _ hSp
 have hi1 := hw1 _ hl1
 have hb1 := hw1 _ hbs
 clear hS hro;have hS : St wb F1 [chR c f 0 (atT (Zc3 10)) (Nt (trV (Zbc rd fs []))) []] wb := hS1
 clear hS1;repeat (first|refine Yea ?_|refine Yen ?_|refine Yeb ?_|refine Yab ?_)
 obtain ⟨_,hcc,_,hw,hbk⟩ := hS.call [true]
 refine Zaa _ rfl rfl rfl rfl rfl (Z55 rd fs _ _ (hT.mono hw) (hL1.mono hw) (hG1.mono hw) hcc) ?_
 rintro _ w0 ⟨ax,x,tb,z0,rfl,hz0,hzok,hS⟩
 replace hS := hbk hS
 clear hbk hw hcc;obtain ⟨F3,hS3,hro3,hw3,hbk3⟩ := hS.call [false,true,true,true,true,true]
 have htb := hro3 (pts tb (tbC c logN)) (by simp)
 replace hT := hT.mono hw3
 replace hG1 := hG1.mono hw3
 replace hL1 := hL1.mono hw3
 replace hSp1 : Sp w0 F3 := hw3 _ hSp1
 replace hi1 := hw3 _ hi1
 replace hb1 := hw3 _ hb1
 clear hS hro3;have hS : St w0 F3 (z0.res rd fs ax x tb c f 0 (atT (Zc3 10))) w0 := hS3
 clear hS3;obtain ⟨A0,la0,lc0,ra0,rc0,L0,X0⟩ := z0
 simp only at hz0
 subst hz0
 have hS : St w0 F3 [pts ax (audC x la0 0 lc0),own 62 5 la0 lc0 (Zdw []),pts x (chnC 0 (Zaq rd fs [] 0) tb ra0 rc0),own 35 1 ra0 rc0 (L0.map Bs.val),chR c f 0 (atT (Zc3 10)) (Nt (trV (Zbc rd fs []))) X0] w0 := hS
 repeat (first|refine Yea ?_|refine Yeo ?_|refine Yed ?_|refine Yab ?_)
 have hS := hS.own_none 62 5 none
 refine Zbz (α := Option Addr × Nat × List Rec) (fun y => [(1,.int .i64 at0),(2,.slice ab s0.length c0),(7,.pointer (some ⟨c,0,none⟩)),(8,.pointer (some ⟨ax,0,none⟩)),(10,.slice y.1 y.2.2.length y.2.1)])
  (fun y w' => y.2.2.length ≤ 3 ∧ y.2.2.length ≤ y.2.1 ∧ (∀ r ∈ y.2.2,rchk r = 0) ∧ St w0 F3 [own 62 5 y.1 y.2.1 (Zdw y.2.2),pts ax (audC x la0 0 lc0),own 62 5 la0 lc0 (Zdw []),pts x (chnC 0 (Zaq rd fs [] 0) tb ra0 rc0),own 35 1 ra0 rc0 (L0.map Bs.val),chR c f 0 (atT (Zc3 10)) (Nt (trV (Zbc rd fs []))) X0] w') ?_ ?_
 ·refine Zal (α := Nat × Option Addr × Nat × List Rec) (fun y => [(0,.slice a1 l1.length c1),(1,.int .i64 at0),(2,.slice ab s0.length c0),(7,.pointer (some ⟨c,0,none⟩)),(8,.pointer (some ⟨ax,0,none⟩)),(10,.slice y.2.1 y.2.2.2.length y.2.2.1),(11,.int .i64 (y.1 : Nat))])
   (fun y w' => y.1 ≤ l1.length ∧ y.1 ≤ 3 ∧ y.2.2.2.length ≤ y.1 ∧ y.2.2.2.length ≤ y.2.2.1 ∧ (∀ r ∈ y.2.2.2,rchk r = 0) ∧ St w0 F3 [own 62 5 y.2.1 y.2.2.1 (Zdw y.2.2.2),pts ax (audC x la0 0 lc0),own 62 5 la0 lc0 (Zdw []),pts x (chnC 0 (Zaq rd fs [] 0) tb ra0 rc0),own 35 1 ra0 rc0 (L0.map Bs.val),chR c f 0 (atT (Zc3 10)) (Nt (trV (Zbc rd fs []))) X0] w') (fun y => 3 - y.1) (0,none,0,[]) ⟨rfl,rfl,rfl,rfl,rfl,rfl,rfl,trivial⟩ ⟨Nat.zero_le _,Nat.zero_le _,Nat.le_refl _,Nat.le_refl _,fun _ h => (List.not_mem_nil h).elim,hS⟩ ?_
  clear hS;rintro ⟨i,xa,xc,X⟩ w ⟨hi,hi3,hX,hxc,hXok,hS⟩
  simp only at hi hi3 hX hxc hXok hS ⊢
  by_cases h1 : i < l1.length
  case neg =>
   repeat (first|refine Yep ?_|refine Yaf ?_|refine Ya1 ?_|refine Yav ?_|refine Ya6 ?_|refine Yeq ?_|refine Yeg ?_)
   exact Zbp (xa,xc,X) ⟨rfl,rfl,rfl,rfl,rfl,trivial⟩ ⟨by dsimp only; omega,hxc,hXok,hS⟩
  by_cases h2 : i < 3
  case neg =>
   repeat (first|refine Yer ?_|(refine X_id ?_;first|refine Yaf ?_|refine Ya8 ?_|refine Yav ?_|refine Ya2 ?_|refine Ya6 ?_)|refine Yeq ?_|refine Yeg ?_)
   exact Zbp (xa,xc,X) ⟨rfl,rfl,rfl,rfl,rfl,trivial⟩ ⟨by dsimp only; omega,hxc,hXok,hS⟩
  have hx0 : l1[i]? = some l1[i] := List.getElem?_eq_getElem h1
  generalize l1[i] = r at hx0;have hxs := Zps hx0
  have hr := hi1
  obtain ⟨ab1,ao1,hab⟩ := (hr.rd hS).base (by intro e; rw [e] at hxs; simp at hxs)
  rw [hab] at hr ⊢;repeat (first|refine Yer ?_|(refine X_id ?_;first|refine Yaf ?_|refine Ya8 ?_|refine Yav ?_|refine Ya2 ?_|refine Ybc ?_|refine Ybp ?_)|refine Yee ?_|refine Yab ?_)
  refine Zaa _ rfl rfl rfl rfl rfl (Z4b r _) ?_
  rintro _ w ⟨rfl,hS'⟩
  replace hS := hS.plus hS';clear hS';repeat (first|refine Yaa ?_)
  refine Zaa _ rfl rfl rfl rfl rfl (Z61 r.cut _) ?_
  rintro _ w ⟨rfl,hS'⟩
  replace hS := hS.plus hS';clear hS';repeat (first|refine Yaa ?_)
  refine Zaa _ rfl rfl rfl rfl rfl (Z2l r.cut _) ?_
  rintro _ w ⟨rfl,hS'⟩
  replace hS := hS.plus hS';clear hS';by_cases hok : rchk r.cut = 0
  ·rw [hok]
   repeat (first|refine Yea ?_|refine Yaf ?_|refine Ybi ?_|refine Ybc ?_|refine Ybp ?_|refine Yad ?_|refine Yaj ?_|refine Yab ?_)
   refine Zaa _ rfl rfl rfl rfl rfl (Z4b r _) ?_
   rintro _ w ⟨rfl,hS'⟩
   replace hS := hS.plus hS';clear hS';repeat (first|refine Yaa ?_|refine Ybn (fun _ _ hS _ => ?_))
   have hnw := (hS.rd (List.mem_cons_self ..)).own_row
   refine Zar (T := 62) (a := xa) (m := 1) rfl rfl rfl rfl rfl hS (by rw [Zhq]) hxc hnw rfl (Zkm [r.cut]) (by omega) (by simp only [maxLen]; omega) (fun b' q'' w hS hq'' _ => ?_)
   repeat (first|refine Yea ?_|refine Yes ?_|refine Yad ?_|refine Yei ?_)
   refine Zaf (z := (i,xa,xc,X)) (i + 1,b',q'',X ++ [r.cut]) ⟨rfl,rfl,rfl,rfl,rfl,by dsimp only; rw [List.length_append]; rfl,rfl,trivial⟩ ⟨h1,h2,by dsimp only; rw [List.length_append]; exact Nat.succ_le_succ hX,by dsimp only; rw [List.length_append]; exact hq'',fun u hu => ?_,?_⟩ (by dsimp only; omega)
   ·rcases List.mem_append.1 hu with hu | hu
    ·exact hXok u hu
    ·rw [List.mem_singleton] at hu; rw [hu]; exact hok
   ·dsimp only
    rw [show Zdw (X ++ [r.cut]) = Zdw X ++ r.cut.cells by rw [Zkn]; simp]
    exact hS.took
  ·generalize rchk r.cut = n at hok ⊢
   repeat (first|refine Yea ?_|refine Yaf ?_|refine Yag ?_|refine Ybh ?_|refine Ya0 ?_|refine Yet ?_|refine Yei ?_)
   exact Zaf (z := (i,xa,xc,X)) (i + 1,xa,xc,X) ⟨rfl,rfl,rfl,rfl,rfl,rfl,rfl,trivial⟩ ⟨h1,h2,by dsimp only; omega,hxc,hXok,hS.took⟩ (by dsimp only; omega)
 clear hS;rintro ⟨xa,xc,A⟩ w ⟨hA3,hxc,hAok,hS⟩
 simp only at hA3 hxc hAok hS ⊢
 repeat (first|refine Yaa ?_|refine Yaf ?_|refine Yeb ?_)
 obtain ⟨_,hcc,hr1,hw,hbk⟩ := hS.call [false,true,true,true,true,true]
 refine Zaa _ rfl rfl rfl rfl rfl (Z56 rd fs ax x tb ⟨[],la0,lc0,ra0,rc0,L0,X0⟩ hzok xa A xc hxc (by show 0 + A.length ≤ 7; omega) _ _ (hT.mono hw) (hL1.mono hw) (hG1.mono hw) (hw _ hSp1) (hw _ htb) ((hr1 (own 62 5 xa xc (Zdw A)) (by simp)).own_row) hcc) ?_
 rintro _ w (⟨hb,_⟩ | ⟨_,rfl,⟨A',la,lc,ra,rc,L,X⟩,hzok',hA',_,hS⟩)
 ·exact absurd (Zom hAok) hb
 replace hS := hbk hS
 clear hbk hw hcc hr1;simp only [List.nil_append] at hA'
 subst hA'
 simp only [AuZ.res] at hS
 have hel := Zh5 A'
 repeat (first|refine Yea ?_|refine Yeo ?_|refine Yeb ?_|refine Yab ?_)
 refine Zaa _ rfl rfl rfl rfl rfl (tof_ c logN Zn2 _) ?_
 rintro _ w ⟨t2,rfl,hS'⟩
 replace hS := hS.plus hS';clear hS';obtain ⟨T,hTm⟩ : ∃ T,min s0.length 300 = T := ⟨_,rfl⟩
 have hb2 := hb1.subBytes (l := 0) (h := T) (c := c0) (by omega) (by omega)
 obtain ⟨s,hs⟩ : ∃ s,s = (s0.drop 0).take (T - 0) := ⟨_,rfl⟩
 rw [← hs,sub_zero] at hb2;have hsl : T = s.length := by rw [hs]; simp; omega
 have hsb : s.length ≤ 300 := by omega
 have hD := Zj0 ab s c0 (by omega) (by omega)
 have hcan := fun v => Ziy (b := s) (v := v)
 repeat (first|refine Yea ?_|refine Yaf ?_|refine Yag ?_|refine Yat ?_|refine Yav ?_|refine Yeb ?_|refine Yab ?_)
 refine X_yl (Zya (m := s0.length) (n := 300) rfl rfl rfl hTm) rfl rfl ?_
 refine Zeq rfl rfl ?_
 refine X_yl (Zap (l := 0) (h := T) rfl rfl rfl rfl (.inr ⟨_,_,rfl,by omega,by omega,by omega⟩) (.inl ⟨rfl,rfl⟩)) rfl rfl ?_
 rw [sub_zero,Nat.sub_zero,Nat.sub_zero,hsl];clear hs hsl hTm;repeat (first|refine Yaa ?_)
 refine Zaa _ rfl rfl rfl rfl rfl (hD _ (hL1.at_ hS) (hb2.rd hS).ro) ?_
 rintro v w hV
 cases hdm : decM s with
 | none =>
  rw [hdm] at hV;obtain ⟨e,rfl,he,hS'⟩ := hV
  replace hS := hS.plus hS';clear hS' hD;by_cases h0 : A'.length = 0
  ·rw [h0]
   repeat (first|refine Yeu ?_|(refine X_id ?_;first|refine Yaf ?_|refine Yag ?_|refine Yat ?_|refine Ya8 ?_|refine Ya1 ?_|refine Ybi ?_|refine Ya4 ?_|refine Yao (fun _ hS _ => ?_)|refine Yar (fun _ _ hS _ => ?_))|refine Yev ?_|refine Yab ?_)
   refine Zaa _ rfl rfl rfl rfl rfl (Zef _ (hL1.at_ hS) (hSp1.at_ hS)) ?_
   rintro _ w ⟨rfl,hS'⟩
   replace hS := hS.plus hS';clear hS';repeat (first|refine Yea ?_|refine Yag ?_|refine Yah ?_|refine Yel ?_)
   exact ⟨rfl,(hbk1 (hbk3 hS)).drops⟩
  ·generalize A'.length = n at h0 ⊢
   repeat (first|refine Yer ?_|(refine X_id ?_;first|refine Yaf ?_|refine Yag ?_|refine Yat ?_|refine Ya1 ?_|refine Ybh ?_|refine Ybj ?_|refine Ya4 ?_|refine Yao (fun _ hS _ => ?_)|refine Yar (fun _ _ hS _ => ?_))|refine Yev ?_|refine Yab ?_)
   refine Zaa _ rfl rfl rfl rfl rfl (Zef _ (hL1.at_ hS) (hSp1.at_ hS)) ?_
   rintro _ w ⟨rfl,hS'⟩
   replace hS := hS.plus hS';clear hS';repeat (first|refine Yea ?_|refine Yag ?_|refine Yah ?_|refine Yel ?_)
   exact ⟨rfl,(hbk1 (hbk3 hS)).drops⟩
 | some u =>
 rw [hdm] at hV;obtain ⟨cs,Y,rfl,hM,hS'⟩ := hV
 replace hS := hS.plus hS';clear hS' hD;obtain ⟨hse,huc,huf⟩ := hcan u hdm
 have hul : (encM u).length ≤ 300 := by rw [← hse]; exact hsb
 have huw := Z03 8 u huc
 obtain ⟨d1,d2,d3,d4,_,rfl,_⟩ := hM.lit
 by_cases h0 : A'.length = 0
 ·rw [h0]
  repeat (first|refine Yeu ?_|(refine X_id ?_;first|refine Yaf ?_|refine Yag ?_|refine Yat ?_|refine Ya8 ?_|refine Ya1 ?_|refine Ybi ?_|refine Ya4 ?_|refine Yao (fun _ hS _ => ?_)|refine Yar (fun _ _ hS _ => ?_))|refine Yev ?_|refine Yab ?_)
  refine Zaa _ rfl rfl rfl rfl rfl (Zef _ (hL1.at_ hS) (hSp1.at_ hS)) ?_
  rintro _ w ⟨rfl,hS'⟩
  replace hS := hS.plus hS';clear hS';repeat (first|refine Yea ?_|refine Yag ?_|refine Yah ?_|refine Yel ?_)
  exact ⟨rfl,(hbk1 (hbk3 hS)).drops⟩
 have hU0 : 0 ≤ IntKind.u64.wrap at0 := by simp [IntKind.wrap,IntKind.bits,IntKind.signed]; omega
 obtain ⟨k,hk,hkl⟩ : ∃ k : Nat,IntKind.u64.wrap at0 % (A'.length : Nat) = (k : Nat) ∧ k < A'.length := by
  have h1 := Int.emod_nonneg (IntKind.u64.wrap at0) (b := (A'.length : Nat)) (by omega)
  have h2 := Int.emod_lt_of_pos (IntKind.u64.wrap at0) (b := (A'.length : Nat)) (by omega)
  exact ⟨((IntKind.u64.wrap at0) % (A'.length : Nat)).toNat,by omega,by omega⟩
 have hwn : IntKind.u64.wrap (A'.length : Nat) = (A'.length : Nat) := by simp [IntKind.wrap,IntKind.bits,IntKind.signed]; omega
 have hwk : IntKind.i64.wrap (k : Nat) = (k : Nat) := w64 (by omega) (by omega)
 repeat (first|refine Yer ?_|(refine X_id ?_;first|refine Yaf ?_|refine Yag ?_|refine Yat ?_|refine Ya1 ?_|refine Ybh ?_|refine Ya4 ?_|refine Yc4 ?_|refine Ych ?_|refine Yao (fun _ hS _ => ?_)|refine Yar (fun _ _ hS _ => ?_))|refine Yem ?_|refine Yab ?_)
 rename_i bu _ _ _ _ _;rw [hwn,hk,hwk];have hes7 : (Zc0 A').length ≤ 7 := by omega
 have hsh := Zhb hAok
 have hvok := Zv3 rd fs hes7 hsh
 have hS : St w0 F3 [chR c f 0 (atT (Zc3 10)) (Nt (trV (Zbc rd fs (Zc0 A')))) X,pts t2 (tbC c logN),bag Y,pts bu (.cells (List.toArray [.int .i64 u.kind,.int .i64 u.num,.slice d1 u.txt.length d2,.slice d3 u.lst.length d4]) 38 (0,0))] _ := hS.took
 rw [← hel] at hkl;have hv0 := Znd (rd := rd) (fs := fs) hkl
 have hks := (hvok.2 _ (List.mem_of_getElem? hv0))
 generalize recV ((Zc0 A').getD k []) (Zaq rd fs (Zc0 A') (k + 1)) = y at hv0 hks;refine Zaa _ rfl rfl rfl rfl rfl (Zt8 k (by omega) _ (hL1.at_ hS)) ?_
 rintro _ w ⟨rfl,hS'⟩
 replace hS := hS.plus hS';clear hS';repeat (first|refine Yaa ?_)
 obtain ⟨_,hcc,hr1,hw,hbk⟩ := hS.call [true]
 refine Zaa _ rfl rfl rfl rfl rfl (Z4c hvok.tree t2 logN (keyD k) _ _ (hT.mono hw) (hL1.mono hw) (hr1 (pts t2 (tbC c logN)) (by simp)) hcc) ?_
 rintro v w ⟨X2,hX2,hS,hv⟩
 replace hS := hbk hS
 clear hbk hw hcc hr1;rw [Zs4 hvok.1 hv0 hks.1 hks.2.1] at hv;obtain ⟨ds,rfl,hMy⟩ := hv
 obtain ⟨f1,f2,f3,f4,_,rfl,_⟩ := hMy.lit
 repeat (first|refine Yea ?_|refine Yeo ?_|refine Yao (fun _ hS _ => ?_)|refine Yar (fun _ _ hS _ => ?_)|refine Yae ?_|refine Yab ?_)
 refine Zam (.s 0 (.s 1 (.h 2 (.s 3 (.s 4 (.s 5 (.s 7 (.h 6 (.h 8 (.s 9 (.s 10 .nil)) .no) .no))))) .no))) mixed (by kernel_rfl) rfl ?_
 have hS := hS.drew
 repeat (first|(refine Zae ?_;first|refine Yb1 ?_|refine Yas ?_))
 refine Zaa _ rfl rfl rfl rfl rfl (Z4m u y _ _ _ noF (by omega) (hM.mono fun _ _ h => (h.rd (hS.rd (r := bag Y) (by repeat (first|exact List.mem_cons_self ..|refine Ydc ?_)))).ro) (hMy.mono fun _ _ h => (h.rd (hS.rd (r := chR c f 0 (atT (Zc3 10)) (Nt (trV (Zbc rd fs (Zc0 A')))) X2) (by repeat (first|exact List.mem_cons_self ..|refine Ydc ?_))).ch).ro)) ?_
 rintro _ w ⟨rfl,hS'⟩
 replace hS := hS.plus hS';clear hS';rcases Bool.eq_false_or_eq_true (eqM u y) with he | he
 ·rw [he]
  repeat (first|refine Yaa ?_|refine Yev ?_|refine Yab ?_|(refine Zae ?_;first|refine Yay ?_|refine Ya3 ?_|refine Ycb ?_|refine Ycw ?_|refine Ycc ?_)|(refine Zac ?_;first|refine Yaz ?_))
  refine Zaa _ rfl rfl rfl rfl rfl (Zef _ (hL1.at_ hS) (hSp1.at_ hS)) ?_
  rintro _ w ⟨rfl,hS'⟩
  replace hS := hS.plus hS';clear hS';repeat (first|refine Yea ?_|refine Yag ?_|refine Yah ?_|refine Yel ?_)
  exact ⟨rfl,(hbk1 (hbk3 hS)).drops⟩
 rw [he];repeat (first|(refine Zae ?_;first|refine Ya3 ?_|refine Yb6 ?_|refine Ycx ?_|refine Ydv ?_)|(refine Zac ?_;first|refine Yaz ?_))
 refine Zaa _ rfl rfl rfl rfl rfl (Zt8 k (by omega) _ (hL1.at_ hS)) ?_
 rintro _ w ⟨rfl,hS'⟩
 replace hS := hS.plus hS';clear hS';repeat (first|(refine Zae ?_;first|refine Ycx ?_)|(refine Zac ?_;first|refine Yaz ?_))
 obtain ⟨_,hcc,hr1,hw,hbk⟩ := hS.call [false,true]
 refine Zaa _ rfl rfl rfl rfl rfl (Z4a hvok.tree t2 logN (keyD k) u _ _ _ (hT.mono hw) (hL1.mono hw) (hr1 (pts t2 (tbC c logN)) (by repeat (first|exact List.mem_cons_self ..|refine Ydc ?_))) (hM.ro (hr1 (bag Y) (by repeat (first|exact List.mem_cons_self ..|refine Ydc ?_)))) (by omega) huf (by omega) hcc) ?_
 rintro _ w ⟨rfl,X3,hX3,hS⟩
 replace hS := hbk hS
 clear hbk hw hcc hr1;rw [Zy4 hvok.1 (by rw [Zbi]; exact hkl) huc (by omega)] at hS ⊢
 simp only at hS ⊢
 have hvok2 := hvok.set k huc huf (by omega)
 have hbent := Zwf rd fs (Zc0 A') hsh hkl u
 have hlen := (Zjq rd fs ((Zbc rd fs (Zc0 A')).set k u) 0 (Zb3 rd fs Zcw)).2
 rw [List.length_set,Zbi,hel] at hlen;rw [hel] at hkl;generalize (Zbc rd fs (Zc0 A')).set k u = vs at hS hvok2 hbent hlen;repeat (first|refine Yaa ?_|refine Yaf ?_|refine Yem ?_|refine Yab ?_|(refine Zae ?_;first|refine Yay ?_|refine Yb7 ?_|refine Zbv rfl rfl rfl rfl (fun _ => Zh9 rfl rfl rfl (by omega)) rfl rfl ?_)|(refine Zac ?_;first|refine Yaz ?_))
 obtain ⟨_,hcc,hr1,hw,hbk⟩ := hS.call [true]
 refine Zaa _ rfl rfl rfl rfl rfl (Zt7 rd fs vs hvok2 t2 _ _ (hT.mono hw) (hL1.mono hw) (hG1.mono hw) (hr1 (pts t2 (tbC c logN)) (by repeat (first|exact List.mem_cons_self ..|refine Ydc ?_))) hcc) ?_
 rintro _ w ⟨X4,rfl,hS⟩
 replace hS := hbk hS
 clear hbk hw hcc hr1;repeat (first|refine Yea ?_|refine Yeo ?_|refine Yeb ?_|refine Yab ?_)
 obtain ⟨_,hcc,hr1,hw,hbk⟩ := hS.call [true]
 refine Zaa _ rfl rfl rfl rfl rfl (Zx1 rd fs vs hvok2 _ _ (hT.mono hw) (hL1.mono hw) (hG1.mono hw) (hw _ hSp1) hcc) ?_
 rintro _ w ⟨X5,rfl,hS⟩
 replace hS := hbk hS
 clear hbk hw hcc hr1;repeat (first|refine Yea ?_|refine Yeo ?_|refine Yeb ?_|refine Yab ?_)
 obtain ⟨_,hcc,hr1,hw,hbk⟩ := hS.call [true]
 refine Zaa _ rfl rfl rfl rfl rfl (Z7k rd fs vs hvok2 _ _ (hT.mono hw) (hL1.mono hw) (hG1.mono hw) (hw _ hSp1) hcc) ?_
 rintro _ w ⟨vo,X6,rfl,hS⟩
 replace hS := hbk hS
 clear hbk hw hcc hr1;have hbent : (runV rd fs vs).2 = false → (runV rd fs vs).1.length ≤ k + 1 := hbent
 have hlen : (runV rd fs vs).2 = true → (runV rd fs vs).1.length = A'.length := hlen
 unfold errV
 generalize runV rd fs vs = R at hbent hlen ⊢;obtain ⟨es2,ok⟩ := R
 simp only at hbent hlen ⊢
 rcases Bool.eq_false_or_eq_true ok with hk2 | hk2
 ·have hl2 := hlen hk2
  rw [hk2,if_pos rfl,hl2];generalize errL es2 = e;by_cases hkn : k = A'.length - 1
  ·have hkn' : ((k : Nat) : Int) = ((A'.length : Nat) : Int) - 1 := by omega
   repeat (first|refine Yea ?_|refine Yaf ?_|refine Yag ?_|refine Yat ?_|refine Ybd ?_|refine Yem ?_|refine Yab ?_)
   refine Zaa _ rfl rfl rfl rfl rfl (Zef _ (hL1.at_ hS) (hSp1.at_ hS)) ?_
   rintro _ w ⟨rfl,hS'⟩
   replace hS := hS.plus hS';clear hS';repeat (first|refine Yeu ?_|(refine X_id ?_;first|refine Yaf ?_|refine Yag ?_|refine Ya8 ?_|refine Ybi ?_|refine Ybz ?_)|refine Yah ?_|refine Yec ?_)
   exact ⟨rfl,(hbk1 (hbk3 hS)).drops⟩
  ·have hkn' : ¬ ((k : Nat) : Int) = ((A'.length : Nat) : Int) - 1 := by omega
   repeat (first|refine Yea ?_|refine Yaf ?_|refine Yag ?_|refine Yat ?_|refine Ybd ?_|refine Yem ?_|refine Yab ?_)
   refine Zaa _ rfl rfl rfl rfl rfl (Zef _ (hL1.at_ hS) (hSp1.at_ hS)) ?_
   rintro _ w ⟨rfl,hS'⟩
   replace hS := hS.plus hS';clear hS';repeat (first|refine Yer ?_|(refine X_id ?_;first|refine Yaf ?_|refine Yag ?_|refine Ya8 ?_|refine Ya1 ?_|refine Ybi ?_|refine Ybh ?_|refine Ybz ?_)|refine Yah ?_|refine Yec ?_)
   exact ⟨rfl,(hbk1 (hbk3 hS)).drops⟩
 ·have hl2 := hbent hk2
  rw [hk2,if_neg (by decide)];repeat (first|refine Yea ?_|refine Yaf ?_|refine Yag ?_|refine Yat ?_|refine Ybq ?_|refine Yev ?_|refine Yab ?_)
  refine Zaa _ rfl rfl rfl rfl rfl (Zef _ (hL1.at_ hS) (hSp1.at_ hS)) ?_
  rintro _ w ⟨rfl,hS'⟩
  replace hS := hS.plus hS';clear hS';repeat (first|refine Yer ?_|(refine X_id ?_;first|refine Yaf ?_|refine Yag ?_|refine Ya8 ?_|refine Ybi ?_|refine Ydk ?_|refine Ya0 ?_)|refine Yah ?_|refine Yel ?_)
  exact ⟨rfl,(hbk1 (hbk3 hS)).drops⟩
end Cr
namespace Cr
open Go Go.Proofs Go.ChangeShapes Go.WideShapes Go.Deep
set_option maxHeartbeats 64000000
section
variable {H : Type} {enc : TypeId × Value → H} {P : Program} {w : World} {base : Nat} {sp : Nat → Bool} {held : Bool}
theorem Rd.ofCellsA {a : Addr} {l : List Value} (h : ∀ i v,l[i]? = some v → w.cell? (a.add i) = some v) : Rd w (row (some a) l) := by
 cases l with
 | nil => exact Zm7 w _
 | cons x r =>
  have h0 := h 0 x rfl
  have hsp : a.spot = none := by
   have := World.cell?_spot h0
   simpa [Addr.add] using this
  obtain ⟨b,off,spot⟩ := a
  obtain rfl : spot = none := hsp
  unfold World.cell? at h0
  split at h0
  ·rename_i c t fz hb
   have hb : w.heap[b]? = some (.cells c t fz) := by simpa [Addr.add] using hb
   refine ⟨Zcl b (.cells c t fz),.inr ⟨b,off,c,t,fz,rfl,rfl,fun i v hv => ?_⟩,fun k o e => ?_⟩
   ·have := h i v hv
    have e : (⟨b,off,none⟩ : Addr).add i = ⟨b,off + i,none⟩ := by
     unfold Addr.add; split
     ·rename_i h; subst h; rfl
     ·rfl
    rw [e,cell_of_row w b (off + i) c t fz hb] at this;exact this
   ·obtain ⟨rfl,rfl⟩ := Zht e
    exact hb
  ·cases h0
theorem Z16 {n : Int} (h : (Lit.int .u8 n).wf = true) : Value.int .u8 n = .int .u8 ((UInt8.ofNat n.toNat).toNat : Int) := by
 simp only [Lit.wf,Bool.and_eq_true,decide_eq_true_eq] at h
 have h1 : 0 ≤ n := h.1
 have h2 : n ≤ 255 := h.2
 congr 1
 have : (UInt8.ofNat n.toNat).toNat = n.toNat := by rw [UInt8.toNat_ofNat']; omega
 rw [this]; omega
theorem open_bytes {t e : TypeId} {fuel : Nat} {cs : List Value} {x : DataW H × List MemPlace} (ht : P.underlying t = some (.slice e)) (he : P.underlying e = some (.int .u8)) (hc : P.cellsOf e = 1)
  (h : DataW.trod enc P w base sp held fuel t cs = some x) : ∃ a s c,cs = [.slice a s.length c] ∧ s.length ≤ c ∧ c ≤ maxLen ∧ Rd w (bytes a s) := by
 rcases open_ints ht he hc h with ⟨rfl,_⟩ | ⟨a,len,cap,zs,rfl,_,hl,hm,hz,_,hcell,hwf⟩
 ·exact ⟨none,[],0,rfl,Nat.le_refl _,Nat.zero_le _,Zm7 w _⟩
 ·have hlz : len ≤ zs.length := by rw [hz]; split <;> omega
  have e1 : bv ((zs.take len).map fun n => UInt8.ofNat n.toNat) = (zs.take len).map fun n => Value.int .u8 n := by
   unfold bv
   rw [List.map_map];refine List.map_congr_left fun n hn => ?_
   exact (Z16 (hwf n (List.mem_of_mem_take hn))).symm
  have e2 : ((zs.take len).map fun n => UInt8.ofNat n.toNat).length = len := by simp; omega
  refine ⟨some a,(zs.take len).map fun n => UInt8.ofNat n.toNat,cap,by rw [e2],by rw [e2]; exact hl,hm,?_⟩
  unfold bytes
  rw [e1];refine Rd.ofCellsA fun i v hv => ?_
  rw [List.getElem?_map,List.getElem?_take] at hv
  split at hv
  ·rename_i hi
   rw [hcell i (by omega)];have h3 : zs[i]? = some zs[i] := List.getElem?_eq_getElem (by omega)
   rw [h3] at hv;rw [List.getD_eq_getElem?_getD,h3];exact hv
  ·cases hv
end
section
variable {H : Type} {enc : TypeId × Value → H} {P : Program} {w : World} {base : Nat} {sp : Nat → Bool} {held : Bool}
theorem Zrz {α : Type} [Inhabited α] (f : α → List Value) (Ok : α → Prop) {t e : TypeId} {fuel : Nat} {cs : List Value} {x : DataW H × List MemPlace} (n : Nat) (ht : P.underlying t = some (.slice e)) (ce : P.cellsOf e = n) (hpos : 0 < n)
  (hopen : ∀ (fuel : Nat) (cs : List Value) (y : DataW H × List MemPlace),DataW.trod enc P w base sp held fuel e cs = some y → ∃ a : α,cs = f a ∧ Ok a)
  (h : DataW.trod enc P w base sp held fuel t cs = some x) : ∃ (a : Option Addr) (l : List α) (c : Nat),cs = [.slice a l.length c] ∧ l.length ≤ c ∧ c ≤ maxLen ∧ Rd w (row a (l.flatMap f)) ∧ ∀ y ∈ l,Ok y ∧ (f y).length = n := by
 rcases DataW.trod_slice ht h with ⟨rfl,_⟩ | ⟨a,len,cap,elems,rest,m,_,rfl,_,_,hl,hm,hel,hx,_⟩
 ·exact ⟨none,[],0,rfl,Nat.le_refl _,Nat.zero_le _,Zm7 w _,fun _ h => (List.not_mem_nil h).elim⟩
 ·have each : ∀ i,i < len → ∃ q : α,Ok q ∧ (f q).length = n ∧ ∀ k,k < n → w.cell? (a.add (i * n + k)) = (f q)[k]? := fun i hi => by
   have h1 := hx i hi
   rw [List.getElem?_eq_getElem (by omega),ce,Option.bind_eq_some_iff] at h1;obtain ⟨cs',h2,h3⟩ := h1
   obtain ⟨_,hlen,hcell⟩ := World.cells?_some h2
   obtain ⟨q,rfl,hq⟩ := hopen _ _ _ h3
   exact ⟨q,hq,hlen,fun k hk => by rw [← add_add]; exact hcell k hk⟩
  obtain ⟨q,hq⟩ := choose_lt each
  have hlen : ((List.range len).map q).length = len := by simp
  have hall : ∀ y ∈ (List.range len).map q,Ok y ∧ (f y).length = n := fun y hy => by
   obtain ⟨i,hi,rfl⟩ := List.mem_map.1 hy
   have := hq i (List.mem_range.1 hi)
   exact ⟨this.1,this.2.1⟩
  refine ⟨some a,(List.range len).map q,cap,by rw [hlen],by rw [hlen]; exact hl,hm,Rd.ofCellsA fun k v hv => ?_,hall⟩
  have hfl := Zek (n := n) fun y hy => (hall y hy).2
  have hk : k / n < len := by
   have := (List.getElem?_eq_some_iff.1 hv).1
   rw [hfl,hlen] at this;exact (Nat.div_lt_iff_lt_mul hpos).2 this
  have hget : ((List.range len).map q)[k / n]? = some (q (k / n)) := by simp [hk]
  have hsg := Zcs (f := f) (fun y hy => (hall y hy).2) hget
  have hmod : k % n < n := Nat.mod_lt _ hpos
  have hk2 : k / n * n + k % n = k := by rw [Nat.mul_comm]; exact Nat.div_add_mod k n
  have hv3 := congrArg (fun l => l[k % n]?) hsg
  simp only [List.getElem?_take,List.getElem?_drop] at hv3
  rw [if_pos hmod,hk2,hv] at hv3;have := (hq (k / n) hk).2.2 (k % n) hmod
  rw [hk2] at this;rw [this]; exact hv3.symm
end
end Cr
namespace Cr
open Go Go.Proofs Go.ChangeShapes Go.WideShapes
set_option maxRecDepth 100000
set_option maxHeartbeats 64000000
section
variable {H : Type} {enc : TypeId × Value → H} {w : World} {base : Nat} {sp : Nat → Bool} {held : Bool}
theorem len5 {cs : List Value} (h : cs.length = 5) : ∃ a0 a1 a2 a3 a4,cs = [a0,a1,a2,a3,a4] := by
 match cs,h with
 | [a0,a1,a2,a3,a4],_ => exact ⟨_,_,_,_,_,rfl⟩
theorem Zny {n : Nat} {v : Value} {y : DataW H × List MemPlace} (h : DataW.trod enc Tryz.prog w base sp held n 9 [v] = some y) : ∃ s,v = .string (str s) := by
 obtain ⟨s,hs,_⟩ := DataW.trod_string Tryz.underlying9 h
 obtain ⟨l,rfl⟩ := Z4e s
 exact ⟨l,by simpa using hs⟩
theorem Zth {n : Nat} {v : Value} {y : DataW H × List MemPlace} (h : DataW.trod enc Tryz.prog w base sp held n 3 [v] = some y) : ∃ k : Int,v = .int .i64 k ∧ -9223372036854775808 ≤ k ∧ k ≤ 9223372036854775807 := by
 obtain ⟨k,hk,_,hw⟩ := DataW.trod_int Tryz.underlying3 h
 simp only [Lit.wf,Bool.and_eq_true,decide_eq_true_eq] at hw
 exact ⟨k,by simpa using hk,hw.1,hw.2⟩
theorem Zi0 : Tryz.prog.cellsOf 9 = 1 := by kernel_rfl
theorem Zmy : Tryz.prog.cellsOf 3 = 1 := by kernel_rfl
theorem Zua : Tryz.prog.cellsOf 57 = 5 := by kernel_rfl
theorem Zzx {fuel : Nat} {cs : List Value} {x : DataW H × List MemPlace} (h : DataW.trod enc Tryz.prog w base sp held fuel 57 cs = some x) :
  ∃ r : Rec,cs = r.cells ∧ (-9223372036854775808 ≤ r.rev ∧ r.rev ≤ 9223372036854775807) ∧ -9223372036854775808 ≤ r.out ∧ r.out ≤ 9223372036854775807 := by
 obtain ⟨xs,n,_,_,hl,hxl,hf⟩ := DataW.trod_struct Tryz.underlying57 h
 rw [Zua] at hl;have hxl : xs.length = 5 := hxl
 obtain ⟨a0,a1,a2,a3,a4,rfl⟩ := len5 hl
 have f0 : DataW.trod enc Tryz.prog w base sp held n 9 [a0] = xs[0]? := by
  have h : DataW.trod enc Tryz.prog w base sp held n 9 ((List.drop 0 [a0,a1,a2,a3,a4]).take (Tryz.prog.cellsOf 9)) = xs[0]? := by
   have h0 := hf 0 _ rfl
   exact h0
  rw [Zi0] at h;exact h
 have f1 : DataW.trod enc Tryz.prog w base sp held n 9 [a1] = xs[1]? := by
  have h : DataW.trod enc Tryz.prog w base sp held n 9 ((List.drop 1 [a0,a1,a2,a3,a4]).take (Tryz.prog.cellsOf 9)) = xs[1]? := by
   have h0 := hf 1 _ rfl
   exact h0
  rw [Zi0] at h;exact h
 have f2 : DataW.trod enc Tryz.prog w base sp held n 9 [a2] = xs[2]? := by
  have h : DataW.trod enc Tryz.prog w base sp held n 9 ((List.drop 2 [a0,a1,a2,a3,a4]).take (Tryz.prog.cellsOf 9)) = xs[2]? := by
   have h0 := hf 2 _ rfl
   exact h0
  rw [Zi0] at h;exact h
 have f3 : DataW.trod enc Tryz.prog w base sp held n 3 [a3] = xs[3]? := by
  have h : DataW.trod enc Tryz.prog w base sp held n 3 ((List.drop 3 [a0,a1,a2,a3,a4]).take (Tryz.prog.cellsOf 3)) = xs[3]? := by
   have h0 := hf 3 _ rfl
   exact h0
  rw [Zmy] at h;exact h
 have f4 : DataW.trod enc Tryz.prog w base sp held n 3 [a4] = xs[4]? := by
  have h : DataW.trod enc Tryz.prog w base sp held n 3 ((List.drop 4 [a0,a1,a2,a3,a4]).take (Tryz.prog.cellsOf 3)) = xs[4]? := by
   have h0 := hf 4 _ rfl
   exact h0
  rw [Zmy] at h;exact h
 rw [List.getElem?_eq_getElem (by omega)] at f0 f1 f2 f3 f4;obtain ⟨s0,rfl⟩ := Zny f0
 obtain ⟨s1,rfl⟩ := Zny f1
 obtain ⟨s2,rfl⟩ := Zny f2
 obtain ⟨n0,rfl,h1⟩ := Zth f3
 obtain ⟨n1,rfl,h2⟩ := Zth f4
 exact ⟨⟨s0,s1,s2,n0,n1⟩,rfl,h1,h2⟩
end
end Cr
namespace Cr
open Go Go.Proofs Go.ChangeShapes Go.WideShapes Go.Deep
set_option maxRecDepth 100000
set_option maxHeartbeats 64000000
instance : Inhabited Rec := ⟨zRec⟩
def Rec.ints (r : Rec) : Prop := (-9223372036854775808 ≤ r.rev ∧ r.rev ≤ 9223372036854775807) ∧ -9223372036854775808 ≤ r.out ∧ r.out ≤ 9223372036854775807
theorem arg_recs {H : Type} {enc : TypeId × Value → H} {W : World} {p : List MemPlace} {d : DataW H} {v : Value} {base : Nat}
  (hok : Value.okWide Tryz.prog W .any base 55 v) (h : DataW.Trod enc Tryz.prog W 0 (fun _ => true) true 55 v d p) :
  ∃ (a : Option Addr) (l : List Rec) (ca : Nat),v = .slice a l.length ca ∧ Ro W noF (row a (Zdw l)) ∧ ∀ r ∈ l,r.ints := by
 obtain ⟨a0,n0,c0,rfl⟩ := okWide_slice Tryz.underlying55 hok
 obtain ⟨fuel,hf⟩ := h
 obtain ⟨a,l,c,e,_,_,hr,hall⟩ := Zrz Rec.cells Rec.ints 5 Tryz.underlying55 Zua (by omega) (fun _ _ _ h => Zzx h) hf
 have e : [Value.slice a0 n0 c0] = [.slice a l.length c] := e
 simp only [List.cons.injEq,Value.slice.injEq,and_true] at e
 obtain ⟨rfl,rfl,rfl⟩ := e
 exact ⟨_,l,_,rfl,hr.ro,fun r hr => (hall r hr).1⟩
end Cr
