/-
  Bits,strings of bytes. Over any program.
  Layer 2 (digest): what each function of package digest computes.
  The two tables of package digest,as the program's text lays them.
  A law's wrap,for every law alike: what is as it was reads as it did.
  Lists of cells in parts; bytes in a block; quotients. Over any program.
  Calls that make memory. Over any program.
  Conversions between bytes and strings,strings' comparison,copy,append of zeros. Over any program.
  Operations on strings: sums,lengths,pieces,bytes of a string. Over any program.
  Layer 2 (digest): mix.
  Layer 2 (digest): bytes,one.
  The wrap of laws whose rows list the tables of digest,bits and strconv: a world for a witness; what the row lists gives the digest's tables.
-/
import Derived.Test.YteonaddammjopaaGreatDoorCgl2
import Derived.Test.YteonaddammjopaaGreatDoorCards
import Derived.Test.YteonaddammjopaaGreatDoorTie
import Derived.WalkKit
import Derived.ProofKit
import Derived.OpenShut
import Derived.Deep.DeepHandedRow
import Derived.Lib.LaidTab
import Derived.Stop.LaidErr
import Derived.Carry
import Derived.Laws.BytesString
import Derived.Laws.Strings
import Derived.Laws.CopyRow
import Derived.Lib.ConvBytes
import Derived.Laws.Concat
import Derived.Deep.DeepWitnessRowRef
import Derived.Lib.ItoaNum
namespace Cr
open Go
def iand (k : IntKind) (x y : Int) : Int := k.wrap (BitVec.ofInt k.bits x &&& BitVec.ofInt k.bits y).toNat
def ior (k : IntKind) (x y : Int) : Int := k.wrap (BitVec.ofInt k.bits x ||| BitVec.ofInt k.bits y).toNat
def ixor (k : IntKind) (x y : Int) : Int := k.wrap (BitVec.ofInt k.bits x ^^^ BitVec.ofInt k.bits y).toNat
def ishl (k : IntKind) (x : Int) (n : Nat) : Int := k.wrap (x * 2 ^ (min n k.bits))
def ishr (k : IntKind) (x : Int) (n : Nat) : Int := x.fdiv (2 ^ (min n k.bits))
section
variable {P : Program} {o : Oper} {σ : Env} {w : World} {x y : Operand} {t ty : TypeId} {k k' : IntKind} {a b : Int}
theorem Yl_and (ho : o.op = .binOp .and t x y ty) (hx : ev σ x = some (.int k a)) (hy : ev σ y = some (.int k b)) : Yl P o σ w (.int k (iand k a b)) := ⟨fun N ds f ha => by
 simp only [execOp,ho,ha.eval hx,ha.eval hy,binOp,eqGuard,Op.intBits,ne_eq,not_true_eq_false,if_false]; rfl⟩
theorem Yl_or (ho : o.op = .binOp .or t x y ty) (hx : ev σ x = some (.int k a)) (hy : ev σ y = some (.int k b)) : Yl P o σ w (.int k (ior k a b)) := ⟨fun N ds f ha => by
 simp only [execOp,ho,ha.eval hx,ha.eval hy,binOp,eqGuard,Op.intBits,ne_eq,not_true_eq_false,if_false]; rfl⟩
theorem Yl_xor (ho : o.op = .binOp .xor t x y ty) (hx : ev σ x = some (.int k a)) (hy : ev σ y = some (.int k b)) : Yl P o σ w (.int k (ixor k a b)) := ⟨fun N ds f ha => by
 simp only [execOp,ho,ha.eval hx,ha.eval hy,binOp,eqGuard,Op.intBits,ne_eq,not_true_eq_false,if_false]; rfl⟩
theorem Yl_shl (ho : o.op = .binOp .shl t x y ty) (hx : ev σ x = some (.int k a)) (hy : ev σ y = some (.int k' b)) (hb : 0 ≤ b) : Yl P o σ w (.int k (ishl k a b.toNat)) := ⟨fun N ds f ha => by
 have : ¬ b < 0 := by omega
 simp only [execOp,ho,ha.eval hx,ha.eval hy,binOp,eqGuard,Op.shift,if_neg this]; rfl⟩
theorem Zj6 (ho : o.op = .binOp .shr t x y ty) (hx : ev σ x = some (.int k a)) (hy : ev σ y = some (.int k' b)) (hb : 0 ≤ b) : Yl P o σ w (.int k (ishr k a b.toNat)) := ⟨fun N ds f ha => by
 have : ¬ b < 0 := by omega
 simp only [execOp,ho,ha.eval hx,ha.eval hy,binOp,eqGuard,Op.shift,if_neg this]; rfl⟩
theorem Zbm {N : Nat} {ds : Md} {K : Env → World → Prop} (g : FuncId) {f : Operand} {xs : List Operand} {vs : List Value} {ts : Array TypeId} {d : Nat} {R : Value → Prop} {W : World} {F : Nat → Prop} {rs : List Res} (ho : o.op = .call { callee := .value f,args := xs.toArray,argTypes := ts }) (hf : ev σ f = some (.func (.func g) #[] #[])) (hv : evs σ xs = some vs) [hg : Fun P g]
  (hd : o.dst = some d) (hN : Nat.blt d N = true) (hS : St W F rs w) (hc : Calls P g vs.toArray w (Ret fun v w' => R v ∧ St w noF [] w')) (h : ∀ v w',R v → St W F rs w' → K ((d,v) :: σ) w') : X P o N ds σ w K :=
 Zan g ho hf hv hd hN hc fun v w' ⟨hR,h'⟩ => h v w' hR (hS.below h'.toBelow)
theorem iand_7 (x : Int) : iand .i64 x 7 = x % 8 := by
 unfold iand
 have e : (BitVec.ofInt IntKind.i64.bits x &&& BitVec.ofInt IntKind.i64.bits 7).toNat = (x % 8).toNat := by
  rw [BitVec.toNat_and,BitVec.toNat_ofInt,BitVec.toNat_ofInt]
  show (x % 18446744073709551616).toNat &&& 7 = _
  rw [show (7 : Nat) = 2 ^ 3 - 1 from rfl,Nat.and_two_pow_sub_one_eq_mod]
  omega
 rw [e,IntKind.wrap_i64]
 omega
/-! blocks of numbers -/
def ints (k : IntKind) (L : List Int) : List Value := L.map (Value.int k)
theorem ints_length (k : IntKind) (L : List Int) : (ints k L).length = L.length := by simp [ints]
instance ones_ints (k : IntKind) (L : List Int) : Ones (ints k L) := ⟨fun u hu => by simp [ints] at hu; obtain ⟨n,_,rfl⟩ := hu; rfl⟩
theorem ints_get {k : IntKind} {L : List Int} {i : Nat} (h : i < L.length) : (ints k L)[i]? = some (.int k (L.getD i 0)) := by
 simp [ints,h,List.getD_eq_getElem?_getD]
theorem ints_rep (k : IntKind) (n : Nat) (x : Int) : List.replicate n (Value.int k x) = ints k (List.replicate n x) := by simp [ints]
theorem Zsp {k : IntKind} {L : List Int} {i : Nat} {x : Int} : (ints k L).set i (.int k x) = ints k (L.set i x) := by simp [ints,List.map_set]
theorem St.cellI {W : World} {F : Nat → Prop} {rs : List Res} {b off : Nat} {k : IntKind} {L : List Int} {T : TypeId} (hS : St W F rs w) [hh : Has rs b (.cells (ints k L).toArray T (0,0))] (h : off < L.length) : w.cell? ⟨b,off,none⟩ = some (.int k (L.getD off 0)) := by
 rw [cell_of_row w b off _ T (0,0) hS.has]
 simpa using ints_get (k := k) h
theorem Zkt {N : Nat} {ds : Md} {K : Env → World → Prop} {b off : Nat} {k : IntKind} {n : Int} {L : List Int} {T : TypeId} {W : World} {F : Nat → Prop} {rs rs' : List Res} (ho : o.op = .store t x y) (hx : ev σ x = some (.pointer (some ⟨b,off,none⟩))) (hy : ev σ y = some (.int k n)) [hs : Siz P t 1]
  (hd : o.dst = none) (hS : St W F rs w) [hh : Has rs b (.cells (ints k L).toArray T (0,0))] (hfit : off < L.length) [hu : Upd rs b (.cells (ints k (L.set off n)).toArray T (0,0)) rs']
  (h : ∀ w',St W F rs' w' → K σ w') : X P o N ds σ w K := by
 have e : Zby (ints k L) off [.int k n] = ints k (L.set off n) := by
  rw [← Zsp,Zk0 _ _ _ (by rw [ints_length]; exact hfit)]
  simp [Zby]
 have hu' : Upd rs b (.cells (Zby (ints k L) off [.int k n]).toArray T (0,0)) rs' := by rw [e]; exact hu
 exact Ziy ho hx hy rfl (fun u hu => by simp at hu; subst hu; rfl) hd hS (by rw [ints_length]; exact hfit) (fun w' h' _ => h w' h')
theorem St.cellIP {W : World} {F : Nat → Prop} {rs : List Res} {b off : Nat} {k : IntKind} {L : List Int} {r : List Value} {T : TypeId} (hS : St W F rs w) [hh : Has rs b (.cells (ints k L ++ r).toArray T (0,0))] (h : off < L.length) : w.cell? ⟨b,off,none⟩ = some (.int k (L.getD off 0)) := by
 rw [cell_of_row w b off _ T (0,0) hS.has]
 have := ints_get (k := k) h
 simp only [List.getElem?_toArray]
 rw [List.getElem?_append_left (by rw [ints_length]; exact h)]
 exact this
theorem X_storeIP {N : Nat} {ds : Md} {K : Env → World → Prop} {b off : Nat} {k : IntKind} {n : Int} {L : List Int} {r : List Value} {T : TypeId} {W : World} {F : Nat → Prop} {rs rs' : List Res} (ho : o.op = .store t x y) (hx : ev σ x = some (.pointer (some ⟨b,off,none⟩))) (hy : ev σ y = some (.int k n)) [hs : Siz P t 1]
  (hd : o.dst = none) (hS : St W F rs w) [hh : Has rs b (.cells (ints k L ++ r).toArray T (0,0))] (hfit : off < L.length) [hu : Upd rs b (.cells (ints k (L.set off n) ++ r).toArray T (0,0)) rs']
  (h : ∀ w',St W F rs' w' → K σ w') : X P o N ds σ w K := by
 have e : Zby (ints k L ++ r) off [.int k n] = ints k (L.set off n) ++ r := by
  rw [Zf9 (by rw [ints_length]; exact hfit),← Zsp,Zk0 _ _ _ (by rw [ints_length]; exact hfit)]
  simp [Zby]
 have hu' : Upd rs b (.cells (Zby (ints k L ++ r) off [.int k n]).toArray T (0,0)) rs' := by rw [e]; exact hu
 exact Ziy ho hx hy rfl (fun u hu => by simp at hu; subst hu; rfl) hd hS (by rw [List.length_append,ints_length]; exact Nat.le_trans hfit (Nat.le_add_right _ _)) (fun w' h' _ => h w' h')
theorem Zrw {N : Nat} {ds : Md} {K : Env → World → Prop} (g : FuncId) {f : Operand} {xs : List Operand} {vs captured : List Value} {ts : Array TypeId} {d : Nat} {R : Value → Prop} (ho : o.op = .call { callee := .value f,args := xs.toArray,argTypes := ts }) (hf : ev σ f = some (.func (.func g) #[] captured.toArray)) (hv : evs σ xs = some vs) [hg : Fun P g]
  (hd : o.dst = some d) (hN : Nat.blt d N = true) (hc : Calls P g (vs ++ captured).toArray w (Ret fun v w' => R v ∧ w = w')) (h : ∀ v,R v → K ((d,v) :: σ) w) : X P o N ds σ w K :=
 Zj9 (first := []) (captured := captured) ho hf hv hd hN (by simpa using hc) (by
  intro v w' h'
  obtain ⟨hR,e⟩ := h'
  subst e
  exact h v hR)
theorem Zhc {b off n : Nat} {l cs : List Value} {T : TypeId} (hs : (l.drop off).take n = cs) : ∀ h,pts b (.cells l.toArray T (0,0)) h → row (some ⟨b,off,none⟩) cs h := fun _ hg => .inr ⟨b,off,l.toArray,T,(0,0),rfl,hg,fun j v hv => by
 subst hs
 rw [List.getElem?_take] at hv
 split at hv
 ·rw [List.getElem?_drop] at hv
  simpa using hv
 ·cases hv⟩
theorem Rd.cellI {b o i : Nat} {k : IntKind} {L : List Int} (H : Rd w (row (some ⟨b,o,none⟩) (ints k L))) (h : i < L.length) : w.cell? ⟨b,o + i,none⟩ = some (.int k (L.getD i 0)) := H.cells i _ (ints_get h)
theorem Rd.cell {a : Option Addr} {cs : List Value} {i : Nat} {v : Value} (H : Rd w (row a cs)) (hi : cs[i]? = some v) : w.cell? (adr a i) = some v := H.cells i v hi
end
end Cr
namespace Cr
open Go Go.Proofs
set_option maxRecDepth 100000
set_option maxHeartbeats 4000000

def spin (x : Int) (n : Nat) : Int := ior .u32 (ishr .u32 x n) (ishl .u32 x (32 - n))
theorem spin_ (x : Int) (n : Nat) (W : World) (h : n ≤ 32) : Calls Tryz.prog 152 #[.int .u32 x,.int .i64 n] W (Ret fun v w => v = .int .u32 (spin x n) ∧ St W noF [] w) := by
 have hS := St.start W
 refine Zas Tryz.func152 rfl Tryz.ntmps152 rfl ?_
 repeat (first|(refine G_id ?_;first|refine Zah ?_|refine Zab rfl rfl ?_)|(refine X_id ?_;first|refine X_yl (Zac rfl rfl) rfl rfl ?_)|(refine C_id ?_;first|refine Zak ?_|refine Zaa ?_)|(refine E_id ?_;first|refine Zae ?_))
 refine Zci (.s 0 (.s 1 (.s 2 (.s 3 (.s 4 (.s 5 (.s 6 (.s 7 (.s 8 .nil))))))))) mixed (by kernel_rfl) rfl ?_
 have hS := hS.drew
 repeat (first|(refine C_id ?_;first|refine Za2 ?_)|(refine E_id ?_;first|refine Zae ?_|refine Zax rfl (Zap rfl) (Ret.mk ?_))|(refine Zbj ?_;first|refine Zbw ?_|refine Zag rfl rfl (fun _ => Zad rfl rfl) rfl rfl ?_|refine Zag rfl rfl (fun _ => Zac rfl rfl) rfl rfl ?_|refine Zag rfl rfl (fun _ => Zdn rfl rfl rfl (w64 (by omega) (by omega))) rfl rfl ?_|refine Zag rfl rfl (fun _ => Yl_or rfl rfl rfl) rfl rfl ?_|refine Zag rfl rfl (fun _ => Zj6 rfl rfl rfl (by omega)) rfl rfl ?_|refine Zag rfl rfl (fun _ => Yl_shl rfl rfl rfl (by omega)) rfl rfl ?_))
 refine ⟨?_,hS⟩
 unfold spin
 congr 3
 omega
theorem at_ (k i : Int) (b bi : Nat) (W : World) (hk : 0 ≤ k) (hk' : k < 8) (hi : 0 ≤ i) (hi' : i < 64) (hbi : Ro W noF (pts bi (.cells #[.int .i64 i] 3))) :
  Calls Tryz.prog 151 #[.int .i64 k,.pointer (some ⟨b,0,none⟩),.pointer (some ⟨bi,0,none⟩)] W (Ret fun v w => v = .pointer (some ⟨b,((k - i) % 8).toNat,none⟩) ∧ W = w) := by
 have hS := St.start W
 have hbi := (hbi.rd hS).pts
 refine Zas Tryz.func151 rfl Tryz.ntmps151 rfl ?_
 repeat (first|(refine G_id ?_;first|refine Zah ?_|refine Zab rfl rfl ?_)|(refine X_id ?_;first|refine X_yl (Zad rfl rfl) rfl rfl ?_|refine X_yl (Zac rfl rfl) rfl rfl ?_|refine X_yl (Zdn rfl rfl rfl (w64 (by omega) (by omega))) rfl rfl ?_|refine X_yl (Yl_and rfl rfl rfl) rfl rfl ?_|refine X_yl (Zao rfl rfl (Zal (by assumption))) rfl rfl ?_)|(refine C_id ?_;first|refine Zak ?_|refine Zaa ?_)|(refine E_id ?_;first|refine Zae ?_))
 rw [iand_7]
 repeat (first|(refine G_id ?_;first|refine Zah ?_|refine Zab rfl rfl ?_)|(refine X_id ?_;first|refine X_yl (Zac rfl rfl) rfl rfl ?_|refine X_yl (Zbx rfl rfl rfl (by omega) (by omega)) rfl rfl ?_)|(refine C_id ?_;first|refine Za2 ?_)|(refine E_id ?_;first|refine Zae ?_|refine Zax rfl (Zap rfl) (Ret.mk ?_)))
 exact ⟨by simp,rfl⟩

/-! ### spread -/
def u32 (x : Int) : Int := IntKind.u32.wrap x
def Zs6 (b : List UInt8) (i : Nat) : Int := u32 (b.getD i 0).toNat
def word (b : List UInt8) (i : Nat) : Int := ior .u32 (ior .u32 (ior .u32 (ishl .u32 (Zs6 b (4 * i)) 24) (ishl .u32 (Zs6 b (4 * i + 1)) 16)) (ishl .u32 (Zs6 b (4 * i + 2)) 8)) (Zs6 b (4 * i + 3))
def sig (a : Int) (p q r : Nat) : Int := ixor .u32 (ixor .u32 (spin a p) (spin a q)) (ishr .u32 a r)
def later (L : List Int) (i : Nat) : Int := u32 (u32 (u32 (L.getD (i - 16) 0 + sig (L.getD (i - 15) 0) 7 18 3) + L.getD (i - 7) 0) + sig (L.getD (i - 2) 0) 17 19 10)
def Zcm (b : List UInt8) : Nat → List Int
 | 0 => List.replicate 64 0
 | i + 1 => (Zcm b i).set i (if i < 16 then word b i else later (Zcm b i) i)
theorem Zd4 (b : List UInt8) : ∀ i,(Zcm b i).length = 64
 | 0 => by simp [Zcm]
 | i + 1 => by simp [Zcm,Zd4 b i]
theorem spread_ (a : Option Addr) (c : Nat) (b : List UInt8) (W : World) (hb : Rd W (bytes a b)) (h64 : b.length = 64) (hc : 64 ≤ c) :
  Calls Tryz.prog 150 #[.slice a 64 c] W (Ret fun v w => v = .agg (ints .u32 (Zcm b 64)).toArray ∧ St W noF [] w) := by
 have hS := St.start W
 have hbo := hb.ro
 obtain ⟨ab,ao,rfl⟩ := hb.base (by intro e; have := Za4 b; rw [e] at this; simp at this; omega)
 refine Zas Tryz.func150 rfl Tryz.ntmps150 rfl ?_
 repeat (first|(refine G_id ?_;first|refine Zah ?_|refine Zab rfl rfl ?_)|(refine X_id ?_;first|refine X_yl (Zad rfl rfl) rfl rfl ?_|refine Zbe rfl rfl rfl hS (fun _ _ hS _ => ?_))|(refine C_id ?_;first|refine Zak ?_|refine Zaa ?_|refine Zaq ?_)|(refine E_id ?_;first|refine Zae ?_))
 rename_i b2 _ _ _ b3 _ _
 rw [ints_rep] at hS
 refine Zb7 (α := Nat) (fun i => [(0,.slice (some ⟨ab,ao,none⟩) 64 c),(2,.pointer (some ⟨b2,0,none⟩)),(3,.pointer (some ⟨b3,0,none⟩)),(8,.int .i64 (i : Nat))])
  (fun i w => i ≤ 64 ∧ St W noF [pts b3 (.cells (ints .u32 (Zcm b i)).toArray 278),pts b2 (.cells (List.replicate 64 (.int .u32 0)).toArray 278)] w) (fun i => 64 - i) 0 ⟨rfl,rfl,rfl,rfl,trivial⟩ ⟨Nat.zero_le _,hS⟩ ?_
 clear hS
 rintro i w ⟨hi,hS⟩
 obtain ⟨L,hLe⟩ : ∃ L,L = Zcm b i := ⟨_,rfl⟩
 have hL : L.length = 64 := by rw [hLe]; exact Zd4 b i
 rw [← hLe] at hS
 by_cases h16 : i < 16
 ·repeat (first|(refine G_id ?_;first|refine Zah ?_|refine Zab rfl rfl ?_)|(refine X_id ?_;first|refine X_yl (Zad rfl rfl) rfl rfl ?_|refine X_yl (Zac rfl rfl) rfl rfl ?_|refine X_yl (Za3 rfl rfl rfl (by omega)) rfl rfl ?_|refine X_yl (Zbk rfl rfl rfl (w64 (by omega) (by omega))) rfl rfl ?_|refine X_yl (Zfi rfl rfl rfl (w64 (by omega) (by omega))) rfl rfl ?_)|(refine C_id ?_;first|refine Zak ?_|refine Zaa ?_|refine Zaq ?_|refine Zaw ?_|refine Zam rfl ?_)|(refine E_id ?_;first|refine Zae ?_))
  refine X_yl (Zcw (l := 4 * i) (h := 4 * i + 4) rfl rfl rfl rfl (.inr ⟨_,_,rfl,by omega,by omega,by omega⟩) (.inr ⟨_,_,rfl,by omega,by omega,by omega⟩)) rfl rfl ?_
  rw [show sub (some ⟨ab,ao,none⟩) (4 * i) 1 c = some ⟨ab,ao + 4 * i,none⟩ by unfold sub; rw [if_neg (by omega)]; simp [Zcn],show 4 * i + 4 - 4 * i = 4 by omega]
  repeat (first|(refine G_id ?_;first|refine Zah ?_|refine Zab rfl rfl ?_)|(refine X_id ?_;first|refine X_yl (Zac rfl rfl) rfl rfl ?_)|(refine C_id ?_;first|refine Zak ?_)|(refine E_id ?_;first|refine Zae ?_))
  refine Zci (.s 0 (.s 1 (.s 2 (.s 3 (.s 4 (.s 5 (.s 6 (.s 7 (.s 8 (.s 9 (.s 10 (.s 11 (.s 12 (.s 13 (.s 14 (.s 15 (.s 16 (.s 17 (.s 18 (.s 19 (.s 20 (.s 21 (.s 22 (.s 23 (.h 24 .nil .no))))))))))))))))))))))))) mixed (by kernel_rfl) rfl ?_
  have hS := hS.drew
  have hcell : ∀ j,j < 4 → _root_.Go.World.cell? _ ⟨ab,ao + 4 * i + j,none⟩ = some (.int .u8 ((b.getD (4 * i + j) 0).toNat : Nat)) := fun j hj => by
   have := (hbo.rd hS).cell (i := 4 * i + j) (v := .int .u8 ((b.getD (4 * i + j) 0).toNat : Nat)) (by simp [bv,List.getD_eq_getElem?_getD,show 4 * i + j < b.length by omega])
   simpa [adr,Nat.add_assoc] using this
  have q0 := hcell 0 (by omega)
  have q1 := hcell 1 (by omega)
  have q2 := hcell 2 (by omega)
  have q3 := hcell 3 (by omega)
  repeat (first|(refine G_id ?_;first|refine Zah ?_|refine Zab rfl rfl ?_)|(refine X_id ?_;first|refine X_yl (Zad rfl rfl) rfl rfl ?_|refine X_yl (Zbk rfl rfl rfl (w64 (by omega) (by omega))) rfl rfl ?_|refine Zkt rfl rfl rfl rfl hS (by omega) (fun _ hS => ?_))|(refine C_id ?_;first|refine Zaa ?_|refine Zb0 ?_)|(refine E_id ?_;first|refine Zae ?_|refine Zav ?_|refine Zaz ?_)|(refine Zbj ?_;first|refine Zbw ?_|refine Zag rfl rfl (fun _ => Zad rfl rfl) rfl rfl ?_|refine Zag rfl rfl (fun _ => Zbx rfl rfl rfl (by omega) (by omega)) rfl rfl ?_|refine Zag rfl rfl (fun _ => Zau rfl rfl rfl (by omega) (by omega) (by first|assumption|exact ⟨_,_,rfl⟩)) rfl rfl ?_|refine Zag rfl rfl (fun _ => Zd2 rfl rfl rfl) rfl rfl ?_|refine Zag rfl rfl (fun _ => Yl_or rfl rfl rfl) rfl rfl ?_|refine Zag rfl rfl (fun _ => Yl_shl rfl rfl rfl (by omega)) rfl rfl ?_|refine Zbi (fun w' => w'.cell? _ = some _) rfl rfl (by assumption) (fun _ hc => Zao rfl rfl hc) rfl rfl ?_|refine Za8 rfl rfl ?_)|(refine Za5 ?_;first|refine And.intro (by repeat (first|exact trivial|refine And.intro (.inl (by decide +kernel)) ?_|refine And.intro (.inr (by first|assumption|exact hS.cell|exact Zal (by assumption)|exact hS.cellI (by omega)|exact hS.cellIP (by omega)|exact hS.cellsN|exact hS.cellB (by omega)|exact hS.cellBA (by omega)|exact (hb.rd hS).cellB' (by omega)|exact hS.cellO 0 (by omega)|exact hS.cellO 1 (by omega)|exact hS.cellIA (by omega)|exact Zal (hc.rd hS).pts|exact hb.rd hS|exact hS.cellO 4 (by omega)|exact hS.cellO 5 (by omega)|exact hS.cellO 6 (by omega)|exact hS.cellO 7 (by omega)|exact hS.cellO 8 (by omega)|exact hS.cellO 9 (by omega)|exact hS.cellO 10 (by omega)|exact hS.cellO 11 (by omega)|exact hS.cellO 12 (by omega)|exact hS.cellO 13 (by omega)|exact hS.cellO 2 (by omega)|exact hS.cellO 3 (by omega))) ?_)) ?_))
  refine Zbu (i + 1) ⟨rfl,rfl,rfl,rfl,trivial⟩ ⟨by omega,?_⟩ (by omega)
  rw [show 0 + (i : Int).toNat * 1 = i by omega,hLe] at hS
  simp only [Zcm,if_pos h16]
  exact hS
 ·by_cases h64 : i < 64
  ·repeat (first|(refine G_id ?_;first|refine Zah ?_|refine Zab rfl rfl ?_)|(refine X_id ?_;first|refine X_yl (Zad rfl rfl) rfl rfl ?_|refine X_yl (Zac rfl rfl) rfl rfl ?_|refine X_yl (Za3 rfl rfl rfl (by omega)) rfl rfl ?_|refine X_yl (Za7 rfl rfl rfl (by omega)) rfl rfl ?_)|(refine C_id ?_;first|refine Zak ?_|refine Zaa ?_|refine Zaq ?_|refine Zaw ?_|refine Zam rfl ?_|refine Zaj rfl ?_)|(refine E_id ?_;first|refine Zae ?_))
   refine Zci (.s 0 (.s 1 (.s 2 (.s 3 (.s 4 (.s 5 (.s 6 (.s 7 (.s 8 (.s 9 .nil)))))))))) mixed (by kernel_rfl) rfl ?_
   have hS := hS.drew
   repeat (first|(refine E_id ?_;first|refine Zae ?_)|(refine Zbj ?_;first|refine Zbw ?_|refine Zag rfl rfl (fun _ => Zad rfl rfl) rfl rfl ?_|refine Zag rfl rfl (fun _ => Zac rfl rfl) rfl rfl ?_|refine Zag rfl rfl (fun _ => Zbx rfl rfl rfl (by omega) (by omega)) rfl rfl ?_|refine Zag rfl rfl (fun _ => Zdn rfl rfl rfl (w64 (by omega) (by omega))) rfl rfl ?_|refine Zbi (fun w' => w'.cell? _ = some _) rfl rfl (hS.cellI (by omega)) (fun _ hc => Zao rfl rfl hc) rfl rfl ?_))
   refine Zci (.s 0 (.s 1 (.s 2 (.s 3 (.s 4 (.s 5 (.s 7 (.s 10 (.s 11 (.s 14 (.s 15 (.s 16 (.s 17 (.s 19 (.s 21 (.s 24 (.s 25 (.h 6 (.h 8 (.s 9 (.s 12 (.s 13 (.s 18 (.h 20 (.h 22 (.s 23 (.s 26 (.s 27 (.s 28 (.h 29 .nil .no))))) .no) .no))))) .no) .no)))))))))))))))))) mixed (by kernel_rfl) rfl ?_
   have hS := hS.drew
   repeat (first|(refine G_id ?_;first|refine Zah ?_|refine Zab rfl rfl ?_)|(refine X_id ?_;first|(refine Zbm 152 rfl rfl rfl rfl rfl hS (spin_ _ _ _ (by decide)) ?_;rintro _ _ rfl hS)|refine X_yl (Zad rfl rfl) rfl rfl ?_|refine X_yl (Zbk rfl rfl rfl (w64 (by omega) (by omega))) rfl rfl ?_|refine Zkt rfl rfl rfl rfl hS (by omega) (fun _ hS => ?_))|(refine C_id ?_;first|refine Zaa ?_)|(refine E_id ?_;first|refine Zae ?_|refine Zbf ?_)|(refine Zbj ?_;first|refine Zbw ?_|refine Zag rfl rfl (fun _ => Zad rfl rfl) rfl rfl ?_|refine Zag rfl rfl (fun _ => Zbx rfl rfl rfl (by omega) (by omega)) rfl rfl ?_|refine Zag rfl rfl (fun _ => Zdn rfl rfl rfl (w64 (by omega) (by omega))) rfl rfl ?_|refine Zag rfl rfl (fun _ => Zbk rfl rfl rfl rfl) rfl rfl ?_|refine Zag rfl rfl (fun _ => Yl_xor rfl rfl rfl) rfl rfl ?_|refine Zag rfl rfl (fun _ => Zj6 rfl rfl rfl (by omega)) rfl rfl ?_|refine Zbi (fun w' => w'.cell? _ = some _) rfl rfl (hS.cellI (by omega)) (fun _ hc => Zao rfl rfl hc) rfl rfl ?_|refine Za8 rfl rfl ?_)|(refine Za5 ?_;first|refine And.intro (by repeat (first|exact trivial|refine And.intro (.inl (by decide +kernel)) ?_|refine And.intro (.inr (by first|assumption|exact hS.cell|exact Zal (by assumption)|exact hS.cellI (by omega)|exact hS.cellIP (by omega)|exact hS.cellsN|exact hS.cellB (by omega)|exact hS.cellBA (by omega)|exact (hb.rd hS).cellB' (by omega)|exact hS.cellO 0 (by omega)|exact hS.cellO 1 (by omega)|exact hS.cellIA (by omega)|exact Zal (hc.rd hS).pts|exact hb.rd hS|exact hS.cellO 4 (by omega)|exact hS.cellO 5 (by omega)|exact hS.cellO 6 (by omega)|exact hS.cellO 7 (by omega)|exact hS.cellO 8 (by omega)|exact hS.cellO 9 (by omega)|exact hS.cellO 10 (by omega)|exact hS.cellO 11 (by omega)|exact hS.cellO 12 (by omega)|exact hS.cellO 13 (by omega)|exact hS.cellO 2 (by omega)|exact hS.cellO 3 (by omega))) ?_)) ?_))
   refine Zbu (i + 1) ⟨rfl,rfl,rfl,rfl,trivial⟩ ⟨by omega,?_⟩ (by omega)
   rw [show 0 + (i : Int).toNat * 1 = i by omega,show 0 + ((i : Int) - 16).toNat * 1 = i - 16 by omega,show 0 + ((i : Int) - 15).toNat * 1 = i - 15 by omega,show 0 + ((i : Int) - 7).toNat * 1 = i - 7 by omega,show 0 + ((i : Int) - 2).toNat * 1 = i - 2 by omega,hLe] at hS
   simp only [Zcm,if_neg h16]
   exact hS
  ·obtain rfl : i = 64 := by omega
   have hlen : LenIs (ints .u32 L) 64 := ⟨by rw [ints_length]; exact hL⟩
   repeat (first|(refine G_id ?_;first|refine Zah ?_|refine Zab rfl rfl ?_)|(refine X_id ?_;first|refine X_yl (Za7 rfl rfl rfl (by omega)) rfl rfl ?_|refine X_yl (Zbc rfl rfl hS.cellsN) rfl rfl ?_|refine Za1 rfl rfl rfl rfl hS (fun _ hS _ => ?_))|(refine C_id ?_;first|refine Zak ?_|refine Zaa ?_|refine Za2 ?_|refine Zb0 ?_|refine Zaj rfl ?_)|(refine E_id ?_;first|refine Zae ?_|refine Zav ?_|refine Zaz ?_|refine Zax rfl (by first|exact Zap rfl|exact Zay rfl (Zba hS.cell)|exact Zay rfl (Za9 hS.cellsN)) (Ret.mk ?_)))
   exact ⟨by rw [hLe],hS.drops⟩
end Cr
namespace Cr
open Go
theorem Rd.ofCells {w : World} {b : Nat} {l : List Value} (h : ∀ i v,l[i]? = some v → w.cell? ⟨b,i,none⟩ = some v) (hl : l ≠ []) : Rd w (row (some ⟨b,0,none⟩) l) := by
 obtain ⟨v0,hv0⟩ : ∃ v,l[0]? = some v := by
  cases l with
  | nil => exact absurd rfl hl
  | cons x r => exact ⟨x,rfl⟩
 have h0 := h 0 v0 hv0
 unfold World.cell? at h0
 split at h0
 ·rename_i c t fz hb
  refine ⟨Zem b (.cells c t fz),.inr ⟨b,0,c,t,fz,rfl,rfl,fun i v hv => ?_⟩,fun k o e => ?_⟩
  ·have := h i v hv
   rw [cell_of_row w b i c t fz hb] at this
   simpa using this
  ·obtain ⟨rfl,rfl⟩ := Zlh e
   exact hb
 ·cases h0
def roundL : List Int := [1116352408,1899447441,3049323471,3921009573,961987163,1508970993,2453635748,2870763221,3624381080,310598401,607225278,1426881987,1925078388,2162078206,2614888103,3248222580,3835390401,4022224774,264347078,604807628,770255983,1249150122,1555081692,1996064986,2554220882,2821834349,2952996808,3210313671,3336571891,3584528711,113926993,338241895,666307205,773529912,1294757372,1396182291,1695183700,1986661051,2177026350,2456956037,2730485921,2820302411,3259730800,3345764771,3516065817,3600352804,4094571909,275423344,430227734,506948616,659060556,883997877,958139571,1322822218,1537002063,1747873779,1955562222,2024104815,2227730452,2361852424,2428436474,2756734187,3204031479,3329325298]
def firstL : List Int := [1779033703,3144134277,1013904242,2773480762,1359893119,2600822924,528734635,1541459225]
end Cr
namespace Go.Proofs.YteonaddammjopaaGreatDoor
open Go.ChangeShapes Go.WideShapes Go.ChangeAt Go.RowKit
theorem lawOwn : ownKnob Tryz.prog.godebug = none := by kernel_rfl
theorem lawLaid : laidOutB Tryz.prog = true := by kernel_rfl
theorem Zq2 {H : Type} {enc : TypeId × Value → H} {P : Program} {f : Func} {s : ChangeSpec} {apart fresh handsOn again : Bool} {W W' : World} {args : Array Value} {v : Value} {ds gs : List (DataW H)} {before pa pv : List MemPlace}
    (hW : DataW.Whole enc P f.params.toList s.vars apart W args.toList ds gs before)
    (hres : ∀ (b : Nat) (sp : Nat → Bool) (hd : Bool),DataW.TrodAll enc P W' b sp hd f.resultTypes.toList (v.resultList f.resultTypes.size) (s.fn H (ds ++ gs)).results [])
    (hargs : ∀ sp : Nat → Bool,(∀ p ∈ before,sp p.block = true) → DataW.TrodAll enc P W' 0 sp true f.params.toList args.toList (s.fn H (ds ++ gs)).args pa)
    (hvars : ∀ sp : Nat → Bool,(∀ p ∈ before,sp p.block = true) → DataW.TrodVars enc P W' sp s.vars (s.fn H (ds ++ gs)).vars pv)
    (hps : before = pa ++ pv) (hk : W.keptBut W' (· ∈ before)) (hfz : ∀ a : Addr,a.block < W.heap.size → W'.frozen? a = W.frozen? a)
    (hok : ∀ (j : Nat) (t : TypeId) (r : Value),f.resultTypes[j]? = some t → (v.resultList f.resultTypes.size)[j]? = some r → Value.okWide P W' .any 0 t r) :
    s.post enc P f apart fresh handsOn again W args v W' := by
  have hold : ∀ p ∈ before,(fun b => decide (b < W.heap.size)) p.block = true := fun p hp => by simpa using hW.lt p hp
  have hlt : ∀ p ∈ before,p.block < W.heap.size := hW.lt
  refine ⟨ds,gs,before,[],pa,pv,hW,hres _ _ _,hargs _ hold,hvars _ hold,World.keptBut_mono (fun p hp => ⟨hp,?_⟩) hk,fun _ => ?_⟩
  · rw [hps,List.mem_append] at hp
    exact Or.inr hp
  · obtain ⟨_,_,_,_,_,hz,hn⟩ := hW
    refine ⟨hok,_,_,([] ++ pa) ++ pv,⟨[] ++ pa,pv,trodAll_append (hargs _ (fun _ _ => rfl)) (hres _ _ _),hvars _ (fun _ _ => rfl),rfl,?_,?_⟩,?_⟩
    · intro b off hp
      have hp' := hp
      rw [show ([] ++ pa) ++ pv = before by rw [hps]; rfl] at hp'
      rw [hfz _ (hlt _ hp')]
      exact hz b off hp'
    · intro ha
      have := hn ha
      rw [hps] at this
      simpa using this
    · intro p hp _
      rw [hps]
      simpa using hp
theorem Zie {H : Type} {enc : TypeId × Value → H} {P : Program} (hl : laidOutB P = true) {W W' : World} (hb : Below W.heap.size W W') {sp : Nat → Bool} : ∀ {ts : List TypeId} {vs : List Value} {ds : List (DataW H)} {ps : List MemPlace},(∀ t ∈ ts,P.readableRec t = true ∧ t < P.types.size) →
  DataW.TrodAll enc P W 0 (fun _ => true) true ts vs ds ps → (∀ p ∈ ps,p.block < W.heap.size) → (∀ p ∈ ps,sp p.block = true) → DataW.TrodAll enc P W' 0 sp true ts vs ds ps
 | [],[],[],_,_,h,_,_ => h
 | _ :: _,_ :: _,_ :: _,_,hT,⟨p,q,h1,h2,e⟩,hlt,hs => ⟨p,q,
   WideElems.Trod_stays hl (hT _ (List.mem_cons_self ..)).1 (hT _ (List.mem_cons_self ..)).2 h1 (fun x hx => hb.same (hlt x (by rw [e]; exact List.mem_append_left _ hx))) (fun x hx => hs x (by rw [e]; exact List.mem_append_left _ hx)),
   Zie hl hb (fun t ht => hT t (List.mem_cons_of_mem _ ht)) h2 (fun x hx => hlt x (by rw [e]; exact List.mem_append_right _ hx)) (fun x hx => hs x (by rw [e]; exact List.mem_append_right _ hx)),e⟩
def tabOf (l : List Value) : Obj → Obj
 | .cells _ t frozen => .cells l.toArray t frozen
 | o => o
end Go.Proofs.YteonaddammjopaaGreatDoor
namespace Cr
open Go
/-! parts of known length -/
class LenO (l : List Value) (n : outParam Nat) : Prop where
 len : l.length = n
instance : LenO [] 0 := ⟨rfl⟩
instance (v : Value) (l : List Value) (n : Nat) [h : LenO l n] : LenO (v :: l) (n + 1) := ⟨by simp [h.len]⟩
instance (l m : List Value) (n k : Nat) [h : LenO l n] [h' : LenO m k] : LenO (l ++ m) (n + k) := ⟨by simp [h.len,h'.len]⟩
instance (n : Nat) (v : Value) : LenO (List.replicate n v) n := ⟨by simp⟩
instance (n : Nat) : LenO (bv (List.replicate n 0)) n := ⟨by simp⟩
instance (l : List Value) (n : Nat) [h : LenO l n] : LenIs l n := ⟨h.len⟩
class SubO (k n : Nat) (j : outParam Nat) : Prop where
 eq : n = j + k
instance (n : Nat) : SubO 0 n n := ⟨rfl⟩
instance (k n j : Nat) [h : SubO k n j] : SubO (k + 1) (n + 1) j := ⟨by rw [h.eq]; omega⟩
instance nth_part (l m : List Value) (n k j : Nat) (v : Value) [hl : LenO l k] [hs : SubO k n j] [h : Nth m j v] : Nth (l ++ m) n v := ⟨by
 have := hl.len
 rw [hs.eq,List.getElem?_append_right (by omega),show j + k - l.length = j by omega]
 exact h.nth⟩
instance spl_part (l m vs m' : List Value) (n k j : Nat) [hl : LenO l k] [hs : SubO k n j] [h : Spl m j vs m'] : Spl (l ++ m) n vs (l ++ m') := ⟨by
 have e := hl.len
 have := h.spl
 rw [hs.eq]
 refine ⟨by simp; omega,?_⟩
 rw [← this.2,show j + k = l.length + j by omega,List.take_length_add_append,show l.length + j + vs.length = l.length + (j + vs.length) by omega,List.drop_length_add_append]
 simp⟩
instance spl_front (l m vs : List Value) (k : Nat) [hl : LenO l k] [hv : LenO vs k] : Spl (l ++ m) 0 vs (vs ++ m) := ⟨by
 have e := hl.len
 have e' := hv.len
 refine ⟨by simp; omega,?_⟩
 simp [show vs.length = l.length by omega]⟩
theorem Zto {l m vs : List Value} {k n : Nat} (h : l.length = k) : Zby (l ++ m) (k + n) vs = l ++ Zby m n vs := by
 subst h
 unfold Zby
 rw [List.take_length_add_append,Nat.add_assoc,List.drop_length_add_append]
 simp
theorem Zmx {l vs : List Value} (h : l.length = vs.length) : Zby l 0 vs = vs := by
 unfold Zby; simp [← h]
/-! bytes -/
def b8 (x : Int) : UInt8 := UInt8.ofNat (x % 256).toNat
theorem b8_nat (x : Int) : ((b8 x).toNat : Int) = x % 256 := by
 have h : (x % 256).toNat < 256 := by omega
 unfold b8
 simp only [UInt8.toNat_ofNat']
 omega
theorem u8_wrap (x : Int) : IntKind.u8.wrap x = ((b8 x).toNat : Int) := by
 rw [b8_nat]
 simp [IntKind.wrap,IntKind.bits,IntKind.signed]
theorem bv_set {R : List UInt8} {i : Nat} {c : UInt8} : (bv R).set i (.int .u8 (c.toNat : Int)) = bv (R.set i c) := by simp [bv,List.map_set]
theorem bv_getD {l : List UInt8} {i : Nat} (h : i < l.length) : (bv l)[i]? = some (.int .u8 ((l.getD i 0).toNat : Int)) := by
 rw [bv_get h]; simp [List.getD_eq_getElem?_getD,h]
theorem Zg5 (n : Nat) : List.replicate n (Value.int .u8 0) = bv (List.replicate n 0) := by simp [bv]
instance lenO_bvset (R : List UInt8) (i : Nat) (c : UInt8) (n : Nat) [h : LenO (bv R) n] : LenO (bv (R.set i c)) n := ⟨by have := h.len; simpa using this⟩
section
variable {P : Program} {o : Oper} {σ : Env} {w : World} {x y : Operand} {t ty : TypeId} {k k' : IntKind} {a b : Int}
theorem Zmf (ho : o.op = .binOp .quo t x y ty) (hx : ev σ x = some (.int .i64 a)) (hy : ev σ y = some (.int .i64 b)) (h0 : 0 ≤ a) (h1 : a ≤ 9223372036854775807) (hb : 0 < b) : Yl P o σ w (.int .i64 (a / b)) :=
 Yl_quo ho hx hy (by omega) (by
  rw [Int.tdiv_eq_ediv_of_nonneg h0]
  have h2 := Int.ediv_nonneg h0 (Int.le_of_lt hb)
  have h3 := Int.ediv_le_self b h0
  exact w64 (by omega) (by omega))
theorem Zd8 (ho : o.op = .binOp .rem t x y ty) (hx : ev σ x = some (.int k a)) (hy : ev σ y = some (.int k b)) (h0 : 0 ≤ a) (hb : 0 < b) : Yl P o σ w (.int k (a % b)) :=
 Yl_rem ho hx hy (by omega) (Int.tmod_eq_emod_of_nonneg h0)
theorem Zf5 {src dst : TypeId} {i : Int} (ho : o.op = .convert src dst x) (hx : ev σ x = some (.int k i)) {d : TypeDesc} [hs : Und P src d] [hd : Und P dst (.int .u8)] : Yl P o σ w (.int .u8 ((b8 i).toNat : Int)) :=
 Zd2 (hs := hs) ho hx (u8_wrap i)
theorem Rd.cellX {a : Option Addr} {cs : List Value} {i' i : Nat} {v : Value} (H : Rd w (row a cs)) (hi : i' = i) (h : cs[i]? = some v) : w.cell? (adr a i') = some v := by subst hi; exact H.cells _ _ h
theorem X_setG {N : Nat} {ds : Md} {K : Env → World → Prop} {b off : Nat} {v : Value} {l l' : List Value} {T : TypeId} {W : World} {F : Nat → Prop} {rs rs' : List Res} (ho : o.op = .store t x y) (hx : ev σ x = some (.pointer (some ⟨b,off,none⟩))) (hy : ev σ y = some v) [hv : Cell1 v] [hc : CellsOf v [v]] [hs : Siz P t 1]
  (hd : o.dst = none) (hS : St W F rs w) [hh : Has rs b (.cells l.toArray T (0,0))] (hfit : off < l.length) (hl : l.set off v = l') [hu : Upd rs b (.cells l'.toArray T (0,0)) rs']
  (h : ∀ w',St W F rs' w' → K σ w') : X P o N ds σ w K := by
 have e : Zby l off [v] = l' := by
  rw [← hl,Zk0 _ _ _ hfit]
  simp [Zby]
 have hu' : Upd rs b (.cells (Zby l off [v]).toArray T (0,0)) rs' := by rw [e]; exact hu
 exact Ziy (vs := [v]) ho hx hy rfl (fun u hu => by simp at hu; subst hu; exact hv.one) hd hS hfit (fun w' h' _ => h w' h')
theorem Zou {N : Nat} {ds : Md} {K : Env → World → Prop} {b off : Nat} {c : UInt8} {L : List UInt8} {T : TypeId} {W : World} {F : Nat → Prop} {rs rs' : List Res} (ho : o.op = .store t x y) (hx : ev σ x = some (.pointer (some ⟨b,off,none⟩))) (hy : ev σ y = some (.int .u8 (c.toNat : Int))) [hs : Siz P t 1]
  (hd : o.dst = none) (hS : St W F rs w) [hh : Has rs b (.cells (bv L).toArray T (0,0))] (hfit : off < L.length) [hu : Upd rs b (.cells (bv (L.set off c)).toArray T (0,0)) rs']
  (h : ∀ w',St W F rs' w' → K σ w') : X P o N ds σ w K := X_setG (l := bv L) ho hx hy hd hS (by simpa using hfit) bv_set h
theorem Rd.cellB {a : Option Addr} {s : List UInt8} {i : Nat} (H : Rd w (bytes a s)) (h : i < s.length) : w.cell? (adr a i) = some (.int .u8 ((s.getD i 0).toNat : Int)) := H.cells i _ (bv_getD h)
theorem Rd.cellB' {b o i : Nat} {s : List UInt8} (H : Rd w (bytes (some ⟨b,o,none⟩) s)) (h : i < s.length) : w.cell? ⟨b,o + i,none⟩ = some (.int .u8 ((s.getD i 0).toNat : Int)) := H.cellB h
theorem Zix {N : Nat} {ds : Md} {K : Env → World → Prop} {b off k i : Nat} {c : UInt8} {l r : List Value} {L : List UInt8} {T : TypeId} {W : World} {F : Nat → Prop} {rs rs' : List Res} (ho : o.op = .store t x y) (hx : ev σ x = some (.pointer (some ⟨b,off,none⟩))) (hy : ev σ y = some (.int .u8 (c.toNat : Int))) [hs : Siz P t 1]
  (hd : o.dst = none) (hS : St W F rs w) [hh : Has rs b (.cells (l ++ (bv L ++ r)).toArray T (0,0))] (hoff : off = k + i) [hl : LenO l k] (hfit : i < L.length) [hu : Upd rs b (.cells (l ++ (bv (L.set i c) ++ r)).toArray T (0,0)) rs']
  (h : ∀ w',St W F rs' w' → K σ w') : X P o N ds σ w K := by
 have e := hl.len
 subst hoff
 refine X_setG (l := l ++ (bv L ++ r)) (l' := l ++ (bv (L.set i c) ++ r)) ho hx hy hd hS (by simp; omega) ?_ h
 rw [List.set_append_right _ _ (by omega),show k + i - l.length = i by omega,List.set_append_left _ _ (by simpa using hfit),bv_set]
theorem Zct {N : Nat} {ds : Md} {K : Env → World → Prop} {b m : Nat} {v : Value} {l vs : List Value} {T : TypeId} {W : World} {F : Nat → Prop} {rs rs' : List Res} (ho : o.op = .store t x y) (hx : ev σ x = some (.pointer (some ⟨b,0,none⟩))) (hy : ev σ y = some v) [hv : CellsOf v vs] [hs : Siz P t m] [h1 : Ones vs]
  (hd : o.dst = none) (hS : St W F rs w) [hh : Has rs b (.cells l.toArray T (0,0))] [hm : LenO vs m] [hl : LenO l m] [hu : Upd rs b (.cells vs.toArray T (0,0)) rs']
  (h : ∀ w',St W F rs' w' → K σ w') : X P o N ds σ w K := by
 have e : Zby l 0 vs = vs := Zmx (by rw [hm.len,hl.len])
 have hu' : Upd rs b (.cells (Zby l 0 vs).toArray T (0,0)) rs' := by rw [e]; exact hu
 exact Ziy ho hx hy hm.len h1.ones hd hS (by rw [hm.len,hl.len]; omega) (fun w' h' _ => h w' h')
end
end Cr
namespace Cr
open Go
theorem St.wide {W : World} {F : Nat → Prop} {rs : List Res} {w : World} (hS : St W noF rs w) : St W F rs w := by
 obtain ⟨h,hs,s⟩ := hS
 exact ⟨h,hs,s.agrees,fun b o e => (s.foot b o e).imp (fun h => h.elim) id,s.size,s.os,s.tape,s.output,fun b h1 _ => s.kept b h1 (fun h => h)⟩
theorem St.plus {W : World} {F : Nat → Prop} {rs rs' rs'' : List Res} {w w' : World} (hS : St W F rs w) (h' : St w noF rs' w') [ha : AppR rs' rs rs''] : St W F rs'' w' := by
 obtain ⟨_,_,_,_,hbk⟩ := hS.call []
 exact hbk (h'.wide)
end Cr
namespace Cr
open Go
set_option maxRecDepth 10000
def str (s : List UInt8) : ByteArray := ⟨s.toArray⟩
section
variable {P : Program} {o : Oper} {σ : Env} {w : World} {x y : Operand} {t ty e : TypeId} {N : Nat} {ds : Md} {K : Env → World → Prop}
theorem fold_push (s : List UInt8) : ∀ acc : ByteArray,(s.map fun b => (b.toNat : Int)).foldl (fun r n => r.push (UInt8.ofNat n.toNat)) acc = ⟨acc.data ++ s.toArray⟩ := by
 induction s with
 | nil => intro acc; simp
 | cons c s ih =>
  intro acc
  rw [List.map_cons,List.foldl_cons,ih]
  congr 1
  have : UInt8.ofNat ((c.toNat : Int)).toNat = c := by simp
  rw [this]
  simp [ByteArray.push]
theorem Zpb {a : Option Addr} {s : List UInt8} {n c : Nat} (h : Rd w (bytes a s)) (hn : s.length = n) : (Conv.bytesToString (.slice a n c)).run P w = .ok (.string (str s)) w := by
 cases a with
 | none =>
  have : bv s = [] := h.none_nil
  have hs : s = [] := by cases s with
   | nil => rfl
   | cons => simp [bv] at this
  subst hs
  rfl
 | some ad =>
  have hf := Zb5 (P := P) (size := 1) (m := n) (c := c) h (by simp [hn])
  simp only [Builtin.firstCells,Nat.mul_one] at hf
  rw [run_bytesToString w ad n c (s.map fun b => (b.toNat : Int)) (by rw [hf,List.map_map]; rfl),fold_push]
  simp [str]
theorem Zia {src dst : TypeId} {a : Option Addr} {s : List UInt8} {n c : Nat} (ho : o.op = .convert src dst x) (hx : ev σ x = some (.slice a n c)) [hs : Und P src (.slice e)] [he : Und P e (.int .u8)] [hd : Und P dst .string] (h : Rd w (bytes a s)) (hn : s.length = n) : Yl P o σ w (.string (str s)) := ⟨fun N ds f ha => by
 have := Zpb (P := P) (c := c) h hn
 simp only [execOp,ho,ha.eval hx,convert,Sem.run_bind,run_underlying hs.und,run_underlying hd.und,run_underlying he.und,Result.andThen_ok,this]
 rfl⟩
theorem Zha (s : List UInt8) : (str s).toList = s := ByteArray.toList_mk s
theorem Zqh {a b : List UInt8} (ho : o.op = .binOp .eql t x y ty) (hx : ev σ x = some (.string (str a))) (hy : ev σ y = some (.string (str b))) : Yl P o σ w (.bool (decide (a = b))) := ⟨fun N ds f ha => by
 simp only [execOp,ho,ha.eval hx,ha.eval hy,binOp,eqGuard,Op.stringOp,Zha]
 have : (a == b) = decide (a = b) := by by_cases h : a = b <;> simp [h]
 rw [this]; rfl⟩
theorem Yl_neqStr {a b : List UInt8} (ho : o.op = .binOp .neq t x y ty) (hx : ev σ x = some (.string (str a))) (hy : ev σ y = some (.string (str b))) : Yl P o σ w (.bool (decide (¬ a = b))) := ⟨fun N ds f ha => by
 simp only [execOp,ho,ha.eval hx,ha.eval hy,binOp,eqGuard,Op.stringOp,Zha]
 have : (!(a == b)) = decide (¬ a = b) := by by_cases h : a = b <;> simp [h]
 rw [this]; rfl⟩
theorem Zqo {sT T : TypeId} {g off n c m c2 d : Nat} {a : Option Addr} {l news : List Value} {W : World} {F : Nat → Prop} {rs rs' : List Res} {z : Value} {bytes : Nat} {TT : TypeId} (ho : o.op = .call { callee := .builtin .copy,args := #[x,y],argTypes := #[t,sT] }) (hx : ev σ x = some (.slice (some ⟨g,off,none⟩) n c)) (hy : ev σ y = some (.slice a m c2))
  [h : Und P t (.slice T)] [hi : Inf P T z 1 bytes] (hd : o.dst = some d) (hN : Nat.blt d N = true) (hS : St W F rs w) [hh : Has rs g (.cells l.toArray TT (0,0))] (hnews : Rd w (row a news)) (hl : news.length = m) (h1 : ∀ u ∈ news,u.oneCell' = true) (hfit : off + n ≤ l.length)
  [hu : Upd rs g (.cells (Zby l off (news.take n)).toArray TT (0,0)) rs'] (hk : ∀ w',St W F rs' w' → K ((d,.int .i64 ((min m n : Nat) : Int)) :: σ) w') : X P o N ds σ w K := ⟨fun f ha K' Q' hK => by
 have hb := hS.has (b := g) (o := .cells l.toArray TT (0,0))
 obtain ⟨i,hi',hz',hsz,hby⟩ := info_parts hi.inf
 have hmin : (news.take n).length = Nat.min m n := by simp [hl]; exact Nat.min_comm _ _
 have hfc : (Builtin.firstCells 1 (Nat.min m n) (.slice a m c2)).run P w = .ok (news.take n).toArray w := by
  have h2 : Rd w (row a (news.take n)) := hnews.mono fun h hr => by
   rcases hr with ⟨rfl,h0⟩ | ⟨b,o',cells,T',fz,hb',rfl,hc⟩
   ·exact ⟨h,.inl ⟨by simp,h0⟩,fun _ _ e => e⟩
   ·refine ⟨_,.inr ⟨b,o',cells,T',fz,hb',rfl,fun j v hv => ?_⟩,fun _ _ e => e⟩
    rw [List.getElem?_take] at hv
    split at hv
    ·exact hc j v hv
    ·cases hv
  have := Zb5 (P := P) (size := 1) (m := Nat.min m n) (c := c2) h2 (by omega)
  cases a <;> exact this
 have h1' : ∀ v ∈ news.take n,v.oneCell' = true := fun v hv => h1 v (List.mem_of_mem_take hv)
 have hst := run_storeCells_at P g off TT (news.take n) 0 l.toArray w hb (by simp; omega) h1'
 simp only [Nat.add_zero] at hst
 have hexec : (execOp f.eval o).run P w = .ok (.value (.int .i64 ((Nat.min m n : Nat) : Int))) (w.setRow g (Zby l off (news.take n)).toArray) := by
  simp only [execOp,ho,resolve,invoke,builtin,ha.eval hx,ha.eval hy,Builtin.copy_,Sem.run_bind,Sem.run_pure,Result.andThen_ok,List.map_toArray,List.map_cons,List.map_nil]
  simp [run_underlying h.und,Builtin.lenOf,Go.sizeOf,typeInfo,hi',hsz,hfc,hst,goInt,Zby]
 unfold Oper.wp
 rw [hexec]
 have u := Zcp hb (Zby l off (news.take n)).toArray
 have := hK _ _ _ (ha.put (Zbp hN) (.int .i64 ((Nat.min m n : Nat) : Int))) (hk _ (hS.upd u))
 rw [← hd] at this
 exact this⟩
theorem Zf8 {z : Value} (hz : z.cells = #[z]) (m : Nat) : Builtin.zeroCells z.cells m = (List.replicate m z).toArray := by
 rw [hz]
 apply Array.ext
 ·simp [Builtin.zeroCells]
 ·intro i h1 h2
  have : i % 1 = 0 := by omega
  simp [Builtin.zeroCells,this]
theorem Zqy {T bytes c n m : Nat} {k k' : IntKind} {a : Option Addr} {cs : List Value} {z : Value} {W : World} {F : Nat → Prop} {rest : List Res} (tx : TypeId) [h : Und P t (.slice T)] [hx : Und P tx (.int k')] [hi : Inf P T z 1 bytes] (hzc : z.cells = #[z]) (hz1 : z.oneCell' = true)
  (hS : St W F (own T 1 a c cs :: rest) w) (hcs : cs.length = n) (hnc : n ≤ c) (hfit : (n + m) * bytes ≤ 140737488355328) (hmax : n + m ≤ maxLen) :
  ∃ a' c' w',(Builtin.append_ #[t,tx] ty #[.slice a n c,.int k (m : Nat)]).run P w = .ok (.slice a' (n + m) c') w' ∧ St W F (own T 1 a' c' (cs ++ List.replicate m z) :: rest) w' ∧ n + m ≤ c' ∧ (a' = none ↔ a = none ∧ m = 0) := by
 obtain ⟨i,hi',hz',hsz,hby⟩ := info_parts hi.inf
 subst hby
 obtain ⟨f,⟨f1,f2,ho,hs,hd,hu⟩,s⟩ := hS
 have hlt : ((n + m : Nat) : Int) ≤ 9223372036854775807 := by simp only [maxLen] at hmax; omega
 have hw64 : IntKind.i64.wrap (m : Int) = m := w64 (by omega) (by omega)
 have hm0 : ¬ ((m : Int) < 0) := by omega
 have hmb : ¬ (281474976710656 < (m : Int) * i.bytes) := by
  have h1 : (n + m) * i.bytes = n * i.bytes + m * i.bytes := Nat.add_mul ..
  rw [← Int.natCast_mul]
  generalize m * i.bytes = q at h1 ⊢
  omega
 have hnew : ∀ w : World,(if m = 0 then pure #[] else do pure (Builtin.zeroCells (← zeroValue T).cells m) : Sem (Array Value)).run P w = .ok (List.replicate m z).toArray w := fun w => by
  by_cases h0 : m = 0
  ·subst h0; simp
  ·rw [if_neg h0]
   simp [zeroValue,typeInfo,hi',hz',Zf8 hzc]
 by_cases hroom : n + m ≤ c
 ·have ho' := ho
  obtain ⟨_,hcm,⟨rfl,he⟩ | ⟨b,cells,rfl,hf1,hcz,ht⟩⟩ := ho
  ·obtain rfl : n = 0 := by omega
   obtain rfl : m = 0 := by omega
   obtain rfl : cs = [] := List.eq_nil_of_length_eq_zero hcs
   refine ⟨a,0,w,?_,⟨f,⟨f1,f2,by simpa using ho',hs,hd,hu⟩,s⟩,by omega,by simp⟩
   cases a <;> simp [Builtin.append_,run_underlying h.und,run_underlying hx.und,Go.sizeOf,typeInfo,hi',asInt,asIntOf,storeCells,IntKind.wrap_i64]
  ·have hb : w.heap[b]? = some (.cells cells T (0,0)) := s.agrees b _ (by rw [hu,hf1,Zbz]; rfl)
   have hfit2 : n + (List.replicate m z).length ≤ cells.size := by simp; omega
   have h1 : ∀ u ∈ List.replicate m z,u.oneCell' = true := fun u hu => by rw [List.eq_of_mem_replicate hu]; exact hz1
   have hst := run_storeCells_at P b n T (List.replicate m z) 0 cells w hb (by simpa using hfit2) h1
   simp only [Nat.add_zero] at hst
   have u := Zcp hb (cells.toList.take n ++ List.replicate m z ++ cells.toList.drop (n + (List.replicate m z).length)).toArray
   have hlen : (cells.toList.take n ++ List.replicate m z ++ cells.toList.drop (n + (List.replicate m z).length)).length = c * 1 := by
    simp only [List.length_append,List.length_take,List.length_drop,Array.length_toList,List.length_replicate] at hfit2 ⊢; omega
   refine ⟨some ⟨b,0,none⟩,c,w.setRow b (cells.toList.take n ++ List.replicate m z ++ cells.toList.drop (n + (List.replicate m z).length)).toArray,?_,?_,hroom,by simp⟩
   ·have hst2 : (storeCells ⟨b,n,none⟩ (List.replicate m z)).run P w = .ok () (w.setRow b (cells.toList.take n ++ List.replicate m z ++ cells.toList.drop (n + (List.replicate m z).length)).toArray) := hst
    rw [show (Builtin.append_ #[t,tx] ty #[.slice (some ⟨b,0,none⟩) n c,.int k (m : Nat)]).run P w =
     ((if m = 0 then pure #[] else do pure (Builtin.zeroCells (← zeroValue T).cells m) : Sem (Array Value)).run P w).andThen (fun r w' => ((storeCells ⟨b,n,none⟩ r.toList).run P w').andThen fun _ w' => .ok (.slice (some ⟨b,0,none⟩) (n + m) c) w') by
      simp [Builtin.append_,run_underlying h.und,run_underlying hx.und,Go.sizeOf,typeInfo,hi',hw64,hm0,hmb,hsz,hroom,Zcn,asInt,asIntOf],hnew w]
    simp only [Result.andThen_ok,hst2]
   ·have hS2 : St W F (pts b (.cells cells T (0,0)) :: rest) w := ⟨f,⟨f1,f2,hf1,hs,hd,hu⟩,s⟩
    refine (hS2.set u).imp fun g hg => hg.mono_head (Zcs (c := c) hlen hcm ?_)
    rw [hcs] at ht
    rw [ht,List.take_append_of_le_length (by simp),List.take_of_length_le (by simp)]
 ·have hge : n + m ≤ grownCap w (n + m) c T := grownCap_ge w (n + m) c T
  have hcm : grownCap w (n + m) c T ≤ maxLen := grownCap_le_maxLen w (n + m) c T hmax
  have hn' : ¬ (n + m ≤ c) := hroom
  have hmin : ¬ (9223372036854775807 < ((n : Int) + (m : Int))) := by omega
  have h48 : ¬ (281474976710656 < Builtin.nextslicecap (n + m) c * i.bytes) := by have := growslice_fits (show c < n + m by omega) hfit; omega
  have hod : (Builtin.firstCells 1 n (.slice a n c)).run P w.drew = .ok cs.toArray w.drew := Zb5 (P := P) (size := 1) ⟨f1,ho.row,fun b o e => s.agrees b o (by rw [hu,e]; rfl)⟩ (by omega)
  let blk := cs.toArray ++ (List.replicate m z).toArray ++ Builtin.zeroCells z.cells (grownCap w (n + m) c T - (n + m))
  have hS2 : St W F rest w := St.drop ⟨f,⟨f1,f2,ho,hs,hd,hu⟩,s⟩
  refine ⟨some ⟨w.heap.size,0,none⟩,grownCap w (n + m) c T,w.drew.alloc (.cells blk T),?_,?_,hge,by simp; omega⟩
  ·have hmm : m ≠ 0 := by omega
   simp [Builtin.append_,run_underlying h.und,run_underlying hx.und,Go.sizeOf,typeInfo,zeroValue,hi',hz',hw64,hm0,hmb,hsz,hn',hmin,h48,asInt,asIntOf,Question.forced,hod,hmm,Zf8 hzc,newRow,grownCap,blk]
  ·have hlen : blk.toList.length = grownCap w (n + m) c T * 1 := by
    simp only [blk,Array.length_toList,Array.size_append,List.size_toArray,size_zeroCells,hzc,hcs,List.length_replicate]
    simp; omega
   have h3 := hS2.drew.alloc (.cells blk T)
   refine St.imp h3 fun g hg => hg.mono_head ?_
   have key := Zcs (T := T) (e := 1) (c := grownCap w (n + m) c T) (b := w.heap.size) (l := blk.toList) (cs := cs ++ List.replicate m z) hlen hcm (by
    simp only [blk,Array.toList_append]; exact List.take_left)
   simpa using key
theorem Zmr {T bytes c n m : Nat} {k k' : IntKind} {a : Option Addr} {cs : List Value} {z : Value} {W : World} {F : Nat → Prop} {rs : List Res} {d : Nat} {tx : TypeId} (ho : o.op = .call { callee := .builtin .append,args := #[x,y],argTypes := #[t,tx] }) (hx : ev σ x = some (.slice a n c)) (hy : ev σ y = some (.int k (m : Nat)))
  [h : Und P t (.slice T)] [hx' : Und P tx (.int k')] [hi : Inf P T z 1 bytes] (hzc : z.cells = #[z]) (hd : o.dst = some d) (hN : Nat.blt d N = true) (hS : St W F rs w) (hr : Rd w (row a cs)) (hcs : cs.length = n) (hg : c < n + m) (hm : 0 < m)
  (hfit : (n + m) * bytes ≤ 140737488355328) (hmax : n + m ≤ maxLen)
  (hk : ∀ b c' w',St W F (own T 1 (some ⟨b,0,none⟩) c' (cs ++ List.replicate m z) :: rs) w' → n + m ≤ c' → K ((d,.slice (some ⟨b,0,none⟩) (n + m) c') :: σ) w') : X P o N ds σ w K := ⟨fun f ha K' Q' hK => by
 obtain ⟨i,hi',hz',hsz,hby⟩ := info_parts hi.inf
 subst hby
 have hlt : ((n + m : Nat) : Int) ≤ 9223372036854775807 := by simp only [maxLen] at hmax; omega
 have hw64 : IntKind.i64.wrap (m : Int) = m := w64 (by omega) (by omega)
 have hm0 : ¬ ((m : Int) < 0) := by omega
 have hmb : ¬ (281474976710656 < (m : Int) * i.bytes) := by
  have h1 : (n + m) * i.bytes = n * i.bytes + m * i.bytes := Nat.add_mul ..
  rw [← Int.natCast_mul]
  generalize m * i.bytes = q at h1 ⊢
  omega
 have hge : n + m ≤ grownCap w (n + m) c T := grownCap_ge w (n + m) c T
 have hcm : grownCap w (n + m) c T ≤ maxLen := grownCap_le_maxLen w (n + m) c T hmax
 have hn' : ¬ (n + m ≤ c) := by omega
 have hmin : ¬ (9223372036854775807 < ((n : Int) + (m : Int))) := by omega
 have h48 : ¬ (281474976710656 < Builtin.nextslicecap (n + m) c * i.bytes) := by have := growslice_fits (show c < n + m by omega) hfit; omega
 have hod : (Builtin.firstCells 1 n (.slice a n c)).run P w.drew = .ok cs.toArray w.drew := Zb5 (P := P) (size := 1) (by obtain ⟨g,hg,ha⟩ := hr; exact ⟨g,hg,ha⟩) (by omega)
 let blk := cs.toArray ++ (List.replicate m z).toArray ++ Builtin.zeroCells z.cells (grownCap w (n + m) c T - (n + m))
 have hlen : blk.toList.length = grownCap w (n + m) c T * 1 := by
  simp only [blk,Array.length_toList,Array.size_append,List.size_toArray,size_zeroCells,hzc,hcs,List.length_replicate]
  simp; omega
 have hexec : (execOp f.eval o).run P w = .ok (.value (.slice (some ⟨w.heap.size,0,none⟩) (n + m) (grownCap w (n + m) c T))) (w.drew.alloc (.cells blk T)) := by
  have hmm : m ≠ 0 := by omega
  simp [execOp,ho,resolve,invoke,builtin,ha.eval hx,ha.eval hy,Builtin.append_,run_underlying h.und,run_underlying hx'.und,Go.sizeOf,typeInfo,zeroValue,hi',hz',hw64,hm0,hmb,hsz,hn',hmin,h48,asInt,asIntOf,Question.forced,hod,hmm,Zf8 hzc,newRow,grownCap,blk]
 unfold Oper.wp
 rw [hexec]
 have := hK _ _ _ (ha.put (Zbp hN) (.slice (some ⟨w.heap.size,0,none⟩) (n + m) (grownCap w (n + m) c T))) (hk w.heap.size _ (w.drew.alloc (.cells blk T)) (St.imp (hS.drew.alloc (.cells blk T)) fun g hg => hg.mono_head (by
  have key := Zcs (T := T) (e := 1) (c := grownCap w (n + m) c T) (b := w.heap.size) (l := blk.toList) (cs := cs ++ List.replicate m z) hlen hcm (by
   simp only [blk,Array.toList_append]; exact List.take_left)
  simpa using key)) hge)
 rw [← hd] at this
 exact this⟩
theorem X_appendZ {T bytes c n m : Nat} {k k' : IntKind} {a : Option Addr} {cs : List Value} {z : Value} {W : World} {F : Nat → Prop} {rs rest : List Res} {d : Nat} {tx : TypeId} (ho : o.op = .call { callee := .builtin .append,args := #[x,y],argTypes := #[t,tx] }) (hx : ev σ x = some (.slice a n c)) (hy : ev σ y = some (.int k (m : Nat)))
  [h : Und P t (.slice T)] [hx' : Und P tx (.int k')] [hi : Inf P T z 1 bytes] (hzc : z.cells = #[z]) (hz1 : z.oneCell' = true) (hd : o.dst = some d) (hN : Nat.blt d N = true) (hS : St W F rs w) [hh : HasOwn rs a T 1 c cs rest] (hcs : cs.length = n) (hnc : n ≤ c)
  (hfit : (n + m) * bytes ≤ 140737488355328) (hmax : n + m ≤ maxLen)
  (hk : ∀ a' c' w',St W F (own T 1 a' c' (cs ++ List.replicate m z) :: rest) w' → n + m ≤ c' → (a' = none ↔ a = none ∧ m = 0) → K ((d,.slice a' (n + m) c') :: σ) w') : X P o N ds σ w K := ⟨fun f ha K' Q' hK => by
 obtain ⟨a',c',w',hr,hS',hc',hn⟩ := Zqy (P := P) (t := t) (ty := o.type) (k := k) (m := m) tx hzc hz1 (hS.perm hh.has) hcs hnc hfit hmax
 unfold Oper.wp
 have hexec : (execOp f.eval o).run P w = .ok (.value (.slice a' (n + m) c')) w' := by
  simp [execOp,ho,resolve,invoke,builtin,ha.eval hx,ha.eval hy,hr]
 rw [hexec]
 have := hK _ _ _ (ha.put (Zbp hN) (.slice a' (n + m) c')) (hk a' c' w' hS' hc' hn)
 rw [← hd] at this
 exact this⟩
end
end Cr
namespace Cr
open Go
section
variable {P : Program} {o : Oper} {σ : Env} {w : World} {N : Nat} {ds : Md} {K : Env → World → Prop} {x y : Operand} {t ty e : TypeId}
theorem Zd3 (s : List UInt8) : (str s).size = s.length := by simp [str,ByteArray.size]
theorem str_app (a b : List UInt8) : str a ++ str b = str (a ++ b) := ByteArray.mk_append_mk a b
theorem Zqt (s : List UInt8) (l h : Nat) : (str s).extract l h = str ((s.drop l).take (h - l)) := by
 apply ByteArray.ext
 simp [str,ByteArray.data_extract,List.extract_eq_take_drop]
theorem Yl_addStr {a b : List UInt8} (ho : o.op = .binOp .add t x y ty) (hx : ev σ x = some (.string (str a))) (hy : ev σ y = some (.string (str b))) (hl : a.length + b.length ≤ 9223372036854775807) : Yl P o σ w (.string (str (a ++ b))) := ⟨fun N ds f ha => by
 have h := run_string_add_sum (P := P) w (str a) (str b) (by rw [Zd3,Zd3]; exact hl)
 rw [str_app] at h
 simp [execOp,ho,ha.eval hx,ha.eval hy,binOp,eqGuard,h]⟩
theorem Zrt {s : List UInt8} {l h : Nat} {lo hi : Option Operand} {vl vh : Option Value} (ho : o.op = .slice t x lo hi none) (hx : ev σ x = some (.string (str s))) (hlo : evo σ lo = some vl) (hhi : evo σ hi = some vh) [hu : Und P t .string] (hh : Bnd vh s.length s.length h) (hl : Bnd vl 0 h l) :
  Yl P o σ w (.string (str ((s.drop l).take (h - l)))) := by
 rw [← Zqt]
 exact Zqc ho hx hlo hhi (by rw [Zd3]; exact hh) hl
theorem Zru {s : List UInt8} {k : IntKind} {i : Int} {b : UInt8} (ho : o.op = .index t x y) (hx : ev σ x = some (.string (str s))) (hy : ev σ y = some (.int k i)) [h : Und P t .string] (h0 : 0 ≤ i) (hb : s[i.toNat]? = some b) :
  Yl P o σ w (.int .u8 (b.toNat : Int)) := by
 have hlt := (List.getElem?_eq_some_iff.1 hb).1
 have := Zqg (P := P) (w := w) (s := str s) ho hx hy h0 (by rw [Zd3]; exact hlt)
 have e : (str s)[i.toNat]'(by rw [Zd3]; exact hlt) = b := by
  obtain ⟨_,he⟩ := List.getElem?_eq_some_iff.1 hb
  rw [← he]; rfl
 rwa [e] at this
/-! ### errors that may be nil -/
theorem St.strBytes {W : World} {F : Nat → Prop} {rs : List Res} (hS : St W F rs w) (e : TypeId) (s : List UInt8) : St W F (bytes (some ⟨w.heap.size,0,none⟩) s :: rs) (Lib.bytesWorld w e (str s)) := by
 have h1 := hS.drew.alloc (.cells (Lib.bytesCells w e (str s)) e)
 have h2 := h1.set (w' := Lib.bytesWorld w e (str s)) (o' := .cells (Lib.bytesCells w e (str s)) e ((Lib.bytesCells w e (str s)).size,(Lib.bytesCells w e (str s)).size + 1))
  ⟨by rw [Lib.bytesWorld_size]; simp [World.alloc,World.drew,-World.alloc_eq,-World.drew_eq],Lib.bytesWorld_at_new w e (str s),fun k hk => by
   have hk : k ≠ w.heap.size := hk
   rcases Nat.lt_or_ge k w.heap.size with h | h
   ·rw [Lib.bytesWorld_at_old w e (str s) k h]
    simp [World.alloc,World.drew,-World.alloc_eq,-World.drew_eq,Array.getElem?_push,hk]
   ·rw [Array.getElem?_eq_none (by rw [Lib.bytesWorld_size]; omega),Array.getElem?_eq_none (by simp [World.alloc,World.drew,-World.alloc_eq,-World.drew_eq]; omega)],
   rfl,rfl,rfl⟩
 refine h2.head fun h hh => ?_
 refine .inr ⟨w.heap.size,0,_,e,_,rfl,hh,fun i v hv => ?_⟩
 have hlt := (List.getElem?_eq_some_iff.1 hv).1
 rw [Za4] at hlt
 rw [bv_get hlt] at hv
 rw [← Option.some.inj hv,Nat.zero_add]
 unfold Lib.bytesCells
 rw [Array.getElem?_append_left (by simp [str]; exact hlt)]
 simp [str,hlt]
theorem X_strBytes {src dst : TypeId} {s : List UInt8} {d : Nat} {W : World} {F : Nat → Prop} {rs : List Res} (ho : o.op = .convert src dst x) (hx : ev σ x = some (.string (str s))) [hs : Und P src .string] [hd : Und P dst (.slice e)] [he : Und P e (.int .u8)]
  (hdst : o.dst = some d) (hN : Nat.blt d N = true) (hS : St W F rs w) (h : ∀ b c w',St W F (bytes (some ⟨b,0,none⟩) s :: rs) w' → s.length ≤ c → K ((d,.slice (some ⟨b,0,none⟩) s.length c) :: σ) w') : X P o N ds σ w K := ⟨fun f ha K' Q' hK => by
 have hr := Lib.run_convert_string_bytes (P := P) w src dst e (str s) hs.und hd.und he.und
 have hexec : (execOp f.eval o).run P w = .ok (.value (.slice (some ⟨w.heap.size,0,none⟩) s.length (grownCap w (str s).size 0 e))) (Lib.bytesWorld w e (str s)) := by
  simp only [execOp,ho,ha.eval hx,Sem.run_bind,hr,Result.andThen_ok,Zd3]
  rfl
 unfold Oper.wp
 rw [hexec]
 have := hK _ _ _ (ha.put (Zbp hN) (.slice (some ⟨w.heap.size,0,none⟩) s.length (grownCap w (str s).size 0 e))) (h _ _ _ (hS.strBytes e s) (by have := grownCap_ge w (str s).size 0 e; rw [Zd3] at this; rw [Zd3]; exact this))
 rw [← hdst] at this
 exact this⟩
end
end Cr
namespace Cr
open Go Go.Proofs
set_option maxRecDepth 100000
set_option maxHeartbeats 6000000
attribute [local irreducible] Calls

def spot (k : Int) (i : Nat) : Nat := ((k - i) % 8).toNat
def sig3 (a : Int) (p q r : Nat) : Int := ixor .u32 (ixor .u32 (spin a p) (spin a q)) (spin a r)
def mixT (rd w : List Int) (V : List Int) (i : Nat) : Int :=
 let e := V.getD (spot 4 i) 0
 u32 (u32 (u32 (u32 (V.getD (spot 7 i) 0 + sig3 e 6 11 25) + ixor .u32 (V.getD (spot 6 i) 0) (iand .u32 e (ixor .u32 (V.getD (spot 5 i) 0) (V.getD (spot 6 i) 0)))) + rd.getD ((i : Int).toNat * 1) 0) + w.getD (0 + (i : Int).toNat * 1) 0)
def mixU (rd w : List Int) (V : List Int) (i : Nat) : List Int := V.set (spot 3 i) (u32 (V.getD (spot 3 i) 0 + mixT rd w V i))
def Zn9 (rd w : List Int) (V : List Int) (i : Nat) : List Int :=
 let a := V.getD (spot 0 i) 0
 let t := mixT rd w V i
 let U := mixU rd w V i
 U.set (spot 7 i) (u32 (u32 (t + sig3 a 2 13 22) + ior .u32 (iand .u32 a (U.getD (spot 1 i) 0)) (iand .u32 (U.getD (spot 2 i) 0) (ior .u32 a (U.getD (spot 1 i) 0)))))
def Zq9 (rd w H : List Int) : Nat → List Int
 | 0 => H
 | i + 1 => Zn9 rd w (Zq9 rd w H i) i
theorem Zjt (rd w H : List Int) : ∀ i,(Zq9 rd w H i).length = H.length
 | 0 => rfl
 | i + 1 => by simp [Zq9,Zn9,mixU,Zjt rd w H i]
def Zqa (H V : List Int) : Nat → List Int
 | 0 => H
 | i + 1 => (Zqa H V i).set i (u32 ((Zqa H V i).getD i 0 + V.getD i 0))
theorem Zg6 (H V : List Int) : ∀ i,(Zqa H V i).length = H.length
 | 0 => rfl
 | i + 1 => by simp [Zqa,Zg6 H V i]
def blend (rd H : List Int) (b : List UInt8) : List Int := Zqa H (Zq9 rd (Zcm b 64) H 64) 8
theorem Zp8 (rd H : List Int) (b : List UInt8) : (blend rd H b).length = H.length := Zg6 _ _ _

theorem St.abs2 {W : World} {F : Nat → Prop} {r : Res} {b : Nat} {k : IntKind} {L : List Int} {T : TypeId} {rs : List Res} {w : World} (hS : St W F (r :: pts b (.cells (ints k L).toArray T) :: rs) w) : ∃ U,U = L ∧ St W F (r :: pts b (.cells (ints k U).toArray T) :: rs) w := ⟨L,rfl,hS⟩
theorem mix_ (s : Nat) (H rd : List Int) (R : List UInt8) (tot : Int) (T : TypeId) (W : World) (F : Nat → Prop) (hH : H.length = 8) (hR : R.length = 64) (hrd : rd.length = 64) (hg : Ro W F (row (some ⟨1,0,none⟩) (ints .u32 rd)))
  (hS : St W F [pts s (.cells (ints .u32 H ++ (bv R ++ [Value.int .i64 tot])).toArray T)] W) :
  Calls Tryz.prog 105 #[.pointer (some ⟨s,0,none⟩),.slice (some ⟨s,8,none⟩) 64 64] W (Ret fun _ w => True ∧ St W F [pts s (.cells (ints .u32 (blend rd H R) ++ (bv R ++ [Value.int .i64 tot])).toArray T)] w) := by
 have hRb : Rd W (bytes (some ⟨s,8,none⟩) R) := (hS.rd (List.mem_cons_self ..)).mono fun h hh => ⟨h,Zhc (n := 64) (by
  rw [List.drop_append_of_le_length (by rw [ints_length]; omega),List.drop_of_length_le (by rw [ints_length]; omega),List.nil_append,List.take_append_of_le_length (by simp [hR]),List.take_of_length_le (by simp [hR])]) h hh,fun _ _ e => e⟩
 have hlH : LenIs (ints .u32 H) 8 := ⟨by rw [ints_length]; exact hH⟩
 have hlS : LenIs (ints .u32 (Zcm R 64)) 64 := ⟨by rw [ints_length]; exact Zd4 _ _⟩
 refine Zas Tryz.func105 rfl Tryz.ntmps105 rfl ?_
 repeat (first|(refine G_id ?_;first|refine Zah ?_|refine Zab rfl rfl ?_)|(refine X_id ?_;first|(refine Zbm 150 rfl rfl rfl rfl rfl hS (spread_ _ _ R _ hRb hR (by omega)) ?_;rintro _ _ rfl hS)|refine X_yl (Zad rfl rfl) rfl rfl ?_|refine X_yl (Zai rfl rfl) rfl rfl ?_|refine X_yl (Zbc rfl rfl hS.cellsN) rfl rfl ?_|refine Za1 rfl rfl rfl rfl hS (fun _ hS _ => ?_)|refine Zbe rfl rfl rfl hS (fun _ _ hS _ => ?_))|(refine C_id ?_;first|refine Zak ?_|refine Zaa ?_)|(refine E_id ?_;first|refine Zae ?_))
 rename_i b5 _ _
 refine Za1 (l := List.replicate 8 (.int .u32 0)) rfl rfl rfl rfl hS (fun _ hS _ => ?_)
 repeat (first|(refine G_id ?_;first|refine Zah ?_|refine Zab rfl rfl ?_)|(refine X_id ?_;first|refine X_yl (Zad rfl rfl) rfl rfl ?_)|(refine C_id ?_;first|refine Zak ?_|refine Zaa ?_|refine Zaq ?_)|(refine E_id ?_;first|refine Zae ?_))
 rename_i b4 _ _ _ _ _ _ _ _ _ _ _
 refine Zb7 (α := Nat) (fun i => [(0,.pointer (some ⟨s,0,none⟩)),(4,.pointer (some ⟨b4,0,none⟩)),(5,.pointer (some ⟨b5,0,none⟩)),(17,.int .i64 (i : Nat))])
  (fun i w => i ≤ 64 ∧ St W F [pts b5 (.cells (ints .u32 (Zq9 rd (Zcm R 64) H i)).toArray 92),pts b4 (.cells (ints .u32 (Zcm R 64)).toArray 278),pts s (.cells (ints .u32 H ++ (bv R ++ [Value.int .i64 tot])).toArray T)] w) (fun i => 64 - i) 0 ⟨rfl,rfl,rfl,rfl,trivial⟩ ⟨Nat.zero_le _,hS⟩ ?_
 clear hS
 rintro i w ⟨hi,hS⟩
 obtain ⟨V,hVe⟩ : ∃ V,V = Zq9 rd (Zcm R 64) H i := ⟨_,rfl⟩
 have hV : V.length = 8 := by rw [hVe,Zjt]; exact hH
 rw [← hVe] at hS
 obtain ⟨Ws,hwe⟩ : ∃ L,L = Zcm R 64 := ⟨_,rfl⟩
 have hWs : Ws.length = 64 := by rw [hwe]; exact Zd4 _ _
 rw [← hwe] at hS
 by_cases h64 : i < 64
 ·repeat (first|(refine G_id ?_;first|refine Zah ?_|refine Zab rfl rfl ?_)|(refine X_id ?_;first|refine X_yl (Zad rfl rfl) rfl rfl ?_|refine X_yl (Zac rfl rfl) rfl rfl ?_|refine X_yl (Zdz rfl rfl rfl) rfl rfl ?_|refine X_yl (Za3 rfl rfl rfl (by omega)) rfl rfl ?_|refine Za1 rfl rfl rfl rfl hS (fun _ hS _ => ?_)|refine Zbe rfl rfl rfl hS (fun _ _ hS _ => ?_))|(refine C_id ?_;first|refine Zak ?_|refine Zaa ?_|refine Zaq ?_|refine Zaw ?_|refine Zam rfl ?_)|(refine E_id ?_;first|refine Zae ?_))
  refine Zci (.s 0 (.s 4 (.h 1 (.s 2 (.s 3 (.h 5 (.s 6 (.s 7 (.s 8 (.s 9 .nil)))) .no))) .no))) mixed (by kernel_rfl) rfl ?_
  have hS := hS.drew
  repeat (first|(refine X_id ?_;first|(refine Zrw 151 rfl rfl rfl rfl rfl (at_ _ i _ _ _ (by decide) (by decide) (by omega) (by omega) ((hS.rd (List.mem_cons_self ..)).ro)) ?_;rintro _ rfl))|(refine C_id ?_;first|refine Zak ?_)|(refine E_id ?_;first|refine Zae ?_)|(refine Zbj ?_;first|refine Zbw ?_|refine Zag rfl rfl (fun _ => Zad rfl rfl) rfl rfl ?_|refine Zag rfl rfl (fun _ => Zac rfl rfl) rfl rfl ?_|refine Zag rfl rfl (fun _ => Zai rfl rfl) rfl rfl ?_|refine Zbi (fun w' => w'.cell? _ = some _) rfl rfl (hS.cellI (by omega)) (fun _ hc => Zao rfl rfl hc) rfl rfl ?_|refine Za8 rfl rfl ?_)|(refine Za5 ?_;first|refine And.intro (by repeat (first|exact trivial|refine And.intro (.inl (by decide +kernel)) ?_|refine And.intro (.inr (by first|assumption|exact hS.cell|exact Zal (by assumption)|exact hS.cellI (by omega)|exact hS.cellIP (by omega)|exact hS.cellsN|exact hS.cellB (by omega)|exact hS.cellBA (by omega)|exact (hg.rd hS).cellI (by omega)|exact hS.cellO 0 (by omega)|exact hS.cellO 1 (by omega)|exact hS.cellIA (by omega)|exact (hg.rd hS).cellIA (by omega)|exact Zal (hc.rd hS).pts|exact hS.cellO 4 (by omega)|exact hS.cellO 5 (by omega)|exact hS.cellO 6 (by omega)|exact hS.cellO 7 (by omega)|exact hS.cellO 8 (by omega)|exact hS.cellO 9 (by omega)|exact hS.cellO 10 (by omega)|exact hS.cellO 11 (by omega)|exact hS.cellO 12 (by omega)|exact hS.cellO 13 (by omega)|exact hS.cellO 2 (by omega)|exact hS.cellO 3 (by omega))) ?_)) ?_))
  refine Zci (.s 0 (.s 4 (.s 6 (.s 9 (.s 13 (.s 17 (.s 18 (.s 22 (.s 30 (.s 31 (.s 32 (.s 34 (.s 35 (.s 36 (.h 1 (.s 2 (.s 3 (.h 5 (.h 7 (.s 8 (.h 10 (.s 11 (.s 12 (.h 14 (.s 15 (.s 16 (.h 19 (.s 20 (.s 21 (.h 23 (.s 24 (.s 25 (.s 26 (.s 27 (.s 28 (.s 29 (.s 33 (.s 37 (.s 38 .nil))))))))) .no))) .no))) .no))) .no)) .no) .no))) .no))))))))))))))) mixed (by kernel_rfl) rfl ?_
  have hS := hS.drew
  repeat (first|(refine G_id ?_;first|refine Zah ?_|refine Zab rfl rfl ?_)|(refine X_id ?_;first|(refine Zbm 152 rfl rfl rfl rfl rfl hS (spin_ _ _ _ (by decide)) ?_;rintro _ _ rfl hS)|(refine Zrw 151 rfl rfl rfl rfl rfl (at_ _ i _ _ _ (by decide) (by decide) (by omega) (by omega) ((hS.rd (List.mem_cons_self ..)).ro)) ?_;rintro _ rfl)|refine X_yl (Zad rfl rfl) rfl rfl ?_|refine X_yl (Zai rfl rfl) rfl rfl ?_|refine X_yl (Zbk rfl rfl rfl rfl) rfl rfl ?_|refine X_yl (Zao rfl rfl (hS.cellI (by omega))) rfl rfl ?_|refine Zkt rfl rfl rfl rfl hS (by omega) (fun _ hS => ?_))|(refine C_id ?_;first|refine Zak ?_|refine Zaa ?_)|(refine E_id ?_;first|refine Zae ?_)|(refine Zbj ?_;first|refine Zbw ?_|refine Zag rfl rfl (fun _ => Zad rfl rfl) rfl rfl ?_|refine Zag rfl rfl (fun _ => Zac rfl rfl) rfl rfl ?_|refine Zag rfl rfl (fun _ => Zai rfl rfl) rfl rfl ?_|refine Zag rfl rfl (fun _ => Zbx rfl rfl rfl (by omega) (by omega)) rfl rfl ?_|refine Zag rfl rfl (fun _ => Zbk rfl rfl rfl rfl) rfl rfl ?_|refine Zag rfl rfl (fun _ => Yl_xor rfl rfl rfl) rfl rfl ?_|refine Zag rfl rfl (fun _ => Yl_and rfl rfl rfl) rfl rfl ?_|refine Zbi (fun w' => w'.cell? _ = some _) rfl rfl hS.cell (fun _ hc => Zao rfl rfl hc) rfl rfl ?_|refine Zbi (fun w' => w'.cell? _ = some _) rfl rfl (hS.cellI (by omega)) (fun _ hc => Zao rfl rfl hc) rfl rfl ?_|refine Zbi (fun w' => w'.cell? _ = some _) rfl rfl ((hg.rd hS).cellI (by omega)) (fun _ hc => Zao rfl rfl hc) rfl rfl ?_|refine Za8 rfl rfl ?_)|(refine Za5 ?_;first|refine And.intro (by repeat (first|exact trivial|refine And.intro (.inl (by decide +kernel)) ?_|refine And.intro (.inr (by first|assumption|exact hS.cell|exact Zal (by assumption)|exact hS.cellI (by omega)|exact hS.cellIP (by omega)|exact hS.cellsN|exact hS.cellB (by omega)|exact hS.cellBA (by omega)|exact (hg.rd hS).cellI (by omega)|exact hS.cellO 0 (by omega)|exact hS.cellO 1 (by omega)|exact hS.cellIA (by omega)|exact (hg.rd hS).cellIA (by omega)|exact Zal (hc.rd hS).pts|exact hS.cellO 4 (by omega)|exact hS.cellO 5 (by omega)|exact hS.cellO 6 (by omega)|exact hS.cellO 7 (by omega)|exact hS.cellO 8 (by omega)|exact hS.cellO 9 (by omega)|exact hS.cellO 10 (by omega)|exact hS.cellO 11 (by omega)|exact hS.cellO 12 (by omega)|exact hS.cellO 13 (by omega)|exact hS.cellO 2 (by omega)|exact hS.cellO 3 (by omega))) ?_)) ?_))
  obtain ⟨U,hUe,hS⟩ := St.abs2 hS
  have hUl : U.length = 8 := by rw [hUe]; simp [hV]
  replace hUe : U = mixU rd Ws V i := hUe
  refine Zci (.s 0 (.s 2 (.s 3 (.s 5 (.s 8 (.s 12 (.s 13 (.s 18 (.s 22 (.s 23 (.h 1 (.h 4 (.h 6 (.s 7 (.h 9 (.s 10 (.s 11 (.h 14 (.s 15 (.s 16 (.s 17 (.h 19 (.s 20 (.s 21 (.h 24 (.s 25 (.s 26 (.s 27 (.s 28 (.s 29 (.s 30 (.s 31 (.h 32 .nil .no)))))))) .no))) .no)))) .no))) .no)) .no) .no) .no))))))))))) mixed (by kernel_rfl) rfl ?_
  have hS := hS.drew
  repeat (first|(refine G_id ?_;first|refine Zah ?_|refine Zab rfl rfl ?_)|(refine X_id ?_;first|(refine Zbm 152 rfl rfl rfl rfl rfl hS (spin_ _ _ _ (by decide)) ?_;rintro _ _ rfl hS)|(refine Zrw 151 rfl rfl rfl rfl rfl (at_ _ i _ _ _ (by decide) (by decide) (by omega) (by omega) ((hS.rd (List.mem_cons_self ..)).ro)) ?_;rintro _ rfl)|refine X_yl (Zad rfl rfl) rfl rfl ?_|refine X_yl (Zbk rfl rfl rfl (w64 (by omega) (by omega))) rfl rfl ?_|refine Zkt rfl rfl rfl rfl hS (by omega) (fun _ hS => ?_))|(refine C_id ?_;first|refine Zaa ?_)|(refine E_id ?_;first|refine Zae ?_|refine Zbf ?_)|(refine Zbj ?_;first|refine Zbw ?_|refine Zag rfl rfl (fun _ => Zad rfl rfl) rfl rfl ?_|refine Zag rfl rfl (fun _ => Zai rfl rfl) rfl rfl ?_|refine Zag rfl rfl (fun _ => Zbk rfl rfl rfl rfl) rfl rfl ?_|refine Zag rfl rfl (fun _ => Yl_xor rfl rfl rfl) rfl rfl ?_|refine Zag rfl rfl (fun _ => Yl_and rfl rfl rfl) rfl rfl ?_|refine Zag rfl rfl (fun _ => Yl_or rfl rfl rfl) rfl rfl ?_|refine Zbi (fun w' => w'.cell? _ = some _) rfl rfl (hS.cellI (by omega)) (fun _ hc => Zao rfl rfl hc) rfl rfl ?_|refine Za8 rfl rfl ?_)|(refine Za5 ?_;first|refine And.intro (by repeat (first|exact trivial|refine And.intro (.inl (by decide +kernel)) ?_|refine And.intro (.inr (by first|assumption|exact hS.cell|exact Zal (by assumption)|exact hS.cellI (by omega)|exact hS.cellIP (by omega)|exact hS.cellsN|exact hS.cellB (by omega)|exact hS.cellBA (by omega)|exact (hg.rd hS).cellI (by omega)|exact hS.cellO 0 (by omega)|exact hS.cellO 1 (by omega)|exact hS.cellIA (by omega)|exact (hg.rd hS).cellIA (by omega)|exact Zal (hc.rd hS).pts|exact hS.cellO 4 (by omega)|exact hS.cellO 5 (by omega)|exact hS.cellO 6 (by omega)|exact hS.cellO 7 (by omega)|exact hS.cellO 8 (by omega)|exact hS.cellO 9 (by omega)|exact hS.cellO 10 (by omega)|exact hS.cellO 11 (by omega)|exact hS.cellO 12 (by omega)|exact hS.cellO 13 (by omega)|exact hS.cellO 2 (by omega)|exact hS.cellO 3 (by omega))) ?_)) ?_))
  refine Zbu (i + 1) ⟨rfl,rfl,rfl,rfl,trivial⟩ ⟨by omega,?_⟩ (by omega)
  have hS := hS.pick [1,1,1]
  show St W F [pts b5 (.cells (ints .u32 (Zn9 rd (Zcm R 64) (Zq9 rd (Zcm R 64) H i) i)).toArray 92),pts b4 (.cells (ints .u32 (Zcm R 64)).toArray 278),_] _
  rw [← hVe,← hwe]
  unfold Zn9
  rw [← hUe]
  exact hS
 ·obtain rfl : i = 64 := by omega
  repeat (first|(refine G_id ?_;first|refine Zah ?_|refine Zab rfl rfl ?_)|(refine X_id ?_;first|refine X_yl (Zad rfl rfl) rfl rfl ?_|refine X_yl (Za7 rfl rfl rfl (by omega)) rfl rfl ?_)|(refine C_id ?_;first|refine Zak ?_|refine Zaa ?_|refine Zaq ?_|refine Zb0 ?_|refine Zaj rfl ?_)|(refine E_id ?_;first|refine Zae ?_|refine Zav ?_|refine Zaz ?_))
  refine Zb7 (α := Nat) (fun k => [(0,.pointer (some ⟨s,0,none⟩)),(5,.pointer (some ⟨b5,0,none⟩)),(107,.int .i64 (k : Nat))])
   (fun k w => k ≤ 8 ∧ St W F [pts b5 (.cells (ints .u32 V).toArray 92),pts b4 (.cells (ints .u32 Ws).toArray 278),pts s (.cells (ints .u32 (Zqa H V k) ++ (bv R ++ [Value.int .i64 tot])).toArray T)] w) (fun k => 8 - k) 0 ⟨rfl,rfl,rfl,trivial⟩ ⟨Nat.zero_le _,hS⟩ ?_
  clear hS
  rintro k w ⟨hk,hS⟩
  obtain ⟨A,hAe⟩ : ∃ A,A = Zqa H V k := ⟨_,rfl⟩
  have hA : A.length = 8 := by rw [hAe,Zg6]; exact hH
  rw [← hAe] at hS
  by_cases h8 : k < 8
  ·repeat (first|(refine G_id ?_;first|refine Zah ?_|refine Zab rfl rfl ?_)|(refine X_id ?_;first|refine X_yl (Zad rfl rfl) rfl rfl ?_|refine X_yl (Zac rfl rfl) rfl rfl ?_|refine X_yl (Za3 rfl rfl rfl (by omega)) rfl rfl ?_)|(refine C_id ?_;first|refine Zak ?_|refine Zaa ?_|refine Zaq ?_|refine Zaw ?_|refine Zam rfl ?_)|(refine E_id ?_;first|refine Zae ?_))
   refine Zci (.s 0 (.s 1 (.s 2 (.s 3 (.s 4 (.s 5 (.s 6 (.s 7 (.s 8 (.s 9 (.s 10 (.h 11 .nil .no)))))))))))) mixed (by kernel_rfl) rfl ?_
   have hS := hS.drew
   repeat (first|(refine G_id ?_;first|refine Zah ?_|refine Zab rfl rfl ?_)|(refine X_id ?_;first|refine X_yl (Zad rfl rfl) rfl rfl ?_|refine X_yl (Zbk rfl rfl rfl (w64 (by omega) (by omega))) rfl rfl ?_|refine X_storeIP rfl rfl rfl rfl hS (by omega) (fun _ hS => ?_))|(refine C_id ?_;first|refine Zaa ?_)|(refine E_id ?_;first|refine Zae ?_|refine Zbf ?_)|(refine Zbj ?_;first|refine Zbw ?_|refine Zag rfl rfl (fun _ => Zad rfl rfl) rfl rfl ?_|refine Zag rfl rfl (fun _ => Zai rfl rfl) rfl rfl ?_|refine Zag rfl rfl (fun _ => Zbx rfl rfl rfl (by omega) (by omega)) rfl rfl ?_|refine Zag rfl rfl (fun _ => Zbk rfl rfl rfl rfl) rfl rfl ?_|refine Zbi (fun w' => w'.cell? _ = some _) rfl rfl (hS.cellI (by omega)) (fun _ hc => Zao rfl rfl hc) rfl rfl ?_|refine Zbi (fun w' => w'.cell? _ = some _) rfl rfl (hS.cellIP (by omega)) (fun _ hc => Zao rfl rfl hc) rfl rfl ?_|refine Za8 rfl rfl ?_)|(refine Za5 ?_;first|refine And.intro (by repeat (first|exact trivial|refine And.intro (.inl (by decide +kernel)) ?_|refine And.intro (.inr (by first|assumption|exact hS.cell|exact Zal (by assumption)|exact hS.cellI (by omega)|exact hS.cellIP (by omega)|exact hS.cellsN|exact hS.cellB (by omega)|exact hS.cellBA (by omega)|exact (hg.rd hS).cellI (by omega)|exact hS.cellO 0 (by omega)|exact hS.cellO 1 (by omega)|exact hS.cellIA (by omega)|exact (hg.rd hS).cellIA (by omega)|exact Zal (hc.rd hS).pts|exact hS.cellO 4 (by omega)|exact hS.cellO 5 (by omega)|exact hS.cellO 6 (by omega)|exact hS.cellO 7 (by omega)|exact hS.cellO 8 (by omega)|exact hS.cellO 9 (by omega)|exact hS.cellO 10 (by omega)|exact hS.cellO 11 (by omega)|exact hS.cellO 12 (by omega)|exact hS.cellO 13 (by omega)|exact hS.cellO 2 (by omega)|exact hS.cellO 3 (by omega))) ?_)) ?_))
   refine Zbu (k + 1) ⟨rfl,rfl,rfl,trivial⟩ ⟨by omega,?_⟩ (by omega)
   simp only [Zqa]
   rw [← hAe]
   rw [show 0 + (k : Int).toNat * 1 = k by omega] at hS
   exact hS
  ·obtain rfl : k = 8 := by omega
   repeat (first|(refine G_id ?_;first|refine Zah ?_|refine Zab rfl rfl ?_)|(refine X_id ?_;first|refine X_yl (Za7 rfl rfl rfl (by omega)) rfl rfl ?_)|(refine C_id ?_;first|refine Zak ?_|refine Zaa ?_|refine Zb0 ?_|refine Zaj rfl ?_)|(refine E_id ?_;first|refine Zae ?_|refine Zav ?_|refine Zaz ?_|refine Zer rfl (Ret.mk ?_)))
   refine ⟨trivial,?_⟩
   replace hS := hS.pick [2]
   rw [hAe,hVe] at hS
   exact hS
end Cr
namespace Cr
open Go Go.Proofs
set_option maxRecDepth 100000
set_option maxHeartbeats 4000000
attribute [local irreducible] Calls

/-! ### bytes -/
def outAt (H : List Int) (i : Nat) : UInt8 := b8 (ishr .u32 (H.getD (i / 4) 0) (24 - i % 4 * 8))
def Zq3 (H : List Int) : Nat → List UInt8
 | 0 => List.replicate 32 0
 | i + 1 => (Zq3 H i).set i (outAt H i)
theorem Zgy (H : List Int) : ∀ i,(Zq3 H i).length = 32
 | 0 => by simp [Zq3]
 | i + 1 => by simp [Zq3,Zgy H i]
def outB (H : List Int) : List UInt8 := Zq3 H 32
theorem Ze9 (H : List Int) : (outB H).length = 32 := Zgy H 32
theorem bytes_ (s : Nat) (H : List Int) (r : List Value) (T : TypeId) (W : World) (hH : H.length = 8) (hs : Rd W (pts s (.cells (ints .u32 H ++ r).toArray T))) :
  Calls Tryz.prog 72 #[.pointer (some ⟨s,0,none⟩)] W (Ret fun v w => v = .agg (bv (outB H)).toArray ∧ St W noF [] w) := by
 have hS := St.start W
 have hg : Ro W noF (row (some ⟨s,0,none⟩) (ints .u32 H)) := hs.ro.mono fun h hh => ⟨h,Zhc (n := 8) (by rw [List.drop_zero,List.take_append_of_le_length (by rw [ints_length]; omega),List.take_of_length_le (by rw [ints_length]; omega)]) h hh,fun _ _ e => e⟩
 refine Zas Tryz.func72 rfl Tryz.ntmps72 rfl ?_
 repeat (first|(refine G_id ?_;first|refine Zah ?_|refine Zab rfl rfl ?_)|(refine X_id ?_;first|refine X_yl (Zad rfl rfl) rfl rfl ?_|refine Zbe rfl rfl rfl hS (fun _ _ hS _ => ?_))|(refine C_id ?_;first|refine Zak ?_|refine Zaa ?_|refine Zaq ?_)|(refine E_id ?_;first|refine Zae ?_))
 rename_i b2 _ _ _ b3 _ _
 rw [Zg5] at hS
 refine Zb7 (α := Nat) (fun i => [(0,.pointer (some ⟨s,0,none⟩)),(2,.pointer (some ⟨b2,0,none⟩)),(3,.pointer (some ⟨b3,0,none⟩)),(5,.int .i64 (i : Nat))])
  (fun i w => i ≤ 32 ∧ St W noF [pts b3 (.cells (bv (Zq3 H i)).toArray 23),pts b2 (.cells (bv (List.replicate 32 0)).toArray 23)] w) (fun i => 32 - i) 0 ⟨rfl,rfl,rfl,rfl,trivial⟩ ⟨Nat.zero_le _,hS⟩ ?_
 clear hS
 rintro i w ⟨hi,hS⟩
 obtain ⟨L,hLe⟩ : ∃ L,L = Zq3 H i := ⟨_,rfl⟩
 have hL : L.length = 32 := by rw [hLe]; exact Zgy H i
 rw [← hLe] at hS
 by_cases h32 : i < 32
 ·repeat (first|(refine G_id ?_;first|refine Zah ?_|refine Zab rfl rfl ?_)|(refine X_id ?_;first|refine X_yl (Zad rfl rfl) rfl rfl ?_|refine X_yl (Zac rfl rfl) rfl rfl ?_|refine X_yl (Zai rfl rfl) rfl rfl ?_|refine X_yl (Za3 rfl rfl rfl (by omega)) rfl rfl ?_|refine X_yl (Zbx rfl rfl rfl (by omega) (by omega)) rfl rfl ?_|refine X_yl (Zbk rfl rfl rfl (w64 (by omega) (by omega))) rfl rfl ?_|refine X_yl (Zdn rfl rfl rfl (w64 (by omega) (by omega))) rfl rfl ?_|refine X_yl (Zfi rfl rfl rfl (w64 (by omega) (by omega))) rfl rfl ?_|refine X_yl (Zf5 rfl rfl) rfl rfl ?_|refine X_yl (Zj6 rfl rfl rfl (by omega)) rfl rfl ?_|refine X_yl (Zmf rfl rfl rfl (by omega) (by omega) (by omega)) rfl rfl ?_|refine X_yl (Zd8 rfl rfl rfl (by omega) (by omega)) rfl rfl ?_|refine X_yl (Zao rfl rfl ((hg.rd hS).cellI (by omega))) rfl rfl ?_|refine Zou rfl rfl rfl rfl hS (by omega) (fun _ hS => ?_))|(refine C_id ?_;first|refine Zak ?_|refine Zaa ?_|refine Zaq ?_|refine Zaw ?_|refine Zam rfl ?_)|(refine E_id ?_;first|refine Zae ?_|refine Zbf ?_))
  refine Zbu (i + 1) ⟨rfl,rfl,rfl,rfl,trivial⟩ ⟨by omega,?_⟩ (by omega)
  rw [show 0 + (i : Int).toNat * 1 = i by omega,show ((i : Int) / 4).toNat * 1 = i / 4 by omega,show (24 - (i : Int) % 4 * 8).toNat = 24 - i % 4 * 8 by omega,hLe] at hS
  exact hS
 ·obtain rfl : i = 32 := by omega
  have hlen : LenO (bv L) 32 := ⟨by simp [hL]⟩
  repeat (first|(refine G_id ?_;first|refine Zah ?_|refine Zab rfl rfl ?_)|(refine X_id ?_;first|refine X_yl (Za7 rfl rfl rfl (by omega)) rfl rfl ?_|refine X_yl (Zbc rfl rfl hS.cellsN) rfl rfl ?_|refine Zct rfl rfl rfl rfl hS (fun _ hS => ?_))|(refine C_id ?_;first|refine Zak ?_|refine Zaa ?_|refine Za2 ?_|refine Zb0 ?_|refine Zaj rfl ?_)|(refine E_id ?_;first|refine Zae ?_|refine Zav ?_|refine Zaz ?_|refine Zax rfl (by first|exact Zap rfl|exact Zay rfl (Zba hS.cell)|exact Zay rfl (Za9 hS.cellsN)) (Ret.mk ?_)))
  exact ⟨by rw [hLe]; rfl,hS.drops⟩

/-! ### one -/
structure StrM where
 H : List Int
 R : List UInt8
 n : Nat
structure StrM.ok (S : StrM) : Prop where
 h8 : S.H.length = 8
 r64 : S.R.length = 64
def StrM.cells (S : StrM) : List Value := ints .u32 S.H ++ (bv S.R ++ [.int .i64 (S.n : Nat)])
def Zfo (fs H : List Int) (n : Nat) : List Int := if n = 0 then fs else H
def StrM.one (rd fs : List Int) (S : StrM) (c : UInt8) : StrM :=
 ⟨if (S.n + 1) % 64 = 0 then blend rd (Zfo fs S.H S.n) (S.R.set (S.n % 64) c) else Zfo fs S.H S.n,S.R.set (S.n % 64) c,S.n + 1⟩
structure Gl (W : World) (F : Nat → Prop) (rd fs : List Int) : Prop where
 round : Ro W F (row (some ⟨1,0,none⟩) (ints .u32 rd))
 first : Ro W F (row (some ⟨0,0,none⟩) (ints .u32 fs))
 round64 : rd.length = 64
 first8 : fs.length = 8
theorem Gl.mono {W w : World} {F F' : Nat → Prop} {rd fs : List Int} (h : Gl W F rd fs) (hw : ∀ r,Ro W F r → Ro w F' r) : Gl w F' rd fs := ⟨hw _ h.round,hw _ h.first,h.round64,h.first8⟩
theorem Zgi {fs H : List Int} (n : Nat) (h : fs.length = 8) (h' : H.length = 8) : (Zfo fs H n).length = 8 := by unfold Zfo; split <;> assumption
theorem StrM.one_ok {rd fs : List Int} {S : StrM} {c : UInt8} (h : S.ok) (hf : fs.length = 8) : (S.one rd fs c).ok := by
 refine ⟨?_,by simp [StrM.one,h.r64]⟩
 simp only [StrM.one]
 split
 ·rw [Zp8]; exact Zgi _ hf h.h8
 ·exact Zgi _ hf h.h8
theorem one_ (s : Nat) (S : StrM) (c : UInt8) (rd fs : List Int) (T : TypeId) (W : World) (F : Nat → Prop) (hok : S.ok) (hn : S.n < 2305843009213693951) (hG : Gl W F rd fs) (hS : St W F [pts s (.cells S.cells.toArray T)] W) :
  Calls Tryz.prog 70 #[.pointer (some ⟨s,0,none⟩),.int .u8 (c.toNat : Int)] W (Ret fun _ w => True ∧ St W F [pts s (.cells (S.one rd fs c).cells.toArray T)] w) := by
 obtain ⟨H,R,n⟩ := S
 obtain ⟨h8,r64⟩ := hok
 unfold StrM.cells at hS
 simp only at h8 r64 hn hS
 have hl1 : LenO (ints .u32 H) 8 := ⟨by rw [ints_length]; exact h8⟩
 have hl2 : LenO (bv R) 64 := ⟨by simp [r64]⟩
 have hl3 : LenO (ints .u32 fs) 8 := ⟨by rw [ints_length]; exact hG.first8⟩
 refine Zas Tryz.func70 rfl Tryz.ntmps70 rfl ?_
 have hc1 : ∀ H',Zfo fs H n = H' → H'.length = 8 := fun H' e => e ▸ Zgi n hG.first8 h8
 have hend : ∀ H' w,Zfo fs H n = H' → St W F [pts s (.cells (ints .u32 (if (n + 1) % 64 = 0 then blend rd H' (R.set (n % 64) c) else H') ++ (bv (R.set (n % 64) c) ++ [Value.int .i64 ((n + 1 : Nat) : Int)])).toArray T)] w →
   St W F [pts s (.cells (StrM.one rd fs ⟨H,R,n⟩ c).cells.toArray T)] w := fun H' w e h => by
  unfold StrM.one StrM.cells; simp only [e]; exact h
 have ei : ((n : Int) % 64).toNat * 1 = n % 64 := by omega
 by_cases h0 : n = 0
 all_goals by_cases h64 : (n + 1) % 64 = 0
 ·repeat (first|(refine G_id ?_;first|refine Zah ?_|refine Zab rfl rfl ?_)|(refine X_id ?_;first|refine X_yl (Zad rfl rfl) rfl rfl ?_|refine X_yl (Zai rfl rfl) rfl rfl ?_|refine X_yl (Zaf rfl rfl rfl) rfl rfl ?_|refine X_yl (Zej rfl rfl rfl (by omega)) rfl rfl ?_|refine X_yl (Zao rfl rfl hS.cell) rfl rfl ?_)|(refine C_id ?_;first|refine Zak ?_|refine Zaa ?_|refine Zam rfl ?_)|(refine E_id ?_;first|refine Zae ?_))
  refine X_yl (Zef rfl rfl ((hG.first.rd hS).cellsAt rfl) (by rw [ints_length]; exact hG.first8)) rfl rfl ?_
  repeat (first|(refine G_id ?_;first|refine Zah ?_|refine Zab rfl rfl ?_)|(refine X_id ?_;first|refine X_yl (Zai rfl rfl) rfl rfl ?_|refine X_yl (Zaf rfl rfl rfl) rfl rfl ?_|refine Za1 rfl rfl rfl rfl hS (fun _ hS _ => ?_))|(refine C_id ?_;first|refine Zak ?_)|(refine E_id ?_;first|refine Zae ?_))
  have e1 : Zfo fs H n = fs := by simp [Zfo,h0]
  refine Zci (.s 0 (.s 1 (.s 2 (.s 3 (.s 4 (.s 5 (.s 6 (.s 7 (.s 8 (.s 9 (.h 10 .nil .no))))))))))) mixed (by kernel_rfl) rfl ?_
  have hS := hS.drew
  repeat (first|(refine G_id ?_;first|refine Zah ?_|refine Zab rfl rfl ?_)|(refine X_id ?_;first|refine X_yl (Zad rfl rfl) rfl rfl ?_|refine X_yl (Zai rfl rfl) rfl rfl ?_|refine X_yl (Zaf rfl rfl rfl) rfl rfl ?_|refine X_yl (Zej rfl rfl rfl (by omega)) rfl rfl ?_|refine X_yl (Zbk rfl rfl rfl (w64 (by omega) (by omega))) rfl rfl ?_|refine X_yl (Zd8 rfl rfl rfl (by omega) (by omega)) rfl rfl ?_|refine X_yl (Zao rfl rfl hS.cell) rfl rfl ?_|refine Zix rfl rfl rfl rfl hS rfl (by omega) (fun _ hS => ?_)|refine Za1 rfl rfl rfl rfl hS (fun _ hS _ => ?_))|(refine C_id ?_;first|refine Zak ?_|refine Zaa ?_|refine Zam rfl ?_)|(refine E_id ?_;first|refine Zae ?_)|(refine Zbj ?_;first|refine Zbw ?_|refine Zag rfl rfl (fun _ => Zad rfl rfl) rfl rfl ?_|refine Zag rfl rfl (fun _ => Zai rfl rfl) rfl rfl ?_|refine Zag rfl rfl (fun _ => Zaf rfl rfl rfl) rfl rfl ?_|refine Zag rfl rfl (fun _ => Zbx rfl rfl rfl (by omega) (by omega)) rfl rfl ?_|refine Zag rfl rfl (fun _ => Zd8 rfl rfl rfl (by omega) (by omega)) rfl rfl ?_|refine Zbi (fun w' => w'.cell? _ = some _) rfl rfl hS.cell (fun _ hc => Zao rfl rfl hc) rfl rfl ?_|refine Za8 rfl rfl ?_)|(refine Za5 ?_;first|refine And.intro (by repeat (first|exact trivial|refine And.intro (.inl (by decide +kernel)) ?_|refine And.intro (.inr (by first|assumption|exact hS.cell|exact Zal (by assumption)|exact hS.cellI (by omega)|exact hS.cellIP (by omega)|exact hS.cellsN|exact hS.cellB (by omega)|exact hS.cellBA (by omega)|exact hS.cellO 0 (by omega)|exact hS.cellO 1 (by omega)|exact hS.cellIA (by omega)|exact Zal (hc.rd hS).pts|exact hS.cellO 4 (by omega)|exact hS.cellO 5 (by omega)|exact hS.cellO 6 (by omega)|exact hS.cellO 7 (by omega)|exact hS.cellO 8 (by omega)|exact hS.cellO 9 (by omega)|exact hS.cellO 10 (by omega)|exact hS.cellO 11 (by omega)|exact hS.cellO 12 (by omega)|exact hS.cellO 13 (by omega)|exact hS.cellO 2 (by omega)|exact hS.cellO 3 (by omega))) ?_)) ?_))
  rw [ei] at hS
  refine Zci (.s 0 (.s 1 (.s 2 (.s 3 (.s 4 (.s 5 (.s 6 (.h 7 .nil .no)))))))) mixed (by kernel_rfl) rfl ?_
  have hS := hS.drew
  repeat (first|(refine Zbj ?_;first|refine Zag rfl rfl (fun _ => Zad rfl rfl) rfl rfl ?_|refine Zag rfl rfl (fun _ => Zai rfl rfl) rfl rfl ?_|refine Zag rfl rfl (fun _ => Zaf rfl rfl rfl) rfl rfl ?_|refine Zag rfl rfl (fun _ => Zcq rfl rfl) rfl rfl ?_|refine Za8 rfl rfl ?_))
  obtain ⟨_,hc,hr,hw,hbk⟩ := hS.call [true]
  refine Zan _ rfl rfl rfl rfl rfl (mix_ s fs rd (R.set (n % 64) c) (↑n + 1) T _ _ (hc1 _ e1) (by simp [r64]) hG.round64 (hw _ hG.round) hc) ?_
  rintro _ w ⟨_,hS⟩
  replace hS := hbk hS
  clear hc hr hw hbk
  repeat (first|(refine E_id ?_;first|refine Zer rfl (Ret.mk ?_))|(refine Zbj ?_;first|refine Zbw ?_)|(refine Za5 ?_;first|refine And.intro (by repeat (first|exact trivial|refine And.intro (.inl (by decide +kernel)) ?_|refine And.intro (.inr (by first|assumption|exact hS.cell|exact Zal (by assumption)|exact hS.cellI (by omega)|exact hS.cellIP (by omega)|exact hS.cellsN|exact hS.cellB (by omega)|exact hS.cellBA (by omega)|exact hS.cellO 0 (by omega)|exact hS.cellO 1 (by omega)|exact hS.cellIA (by omega)|exact Zal (hc.rd hS).pts|exact hS.cellO 4 (by omega)|exact hS.cellO 5 (by omega)|exact hS.cellO 6 (by omega)|exact hS.cellO 7 (by omega)|exact hS.cellO 8 (by omega)|exact hS.cellO 9 (by omega)|exact hS.cellO 10 (by omega)|exact hS.cellO 11 (by omega)|exact hS.cellO 12 (by omega)|exact hS.cellO 13 (by omega)|exact hS.cellO 2 (by omega)|exact hS.cellO 3 (by omega))) ?_)) ?_))
  refine ⟨trivial,hend _ _ e1 ?_⟩
  rw [if_pos h64]
  exact hS
 ·repeat (first|(refine G_id ?_;first|refine Zah ?_|refine Zab rfl rfl ?_)|(refine X_id ?_;first|refine X_yl (Zad rfl rfl) rfl rfl ?_|refine X_yl (Zai rfl rfl) rfl rfl ?_|refine X_yl (Zaf rfl rfl rfl) rfl rfl ?_|refine X_yl (Zej rfl rfl rfl (by omega)) rfl rfl ?_|refine X_yl (Zao rfl rfl hS.cell) rfl rfl ?_)|(refine C_id ?_;first|refine Zak ?_|refine Zaa ?_|refine Zam rfl ?_)|(refine E_id ?_;first|refine Zae ?_))
  refine X_yl (Zef rfl rfl ((hG.first.rd hS).cellsAt rfl) (by rw [ints_length]; exact hG.first8)) rfl rfl ?_
  repeat (first|(refine G_id ?_;first|refine Zah ?_|refine Zab rfl rfl ?_)|(refine X_id ?_;first|refine X_yl (Zai rfl rfl) rfl rfl ?_|refine X_yl (Zaf rfl rfl rfl) rfl rfl ?_|refine Za1 rfl rfl rfl rfl hS (fun _ hS _ => ?_))|(refine C_id ?_;first|refine Zak ?_)|(refine E_id ?_;first|refine Zae ?_))
  have e1 : Zfo fs H n = fs := by simp [Zfo,h0]
  refine Zci (.s 0 (.s 1 (.s 2 (.s 3 (.s 4 (.s 5 (.s 6 (.s 7 (.s 8 (.s 9 (.h 10 .nil .no))))))))))) mixed (by kernel_rfl) rfl ?_
  have hS := hS.drew
  repeat (first|(refine G_id ?_;first|refine Zah ?_|refine Zab rfl rfl ?_)|(refine X_id ?_;first|refine X_yl (Zad rfl rfl) rfl rfl ?_|refine X_yl (Zai rfl rfl) rfl rfl ?_|refine X_yl (Zaf rfl rfl rfl) rfl rfl ?_|refine X_yl (Zd9 rfl rfl rfl (by omega)) rfl rfl ?_|refine X_yl (Zbk rfl rfl rfl (w64 (by omega) (by omega))) rfl rfl ?_|refine X_yl (Zd8 rfl rfl rfl (by omega) (by omega)) rfl rfl ?_|refine X_yl (Zao rfl rfl hS.cell) rfl rfl ?_|refine Zix rfl rfl rfl rfl hS rfl (by omega) (fun _ hS => ?_)|refine Za1 rfl rfl rfl rfl hS (fun _ hS _ => ?_))|(refine C_id ?_;first|refine Zak ?_|refine Zaa ?_|refine Zaw ?_|refine Zaj rfl ?_)|(refine E_id ?_;first|refine Zae ?_|refine Zer rfl (Ret.mk ?_))|(refine Zbj ?_;first|refine Zbw ?_|refine Zag rfl rfl (fun _ => Zad rfl rfl) rfl rfl ?_|refine Zag rfl rfl (fun _ => Zai rfl rfl) rfl rfl ?_|refine Zag rfl rfl (fun _ => Zaf rfl rfl rfl) rfl rfl ?_|refine Zag rfl rfl (fun _ => Zbx rfl rfl rfl (by omega) (by omega)) rfl rfl ?_|refine Zag rfl rfl (fun _ => Zd8 rfl rfl rfl (by omega) (by omega)) rfl rfl ?_|refine Zbi (fun w' => w'.cell? _ = some _) rfl rfl hS.cell (fun _ hc => Zao rfl rfl hc) rfl rfl ?_|refine Za8 rfl rfl ?_)|(refine Za5 ?_;first|refine And.intro (by repeat (first|exact trivial|refine And.intro (.inl (by decide +kernel)) ?_|refine And.intro (.inr (by first|assumption|exact hS.cell|exact Zal (by assumption)|exact hS.cellI (by omega)|exact hS.cellIP (by omega)|exact hS.cellsN|exact hS.cellB (by omega)|exact hS.cellBA (by omega)|exact hS.cellO 0 (by omega)|exact hS.cellO 1 (by omega)|exact hS.cellIA (by omega)|exact Zal (hc.rd hS).pts|exact hS.cellO 4 (by omega)|exact hS.cellO 5 (by omega)|exact hS.cellO 6 (by omega)|exact hS.cellO 7 (by omega)|exact hS.cellO 8 (by omega)|exact hS.cellO 9 (by omega)|exact hS.cellO 10 (by omega)|exact hS.cellO 11 (by omega)|exact hS.cellO 12 (by omega)|exact hS.cellO 13 (by omega)|exact hS.cellO 2 (by omega)|exact hS.cellO 3 (by omega))) ?_)) ?_))
  rw [ei] at hS
  refine ⟨trivial,hend _ _ e1 ?_⟩
  rw [if_neg h64]
  exact hS
 ·have e1 : Zfo fs H n = H := by simp [Zfo,h0]
  repeat (first|(refine G_id ?_;first|refine Zah ?_|refine Zab rfl rfl ?_)|(refine X_id ?_;first|refine X_yl (Zad rfl rfl) rfl rfl ?_|refine X_yl (Zai rfl rfl) rfl rfl ?_|refine X_yl (Zaf rfl rfl rfl) rfl rfl ?_|refine X_yl (Zd9 rfl rfl rfl (by omega)) rfl rfl ?_|refine X_yl (Zao rfl rfl hS.cell) rfl rfl ?_)|(refine C_id ?_;first|refine Zak ?_|refine Zaa ?_|refine Zaw ?_|refine Zaj rfl ?_)|(refine E_id ?_;first|refine Zae ?_))
  refine Zci (.s 0 (.s 1 (.s 2 (.s 3 (.s 4 (.s 5 (.s 6 (.s 7 (.s 8 (.s 9 (.h 10 .nil .no))))))))))) mixed (by kernel_rfl) rfl ?_
  have hS := hS.drew
  repeat (first|(refine G_id ?_;first|refine Zah ?_|refine Zab rfl rfl ?_)|(refine X_id ?_;first|refine X_yl (Zad rfl rfl) rfl rfl ?_|refine X_yl (Zai rfl rfl) rfl rfl ?_|refine X_yl (Zaf rfl rfl rfl) rfl rfl ?_|refine X_yl (Zej rfl rfl rfl (by omega)) rfl rfl ?_|refine X_yl (Zbk rfl rfl rfl (w64 (by omega) (by omega))) rfl rfl ?_|refine X_yl (Zd8 rfl rfl rfl (by omega) (by omega)) rfl rfl ?_|refine X_yl (Zao rfl rfl hS.cell) rfl rfl ?_|refine Zix rfl rfl rfl rfl hS rfl (by omega) (fun _ hS => ?_)|refine Za1 rfl rfl rfl rfl hS (fun _ hS _ => ?_))|(refine C_id ?_;first|refine Zak ?_|refine Zaa ?_|refine Zam rfl ?_)|(refine E_id ?_;first|refine Zae ?_)|(refine Zbj ?_;first|refine Zbw ?_|refine Zag rfl rfl (fun _ => Zad rfl rfl) rfl rfl ?_|refine Zag rfl rfl (fun _ => Zai rfl rfl) rfl rfl ?_|refine Zag rfl rfl (fun _ => Zaf rfl rfl rfl) rfl rfl ?_|refine Zag rfl rfl (fun _ => Zbx rfl rfl rfl (by omega) (by omega)) rfl rfl ?_|refine Zag rfl rfl (fun _ => Zd8 rfl rfl rfl (by omega) (by omega)) rfl rfl ?_|refine Zbi (fun w' => w'.cell? _ = some _) rfl rfl hS.cell (fun _ hc => Zao rfl rfl hc) rfl rfl ?_|refine Za8 rfl rfl ?_)|(refine Za5 ?_;first|refine And.intro (by repeat (first|exact trivial|refine And.intro (.inl (by decide +kernel)) ?_|refine And.intro (.inr (by first|assumption|exact hS.cell|exact Zal (by assumption)|exact hS.cellI (by omega)|exact hS.cellIP (by omega)|exact hS.cellsN|exact hS.cellB (by omega)|exact hS.cellBA (by omega)|exact hS.cellO 0 (by omega)|exact hS.cellO 1 (by omega)|exact hS.cellIA (by omega)|exact Zal (hc.rd hS).pts|exact hS.cellO 4 (by omega)|exact hS.cellO 5 (by omega)|exact hS.cellO 6 (by omega)|exact hS.cellO 7 (by omega)|exact hS.cellO 8 (by omega)|exact hS.cellO 9 (by omega)|exact hS.cellO 10 (by omega)|exact hS.cellO 11 (by omega)|exact hS.cellO 12 (by omega)|exact hS.cellO 13 (by omega)|exact hS.cellO 2 (by omega)|exact hS.cellO 3 (by omega))) ?_)) ?_))
  rw [ei] at hS
  refine Zci (.s 0 (.s 1 (.s 2 (.s 3 (.s 4 (.s 5 (.s 6 (.h 7 .nil .no)))))))) mixed (by kernel_rfl) rfl ?_
  have hS := hS.drew
  repeat (first|(refine Zbj ?_;first|refine Zag rfl rfl (fun _ => Zad rfl rfl) rfl rfl ?_|refine Zag rfl rfl (fun _ => Zai rfl rfl) rfl rfl ?_|refine Zag rfl rfl (fun _ => Zaf rfl rfl rfl) rfl rfl ?_|refine Zag rfl rfl (fun _ => Zcq rfl rfl) rfl rfl ?_|refine Za8 rfl rfl ?_))
  obtain ⟨_,hc,hr,hw,hbk⟩ := hS.call [true]
  refine Zan _ rfl rfl rfl rfl rfl (mix_ s H rd (R.set (n % 64) c) (↑n + 1) T _ _ (hc1 _ e1) (by simp [r64]) hG.round64 (hw _ hG.round) hc) ?_
  rintro _ w ⟨_,hS⟩
  replace hS := hbk hS
  clear hc hr hw hbk
  repeat (first|(refine E_id ?_;first|refine Zer rfl (Ret.mk ?_))|(refine Zbj ?_;first|refine Zbw ?_)|(refine Za5 ?_;first|refine And.intro (by repeat (first|exact trivial|refine And.intro (.inl (by decide +kernel)) ?_|refine And.intro (.inr (by first|assumption|exact hS.cell|exact Zal (by assumption)|exact hS.cellI (by omega)|exact hS.cellIP (by omega)|exact hS.cellsN|exact hS.cellB (by omega)|exact hS.cellBA (by omega)|exact hS.cellO 0 (by omega)|exact hS.cellO 1 (by omega)|exact hS.cellIA (by omega)|exact Zal (hc.rd hS).pts|exact hS.cellO 4 (by omega)|exact hS.cellO 5 (by omega)|exact hS.cellO 6 (by omega)|exact hS.cellO 7 (by omega)|exact hS.cellO 8 (by omega)|exact hS.cellO 9 (by omega)|exact hS.cellO 10 (by omega)|exact hS.cellO 11 (by omega)|exact hS.cellO 12 (by omega)|exact hS.cellO 13 (by omega)|exact hS.cellO 2 (by omega)|exact hS.cellO 3 (by omega))) ?_)) ?_))
  refine ⟨trivial,hend _ _ e1 ?_⟩
  rw [if_pos h64]
  exact hS
 ·have e1 : Zfo fs H n = H := by simp [Zfo,h0]
  repeat (first|(refine G_id ?_;first|refine Zah ?_|refine Zab rfl rfl ?_)|(refine X_id ?_;first|refine X_yl (Zad rfl rfl) rfl rfl ?_|refine X_yl (Zai rfl rfl) rfl rfl ?_|refine X_yl (Zaf rfl rfl rfl) rfl rfl ?_|refine X_yl (Zd9 rfl rfl rfl (by omega)) rfl rfl ?_|refine X_yl (Zao rfl rfl hS.cell) rfl rfl ?_)|(refine C_id ?_;first|refine Zak ?_|refine Zaa ?_|refine Zaw ?_|refine Zaj rfl ?_)|(refine E_id ?_;first|refine Zae ?_))
  refine Zci (.s 0 (.s 1 (.s 2 (.s 3 (.s 4 (.s 5 (.s 6 (.s 7 (.s 8 (.s 9 (.h 10 .nil .no))))))))))) mixed (by kernel_rfl) rfl ?_
  have hS := hS.drew
  repeat (first|(refine G_id ?_;first|refine Zah ?_|refine Zab rfl rfl ?_)|(refine X_id ?_;first|refine X_yl (Zad rfl rfl) rfl rfl ?_|refine X_yl (Zai rfl rfl) rfl rfl ?_|refine X_yl (Zaf rfl rfl rfl) rfl rfl ?_|refine X_yl (Zd9 rfl rfl rfl (by omega)) rfl rfl ?_|refine X_yl (Zbk rfl rfl rfl (w64 (by omega) (by omega))) rfl rfl ?_|refine X_yl (Zd8 rfl rfl rfl (by omega) (by omega)) rfl rfl ?_|refine X_yl (Zao rfl rfl hS.cell) rfl rfl ?_|refine Zix rfl rfl rfl rfl hS rfl (by omega) (fun _ hS => ?_)|refine Za1 rfl rfl rfl rfl hS (fun _ hS _ => ?_))|(refine C_id ?_;first|refine Zak ?_|refine Zaa ?_|refine Zaw ?_|refine Zaj rfl ?_)|(refine E_id ?_;first|refine Zae ?_|refine Zer rfl (Ret.mk ?_))|(refine Zbj ?_;first|refine Zbw ?_|refine Zag rfl rfl (fun _ => Zad rfl rfl) rfl rfl ?_|refine Zag rfl rfl (fun _ => Zai rfl rfl) rfl rfl ?_|refine Zag rfl rfl (fun _ => Zaf rfl rfl rfl) rfl rfl ?_|refine Zag rfl rfl (fun _ => Zbx rfl rfl rfl (by omega) (by omega)) rfl rfl ?_|refine Zag rfl rfl (fun _ => Zd8 rfl rfl rfl (by omega) (by omega)) rfl rfl ?_|refine Zbi (fun w' => w'.cell? _ = some _) rfl rfl hS.cell (fun _ hc => Zao rfl rfl hc) rfl rfl ?_|refine Za8 rfl rfl ?_)|(refine Za5 ?_;first|refine And.intro (by repeat (first|exact trivial|refine And.intro (.inl (by decide +kernel)) ?_|refine And.intro (.inr (by first|assumption|exact hS.cell|exact Zal (by assumption)|exact hS.cellI (by omega)|exact hS.cellIP (by omega)|exact hS.cellsN|exact hS.cellB (by omega)|exact hS.cellBA (by omega)|exact hS.cellO 0 (by omega)|exact hS.cellO 1 (by omega)|exact hS.cellIA (by omega)|exact Zal (hc.rd hS).pts|exact hS.cellO 4 (by omega)|exact hS.cellO 5 (by omega)|exact hS.cellO 6 (by omega)|exact hS.cellO 7 (by omega)|exact hS.cellO 8 (by omega)|exact hS.cellO 9 (by omega)|exact hS.cellO 10 (by omega)|exact hS.cellO 11 (by omega)|exact hS.cellO 12 (by omega)|exact hS.cellO 13 (by omega)|exact hS.cellO 2 (by omega)|exact hS.cellO 3 (by omega))) ?_)) ?_))
  rw [ei] at hS
  refine ⟨trivial,hend _ _ e1 ?_⟩
  rw [if_neg h64]
  exact hS
end Cr
namespace Go.Proofs.YteonaddammjopaaGreatDoor
open Go.ChangeShapes Go.WideShapes Go.ChangeAt Go.RowKit
set_option maxRecDepth 100000
def tab32 : List Int := [0,1,28,2,29,14,24,3,30,22,20,15,25,17,4,8,31,27,13,23,21,19,16,7,26,12,18,6,11,5,10,9]
def tab64 : List Int := [0,1,56,2,57,49,28,3,61,58,42,50,38,29,17,4,62,47,59,36,45,43,51,22,53,39,33,30,24,18,12,5,63,55,48,27,60,41,37,16,46,35,44,21,52,32,23,11,54,26,40,15,34,20,31,10,25,14,19,9,13,8,7,6]
def rangeText : List UInt8 := [118,97,108,117,101,32,111,117,116,32,111,102,32,114,97,110,103,101]
def Ztk : List UInt8 := [105,110,118,97,108,105,100,32,115,121,110,116,97,120]
noncomputable def Zsj : Nat := (World.holding Tryz.prog default ⟨#[],#[],[]⟩).heap.size
def u8s (l : List Int) : List Value := l.map fun n => Value.int .u8 n
noncomputable def Zlo (os : Os) : World :=
 let w0 := World.holding Tryz.prog os ⟨#[.cells #[.string (Cr.str rangeText)] 407,.cells #[.string (Cr.str Ztk)] 407],#[],[]⟩
 { w0 with heap := ((((((w0.heap.modify 4 (tabOf (u8s tab32))).modify 5 (tabOf (u8s tab64))).modify 2 (tabOf (Lib.pow10Tab.map fun z => Value.int .u64 z))).modify 7 (tabOf [.iface 405 (.pointer (some ⟨Zsj,0,none⟩))])).modify 6 (tabOf [.iface 405 (.pointer (some ⟨Zsj + 1,0,none⟩))])).modify 1 (tabOf (Cr.ints .u32 Cr.roundL))).modify 0 (tabOf (Cr.ints .u32 Cr.firstL)) }
theorem Zre {W : World} (h1 : Lib.TabIs Tryz.prog W "creel/digest.round" .u32 Cr.roundL) (h2 : Lib.TabIs Tryz.prog W "creel/digest.first" .u32 Cr.firstL) : Cr.Gl W Cr.noF Cr.roundL Cr.firstL := by
 refine ⟨(Cr.Rd.ofCells (fun i v hv => ?_) (by simp [Cr.ints,Cr.roundL])).ro,(Cr.Rd.ofCells (fun i v hv => ?_) (by simp [Cr.ints,Cr.firstL])).ro,rfl,rfl⟩
 ·have hi : i < Cr.roundL.length := by
   rcases Nat.lt_or_ge i Cr.roundL.length with h | h
   ·exact h
   ·rw [List.getElem?_eq_none (by rw [Cr.ints_length]; omega)] at hv; cases hv
  rw [Cr.ints_get hi] at hv
  rw [← Option.some.inj hv]
  exact h1.cell (by kernel_rfl) i hi
 ·have hi : i < Cr.firstL.length := by
   rcases Nat.lt_or_ge i Cr.firstL.length with h | h
   ·exact h
   ·rw [List.getElem?_eq_none (by rw [Cr.ints_length]; omega)] at hv; cases hv
  rw [Cr.ints_get hi] at hv
  rw [← Option.some.inj hv]
  exact h2.cell (by kernel_rfl) i hi
end Go.Proofs.YteonaddammjopaaGreatDoor
