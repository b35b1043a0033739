/-
  Closed runs, 2: the evaluator. It runs a function's code over named memory ('SV', 'SO'); it fails where the memory's addresses, capacities or the order of evaluation could show. No program is in sight.
  Closed runs, 3: the operations that touch no memory: the evaluator's value is the run's. Over any program.
  Arrays of strings, structs of strings and numbers, errors that may be nil: compared. Over any program.
  Closed runs, 4: the other operations that touch no memory. Over any program.
  Closed runs, 5: all operations that touch no memory ('pureOp_ok'). Over any program.
  Maps with keys of an integer type or strings: made, looked up, updated. Over any program.
-/
import Derived.Test.YtooeiknmpndcgaaGreatDoorTrl5
import Derived.Test.YtooeiknmpndcgaaGreatDoorTrl4
import Derived.Laws.StructEq
import Derived.MapKept
namespace Cr.Cl
open Go

structure TI where
 und : TypeDesc
 zero : List SV
 size : Nat
 bytes : Nat
 agg : Bool
 pl : List (Nat × Nat)
 ng : Bool
 deriving Inhabited
structure Mem where
 h : Heap
 n : Nat
abbrev NatF := List SV → Mem → Option (SV × Mem)
structure Ctx where
 fn : Tr Func
 ty : Tr TI
 nat : Tr NatF
 ext : Tr NatF

mutual
def ofV : Value → Option SV
 | .bool b => some (.b b)
 | .int k n => some (.i k n)
 | .string s => some (.s (s.data.toList.map UInt8.toNat))
 | .pointer none => some .p0
 | .slice none 0 0 => some .sl0
 | .map none => some .m0
 | .nilFunc => some .f0
 | .nilIface => some .ifc0
 | .agg ⟨l⟩ => match ofVs l with | some r => some (.agg r) | none => none
 | .tuple ⟨l⟩ => match ofVs l with | some r => some (.tup r) | none => none
 | _ => none
def ofVs : List Value → Option (List SV)
 | [] => some []
 | v :: l => match ofV v with
  | some a => match ofVs l with | some b => some (a :: b) | none => none
  | none => none
end
def opnd (e : Envs) : Operand → Option SV
 | .tmp t => e.get t
 | .const v => ofV v
 | .global g => some (.pg g 0)
 | .func f => some (.fn (.func f) [] [])
def opnds (e : Envs) : List Operand → Option (List SV)
 | [] => some []
 | x :: l => match opnd e x with
  | some a => match opnds e l with | some b => some (a :: b) | none => none
  | none => none
def cells : SV → List SV
 | .agg l => l
 | v => [v]
def one1 : SV → Bool
 | .agg _ | .tup _ => false
 | _ => true
def seg (l : List SV) (k n : Nat) : List SV := (l.drop k).take n
def lput (l : List SV) (k : Nat) (vs : List SV) : List SV := l.take k ++ vs ++ l.drop (k + vs.length)
def leq : List Nat → List Nat → Bool
 | [], [] => true
 | a :: x, b :: y => bif Nat.beq a b then leq x y else false
 | _, _ => false
def llt : List Nat → List Nat → Bool
 | _, [] => false
 | [], _ :: _ => true
 | a :: x, b :: y => bif Nat.blt a b then true else bif Nat.beq a b then llt x y else false
def ieq : Int → Int → Bool
 | .ofNat a, .ofNat b => Nat.beq a b
 | .negSucc a, .negSucc b => Nat.beq a b
 | _, _ => false
def ilt : Int → Int → Bool
 | .ofNat a, .ofNat b => Nat.blt a b
 | .negSucc a, .negSucc b => Nat.blt b a
 | .negSucc _, .ofNat _ => true
 | .ofNat _, .negSucc _ => false
def ikn : IntKind → Nat
 | .i8 => 0 | .i16 => 1 | .i32 => 2 | .i64 => 3 | .u8 => 4 | .u16 => 5 | .u32 => 6 | .u64 => 7
def ikeq (a b : IntKind) : Bool := Nat.beq (ikn a) (ikn b)
def isC : Operand → Bool
 | .const _ => true
 | _ => false

/-! ### operations that touch no memory -/
def bitsOf (k : IntKind) (n : Int) : Nat := (n % (2 ^ k.bits : Int)).toNat
def binI (op : BinOp) (k : IntKind) (a b : Int) : Option SV :=
 match op with
 | .add => some (.i k (k.wrap (a + b)))
 | .sub => some (.i k (k.wrap (a - b)))
 | .mul => some (.i k (k.wrap (a * b)))
 | .quo => bif ieq b 0 then none else some (.i k (k.wrap (a.tdiv b)))
 | .rem => bif ieq b 0 then none else some (.i k (a.tmod b))
 | .eql => some (.b (ieq a b))
 | .neq => some (.b (!ieq a b))
 | .lss => some (.b (ilt a b))
 | .leq => some (.b (!ilt b a))
 | .gtr => some (.b (ilt b a))
 | .geq => some (.b (!ilt a b))
 | .and => some (.i k (k.wrap (Nat.land (bitsOf k a) (bitsOf k b))))
 | .or => some (.i k (k.wrap (Nat.lor (bitsOf k a) (bitsOf k b))))
 | .xor => some (.i k (k.wrap (Nat.xor (bitsOf k a) (bitsOf k b))))
 | _ => none
def binS (op : BinOp) (a b : List Nat) : Option SV :=
 match op with
 | .add => bif Nat.blt (a.length + b.length) 1000000 then some (.s (a ++ b)) else none
 | .eql => some (.b (leq a b))
 | .neq => some (.b (!leq a b))
 | .lss => some (.b (llt a b))
 | .leq => some (.b (llt a b || leq a b))
 | .gtr => some (.b (!(llt a b || leq a b)))
 | .geq => some (.b (!llt a b))
 | _ => none
def isNil : SV → Option Bool
 | .p0 | .sl0 | .m0 | .f0 => some true
 | .p _ _ | .pg _ _ | .sl .. | .slu .. | .sle | .m _ | .fn .. => some false
 | _ => none
def sortOf : SV → Nat
 | .p0 | .p _ _ | .pg _ _ => 1
 | .sl0 | .sl .. | .slu .. | .sle => 2
 | .m0 | .m _ => 3
 | .f0 | .fn .. => 4
 | _ => 0
def eqv (d : TypeDesc) (c : Bool) (a b : SV) : Option Bool :=
 match d, a, b with
 | .bool, .b x, .b y => some (x == y)
 | .interface _, .ifc0, .ifc _ _ | .interface _, .ifc _ _, .ifc0 => some false
 | .interface _, .ifc0, .ifc0 => bif c then some true else none
 | .pointer _, a, .p0 => bif Nat.beq (sortOf a) 1 then isNil a else none
 | .pointer _, .p0, b => bif Nat.beq (sortOf b) 1 then isNil b else none
 | .slice _, a, .sl0 => bif Nat.beq (sortOf a) 2 then isNil a else none
 | .map _ _, a, .m0 => bif Nat.beq (sortOf a) 3 then isNil a else none
 | .func _ _ _, a, .f0 => bif Nat.beq (sortOf a) 4 then isNil a else none
 | _, _, _ => none
variable (Γ : Ctx)
def und (t : TypeId) : Option TypeDesc := match Γ.ty.get t with | some i => some i.und | none => none
def siz (t : TypeId) : Option Nat := match Γ.ty.get t with | some i => some i.size | none => none
def intsOf (k : IntKind) : List SV → Option (List Int)
 | [] => some []
 | .i k' n :: r => bif ikeq k' k then (match intsOf k r with | some l => some (n :: l) | none => none) else none
 | _ => none
def ileq : List Int → List Int → Bool
 | [], [] => true
 | a :: x, b :: y => bif ieq a b then ileq x y else false
 | _, _ => false
def eqArr (t : TypeId) (a b : SV) : Option Bool :=
 match Γ.ty.get t with
 | some ti => bif ti.ng then (match ti.und, a, b with
  | .array n el, .agg xs, .agg ys => match und Γ el with
   | some (.int k) => match siz Γ el with
    | some 1 => match intsOf k xs with
     | some p => match intsOf k ys with
      | some q => bif Nat.beq p.length n && Nat.beq q.length n then some (ileq p q) else none
      | none => none
     | none => none
    | _ => none
   | _ => none
  | _, _, _ => none) else none
 | none => none
def eqAll (t : TypeId) (c : Bool) (a b : SV) : Option Bool :=
 match eqArr Γ t a b with
 | some r => some r
 | none => match und Γ t with
  | some d => eqv d c a b
  | none => none
def bin (op : BinOp) (t : TypeId) (x y : Operand) (a b : SV) : Option SV :=
 match op, a, b with
 | .shl, .i k a, .i _ (.ofNat n) => some (.i k (k.wrap (a * 2 ^ (min n k.bits))))
 | .shr, .i k a, .i _ (.ofNat n) => some (.i k (a.fdiv (2 ^ (min n k.bits))))
 | .shl, _, _ | .shr, _, _ => none
 | op, .i k a, .i k' b => bif ikeq k k' then binI op k a b else none
 | op, .s a, .s b => binS op a b
 | .eql, a, b => match eqAll Γ t (isC x || isC y) a b with | some r => some (.b r) | none => none
 | .neq, a, b => match eqAll Γ t (isC x || isC y) a b with | some r => some (.b (!r)) | none => none
 | _, _, _ => none
def un (op : UnOp) (a : SV) : Option SV :=
 match op, a with
 | .not, .b x => some (.b (!x))
 | .neg, .i k n => some (.i k (k.wrap (0 - n)))
 | _, _ => none
def part (t : TypeId) (cs : List SV) (off : Nat) : Option SV :=
 match Γ.ty.get t with
 | some i => bif i.agg then (bif Nat.ble (off + i.size) cs.length then some (.agg (seg cs off i.size)) else none) else cs[off]?
 | none => none
def bnd (e : Envs) (d : Nat) : Option Operand → Option Nat
 | none => some d
 | some x => match opnd e x with | some (.i _ (.ofNat n)) => some n | _ => none
def evNil : SV → Option SV
 | .p o f => some (.p o f)
 | .pg o f => some (.pg o f)
 | .fn (.func f) a c => some (.fn (.func f) a c)
 | .ifc t v => some (.ifc t v)
 | _ => none
def evConv (d : TypeDesc) (v : SV) : Option SV :=
 match d, v with
 | .int k, .i _ n => some (.i k (k.wrap n))
 | .string, .s l => some (.s l)
 | _, _ => none
def evSlStr (e : Envs) (l : List Nat) (lo hi mx : Option Operand) : Option SV :=
 match mx with
 | some _ => none
 | none => match bnd e l.length hi with
  | some h => match bnd e 0 lo with
   | some a => bif Nat.ble a h then (bif Nat.ble h l.length then some (.s ((l.drop a).take (h - a))) else none) else none
   | none => none
  | none => none
def slK (o off sz l h m : Nat) : SV := .sl o (bif Nat.beq m l then off else off + l * sz) (h - l) (m - l)
def evSl (e : Envs) (sz : Nat) (v : SV) (lo hi mx : Option Operand) : Option SV :=
 match v with
 | .sl o off n c => match bnd e c mx with
  | some m => match bnd e n hi with
   | some h => match bnd e 0 lo with
    | some l => bif Nat.ble l h then (bif Nat.ble h m then (bif Nat.ble m c then some (slK o off sz l h m) else none) else none) else none
    | none => none
   | none => none
  | none => none
 | .sl0 => match bnd e 0 mx, bnd e 0 hi, bnd e 0 lo with
  | some 0, some 0, some 0 => some .sl0
  | _, _, _ => none
 | .slu o sz' k n => match mx with
  | none => match bnd e n hi with
   | some h => match bnd e 0 lo with
    | some l => bif Nat.ble l h then (bif Nat.ble h n then (bif Nat.beq sz sz' then
      (bif Nat.blt l n then some (.slu o sz (k + l) (h - l)) else bif Nat.beq l 0 then some (.slu o sz k h) else some .sle) else none) else none) else none
    | none => none
   | none => none
  | some x => match opnd e x with
   | some (.i _ (.ofNat m)) => match bnd e n hi with
    | some h => match bnd e 0 lo with
     | some l => bif Nat.ble l h then (bif Nat.ble h m then (bif Nat.ble m n then (bif Nat.beq sz sz' then some (slK o (k * sz) sz l h m) else none) else none) else none) else none
     | none => none
    | none => none
   | _ => none
 | .sle => match mx, bnd e 0 hi, bnd e 0 lo with
  | none, some 0, some 0 => some .sle
  | _, _, _ => none
 | _ => none
def evArrSl (e : Envs) (sz n : Nat) (v : SV) (lo hi mx : Option Operand) : Option SV :=
 match v with
 | .p o off => evSl e sz (.sl o off n n) lo hi mx
 | _ => none
def evFieldAddr (pl : List (Nat × Nat)) (f : Nat) (v : SV) : Option SV :=
 match pl[f]? with
 | some (off, _ + 1) => match v with
  | .p o i => some (.p o (i + off))
  | _ => none
 | _ => none
def evIndexAddr (sz : Nat) (d : TypeDesc) (v : SV) (k : Nat) : Option SV :=
 match d, v with
 | .array n _, .p o off => bif Nat.blt k n then some (.p o (off + k * sz)) else none
 | .slice _, .sl o off n _ => bif Nat.blt k n then some (.p o (off + k * sz)) else none
 | .slice _, .slu o sz' j n => bif Nat.blt k n then (bif Nat.beq sz sz' then some (.p o (j * sz + k * sz)) else none) else none
 | _, _ => none
def elemOf : TypeDesc → Option TypeId
 | .array _ e => some e
 | .slice e => some e
 | _ => none
def evParts (e : Envs) (pl : Nat → Option (Nat × Nat)) : List (Nat × Operand) → Option (List (Nat × Nat × SV))
 | [] => some []
 | (i, x) :: r => match pl i with
  | some (off, n) => match opnd e x with
   | some v => bif Nat.beq (cells v).length n then (match evParts e pl r with | some l => some ((off, n, v) :: l) | none => none) else none
   | none => none
  | none => none
def fillS : List SV → List (Nat × Nat × SV) → Option (List SV)
 | cs, [] => some cs
 | cs, (off, n, v) :: r => bif Nat.ble (off + n) cs.length then fillS (lput cs off (cells v)) r else none
def lenOf : SV → Option Nat
 | .sl0 | .sle => some 0
 | .sl _ _ n _ | .slu _ _ _ n => some n
 | _ => none
def evLen (d : TypeDesc) (v : SV) : Option Nat :=
 match d, v with
 | .string, .s l => some l.length
 | .slice _, v => lenOf v
 | .array n _, _ => some n
 | _, _ => none
def evBuiltin (e : Envs) (b : Builtin) (args : List Operand) (ts : List TypeId) : Option SV :=
 match b, args, ts with
 | .len, [x], t :: _ => match und Γ t with
  | some d => match opnd e x with
   | some v => match evLen d v with | some n => some (.i .i64 (.ofNat n)) | none => none
   | none => none
  | none => none
 | .cap, [x], t :: _ => match und Γ t with
  | some (.slice _) => match opnd e x with
   | some (.sl _ _ _ c) => some (.i .i64 (.ofNat c))
   | some .sl0 => some (.i .i64 0)
   | _ => none
  | _ => none
 | .min, [x, y], _ => match opnd e x with
  | some (.i k a) => match opnd e y with | some (.i _ b) => some (.i k (bif ilt b a then b else a)) | _ => none
  | _ => none
 | .max, [x, y], _ => match opnd e x with
  | some (.i k a) => match opnd e y with | some (.i _ b) => some (.i k (bif ilt a b then b else a)) | _ => none
  | _ => none
 | _, _, _ => none
def isIfc : TypeDesc → Bool
 | .interface _ => true
 | _ => false
def okMx : Option Operand → Option Operand → Bool
 | some _, none => false
 | _, _ => true
def pureOp (e : Envs) (op : Op) : Option SV :=
 match op with
 | .move x | .assign x => opnd e x
 | .pick c a b => match opnd e c with | some (.b t) => (bif t then opnd e a else opnd e b) | _ => none
 | .nilCheck x => match opnd e x with | some v => evNil v | none => none
 | .binOp op t x y _ => match opnd e x with
  | some a => match opnd e y with | some b => bin Γ op t x y a b | none => none
  | none => none
 | .unOp op _ x => match opnd e x with | some a => un op a | none => none
 | .convert s d x => match und Γ s with
  | some _ => match und Γ d with
   | some d => match opnd e x with | some v => evConv d v | none => none
   | none => none
  | none => none
 | .makeInterface t x => match und Γ t with
  | some d => bif isIfc d then none else (match opnd e x with | some v => some (.ifc t v) | none => none)
  | none => none
 | .makeFunc f a c => match opnds e a.toList with
  | some x => match opnds e c.toList with | some y => some (.fn f x y) | none => none
  | none => none
 | .slice t x lo hi mx => match und Γ t with
  | some .string => match opnd e x with | some (.s l) => evSlStr e l lo hi mx | _ => none
  | some (.slice el) => match siz Γ el with
   | some sz => match opnd e x with | some v => (bif okMx mx hi then evSl e sz v lo hi mx else none) | none => none
   | none => none
  | some (.array n el) => match siz Γ el with
   | some sz => match opnd e x with | some v => (bif okMx mx hi then evArrSl e sz n v lo hi mx else none) | none => none
   | none => none
  | _ => none
 | .fieldAddr t x f => match Γ.ty.get t with
  | some ti => match ti.und with
   | .struct _ => match opnd e x with | some v => evFieldAddr ti.pl f v | none => none
   | _ => none
  | none => none
 | .field t x f => match und Γ t with
  | some (.struct fs) => match fs[f]? with
   | some fd => match opnd e x with
    | some (.agg cs) => part Γ fd.type cs fd.offset
    | _ => none
   | none => none
  | _ => none
 | .indexAddr t x i => match und Γ t with
  | some d => match elemOf d with
   | some el => match siz Γ el with
    | some sz => match opnd e x with
     | some v => match opnd e i with | some (.i _ (.ofNat k)) => evIndexAddr sz d v k | _ => none
     | none => none
    | none => none
   | none => none
  | none => none
 | .index t x i => match und Γ t with
  | some (.array n el) => match siz Γ el with
   | some sz => match opnd e x with
    | some (.agg cs) => match opnd e i with | some (.i _ (.ofNat k)) => (bif Nat.blt k n then part Γ el cs (k * sz) else none) | _ => none
    | _ => none
   | none => none
  | some .string => match opnd e x with
   | some (.s l) => match opnd e i with | some (.i _ (.ofNat k)) => (match l[k]? with | some c => some (.i .u8 (.ofNat c)) | none => none) | _ => none
   | _ => none
  | _ => none
 | .extract x i => match opnd e x with | some (.tup l) => l[i]? | _ => none
 | .build t parts => match Γ.ty.get t with
  | some ti => match ti.und with
   | .struct _ => match evParts e (fun i => ti.pl[i]?) parts.toList with
    | some ps => match fillS ti.zero ps with | some l => some (.agg l) | none => none
    | none => none
   | .array _ el => match siz Γ el with
    | some sz => match evParts e (fun i => some (i * sz, sz)) parts.toList with
     | some ps => match fillS ti.zero ps with | some l => some (.agg l) | none => none
     | none => none
    | none => none
   | _ => none
  | none => none
 | .sliceToArrayPointer t x => match und Γ t with
  | some (.array n _) => match opnd e x with
   | some (.sl o off len _) => bif Nat.ble n len then some (.p o off) else none
   | some (.slu o sz k len) => bif Nat.ble n len then some (.p o (k * sz)) else none
   | _ => none
  | _ => none
 | .call { callee := .builtin b, args, argTypes } => evBuiltin Γ e b args.toList argTypes.toList
 | _ => none

/-! ### operations that read memory -/
def rowOf (h : Heap) (o : Nat) : Option (List SV) :=
 match h.get o with
 | some (.row _ c) => some c
 | some (.grow _ _ c) => some c
 | some (.ro c) => some c
 | _ => none
def loadS (h : Heap) (t : TypeId) (o off : Nat) : Option SV :=
 match rowOf h o with
 | some c => part Γ t c off
 | none => none
def keq (d : TypeDesc) (k a : SV) : Option Bool :=
 match d, k, a with
 | .int _, .i k x, .i k' y => bif ikeq k k' then some (ieq x y) else none
 | .string, .s x, .s y => some (leq x y)
 | .bool, .b x, .b y => some (x == y)
 | _, _, _ => none
def findK (d : TypeDesc) (k : SV) : List (SV × SV × Nat) → Option (Option SV)
 | [] => some none
 | (a, v, _) :: r => match keq d k a with
  | some true => some (some v)
  | some false => findK d k r
  | none => none
def keyOk (d : TypeDesc) (k : SV) : Bool :=
 match d, k with
 | .int k, .i k' _ => ikeq k' k
 | .string, .s _ => true
 | .bool, .b _ => true
 | _, _ => false
def findKey (d : TypeDesc) (k : SV) (es : List (SV × SV × Nat)) : Option (Option SV) := bif keyOk d k then findK d k es else none
def zeroV (ti : TI) : Option SV := bif ti.agg then some (.agg ti.zero) else match ti.zero with | [v] => some v | _ => none
def byteList : List SV → Option (List Nat)
 | [] => some []
 | .i .u8 (.ofNat n) :: r => bif Nat.blt n 256 then (match byteList r with | some l => some (n :: l) | none => none) else none
 | _ => none
def entriesOf (h : Heap) : SV → Option (List (SV × SV × Nat))
 | .m0 => some []
 | .m o => match h.get o with | some (.mp es _) => some es | _ => none
 | _ => none
def segOf (h : Heap) (sz : Nat) (n : Nat) : SV → Option (List SV)
 | .sl0 | .sle => bif Nat.beq n 0 then some [] else none
 | .sl o off _ _ => match rowOf h o with
  | some c => bif Nat.ble (off + n * sz) c.length then some (seg c off (n * sz)) else none
  | none => none
 | .slu o sz' k _ => bif Nat.beq sz sz' then (match rowOf h o with
  | some c => bif Nat.ble (k * sz + n * sz) c.length then some (seg c (k * sz) (n * sz)) else none
  | none => none) else none
 | _ => none
def readOp (e : Envs) (h : Heap) (op : Op) : Option SV :=
 match op with
 | .load t x => match opnd e x with
  | some (.p o off) => loadS Γ h t o off
  | _ => none
 | .lookup t x k ok => match und Γ t with
  | some (.map kt el) => match und Γ kt with
   | some d => match Γ.ty.get el with
    | some ti => match zeroV ti with
     | some z => match opnd e x with
      | some v => match opnd e k with
       | some k => match entriesOf h v with
        | some es => match findKey d k es with
         | some (some v) => some (bif ok then .tup [v, .b true] else v)
         | some none => some (bif ok then .tup [z, .b false] else z)
         | none => none
        | none => none
       | none => none
      | none => none
     | none => none
    | none => none
   | none => none
  | _ => none
 | .convert s d x => match und Γ s with
  | some (.slice el) => match und Γ el with
   | some (.int .u8) => match und Γ d with
    | some .string => match opnd e x with
     | some v => match lenOf v with
      | some n => match segOf h 1 n v with
       | some c => match byteList c with | some l => some (.s l) | none => none
       | none => none
      | none => none
     | none => none
    | _ => none
   | _ => none
  | _ => none
 | .call { callee := .builtin .len, args, argTypes } => match args.toList, argTypes.toList with
  | [x], t :: _ => match und Γ t with
   | some (.map _ _) => match opnd e x with
    | some v => match entriesOf h v with | some es => some (.i .i64 (.ofNat es.length)) | none => none
    | none => none
   | _ => none
  | _, _ => none
 | _ => none

/-! ### operations that make an object of their own -/
def rep : Nat → List SV → List SV
 | 0, _ => []
 | n + 1, l => l ++ rep n l
def bytesS (l : List Nat) : List SV := l.map fun c => .i .u8 (.ofNat c)
inductive Mk where
 | p
 | sl (len cap : Nat)
 | slu (sz len : Nat)
 | m
def Mk.at : Mk → Nat → SV
 | .p, n => .p n 0
 | .sl a c, n => .sl n 0 a c
 | .slu sz a, n => .slu n sz 0 a
 | .m, n => .m n
def allocOp (e : Envs) (op : Op) : Option (SO × Mk) :=
 match op with
 | .alloc t => match Γ.ty.get t with | some ti => some (.row t ti.zero, .p) | none => none
 | .box t x => match opnd e x with | some v => some (.row t (cells v), .p) | none => none
 | .buildSlice t len parts => match und Γ t with
  | some (.slice el) => match Γ.ty.get el with
   | some ti => match evParts e (fun i => some (i * ti.size, ti.size)) parts.toList with
    | some ps => bif Nat.ble (len * ti.size) 16777216 then (bif Nat.ble len 16777216 then (match fillS (rep len ti.zero) ps with | some l => some (.grow el ti.size l, .sl len len) | none => none) else none) else none
    | none => none
   | none => none
  | _ => none
 | .makeMap t r => match r with
  | none => some (.mp [] 0, .m)
  | some x => match und Γ t with
   | some (.map _ _) => match opnd e x with | some (.i _ _) => some (.mp [] 0, .m) | _ => none
   | _ => none
 | .makeSlice t l c => match und Γ t with
  | some (.slice el) => match Γ.ty.get el with
   | some ti => match opnd e l with
    | some (.i _ (.ofNat a)) => match opnd e c with
     | some (.i _ (.ofNat b)) => bif Nat.ble a b then (bif Nat.ble (b * ti.bytes) 1000000000 then (bif Nat.ble b 1000000000 then some (.grow el ti.size (rep b ti.zero), .sl a b) else none) else none) else none
     | _ => none
    | _ => none
   | none => none
  | _ => none
 | .convert s d x => match und Γ s with
  | some .string => match und Γ d with
   | some (.slice el) => match und Γ el with
    | some (.int .u8) => match opnd e x with
     | some (.s l) => bif Nat.ble l.length 1000000 then some (.ro (bytesS l), .slu 1 l.length) else none
     | _ => none
    | _ => none
   | _ => none
  | _ => none
 | _ => none

/-! ### operations that change memory -/
def storeS (h : Heap) (o off : Nat) (vs : List SV) : Option Heap :=
 bif (match vs with | [] => false | _ :: _ => vs.all one1) then
  match h.get o with
  | some (.row t c) => bif Nat.ble (off + vs.length) c.length then some (h.set o (.row t (lput c off vs))) else none
  | some (.grow t sz c) => bif Nat.ble (off + vs.length) c.length then some (h.set o (.grow t sz (lput c off vs))) else none
  | _ => none
 else none
def setK (d : TypeDesc) (k v : SV) : List (SV × SV × Nat) → List (SV × SV × Nat)
 | [] => []
 | (a, u, st) :: r => match keq d k a with
  | some true => (k, v, st) :: r
  | _ => (a, u, st) :: setK d k v r
def delK (d : TypeDesc) (k : SV) : List (SV × SV × Nat) → List (SV × SV × Nat)
 | [] => []
 | (a, u, st) :: r => match keq d k a with
  | some true => r
  | _ => (a, u, st) :: delK d k r
def appSl (m : Mem) (ti : TI) (el : TypeId) (xs : List SV) (k o off len cap : Nat) : Option (SV × Mem) :=
 bif Nat.ble (len + k) cap then (match storeS m.h o (off + len * ti.size) xs with | some h => some (.sl o off (len + k) cap, ⟨h, m.n⟩) | none => none)
 else match segOf m.h ti.size len (.sl o off len cap) with
  | some c => some (.slu m.n ti.size 0 (len + k), ⟨m.h.set m.n (.grow el ti.size (c ++ xs)), m.n + 1⟩)
  | none => none
def appSlu (m : Mem) (ti : TI) (el : TypeId) (xs : List SV) (k o sz j len : Nat) : Option (SV × Mem) :=
  bif Nat.beq sz ti.size && Nat.beq j 0 then (match m.h.get o with
    | some (.grow t sz' c) => bif Nat.beq sz' sz && Nat.beq t el && Nat.ble (len * sz) c.length then
        (bif Nat.ble ((len + k) * sz) c.length then (match storeS m.h o (len * sz) xs with | some h => some (.slu o sz 0 (len + k), ⟨h, m.n⟩) | none => none)
         else some (.slu m.n sz 0 (len + k), ⟨(m.h.erase o).set m.n (.grow t sz (c.take (len * sz) ++ xs)), m.n + 1⟩)) else none
    | _ => none) else none
def appendS (m : Mem) (ti : TI) (el : TypeId) (s : SV) (xs : List SV) (k : Nat) : Option (SV × Mem) :=
 bif xs.all one1 && Nat.blt 0 ti.size && Nat.blt m.n top then
  match lenOf s with
  | some n => bif Nat.ble ((n + k) * ti.bytes) 1000000000 && Nat.ble (n + k) 1000000000 then
   bif Nat.beq k 0 then some (s, m) else match s with
   | .sl0 => some (.slu m.n ti.size 0 k, ⟨m.h.set m.n (.grow el ti.size xs), m.n + 1⟩)
   | .sl o off len cap => appSl m ti el xs k o off len cap
   | .slu o sz j len => appSlu m ti el xs k o sz j len
   | _ => none
  else none
  | none => none
 else none
def srcOf (h : Heap) (sz a : Nat) (x : SV) : Option (Nat × List SV) :=
 match x with
 | .s l => some (Nat.min l.length a, bytesS (l.take (Nat.min l.length a)))
 | x => match lenOf x with
  | some b => match segOf h sz (Nat.min b a) x with | some c => some (Nat.min b a, c) | none => none
  | none => none
def dstAt (sz : Nat) (d : SV) : Option (Nat × Nat) :=
 match d with
 | .sl o off _ _ => some (o, off)
 | .slu o sz' k _ => bif Nat.beq sz sz' then some (o, k * sz) else none
 | _ => none
def evMain (m : Mem) (b : Builtin) (args : List SV) (ts : List TypeId) : Option (SV × Mem) :=
 match b, args, ts with
 | .append, [s, x], [st, xt] => match und Γ st with
  | some (.slice el) => match Γ.ty.get el with
   | some ti => match und Γ xt with
    | some d => match d, x with
     | .int _, .i _ (.ofNat k) => bif Nat.ble k 1000000000 then (bif Nat.ble (k * ti.bytes) 1000000000 then appendS m ti el s (rep k ti.zero) k else none) else none
     | .slice _, x => match lenOf x with
      | some k => match segOf m.h ti.size k x with
       | some xs => appendS m ti el s xs k
       | none => none
      | none => none
     | .string, .s l => bif Nat.beq ti.size 1 then appendS m ti el s (bytesS l) l.length else none
     | _, _ => none
    | none => none
   | none => none
  | _ => none
 | .copy, [d, x], st :: _ => match und Γ st with
  | some (.slice el) => match siz Γ el with
   | some sz => match lenOf d with
    | some a => match srcOf m.h sz a x with
     | some (n, xs) => bif Nat.beq n 0 then some (.i .i64 (.ofNat 0), m) else (match dstAt sz d with
      | some (o, off) => match storeS m.h o off xs with | some h => some (.i .i64 (.ofNat n), ⟨h, m.n⟩) | none => none
      | none => none)
     | none => none
    | none => none
   | none => none
  | _ => none
 | .clear, [d], st :: _ => match und Γ st with
  | some (.slice el) => match Γ.ty.get el with
   | some ti => match lenOf d with
    | some n => bif Nat.beq n 0 then some (.tup [], m) else (match dstAt ti.size d with
     | some (o, off) => match storeS m.h o off (rep n ti.zero) with | some h => some (.tup [], ⟨h, m.n⟩) | none => none
     | none => none)
    | none => none
   | none => none
  | _ => none
 | .delete, [.m o, k], t :: _ => match und Γ t with
  | some (.map kt _) => match und Γ kt with
   | some d => match m.h.get o with
    | some (.mp es cl) => match findKey d k es with
     | some _ => some (.tup [], ⟨m.h.set o (.mp (delK d k es) cl), m.n⟩)
     | none => none
    | _ => none
   | none => none
  | _ => none
 | _, _, _ => none
def mainOp (e : Envs) (m : Mem) (op : Op) : Option (SV × Mem) :=
 match op with
 | .store t x y => match opnd e x with
  | some (.p o off) => match opnd e y with
   | some v => match siz Γ t with
    | some sz => bif Nat.beq (cells v).length sz then (match storeS m.h o off (cells v) with | some h => some (.tup [], ⟨h, m.n⟩) | none => none) else none
    | none => none
   | none => none
  | _ => none
 | .mapUpdate t x k v | .insert t x k v => match und Γ t with
  | some (.map kt _) => match und Γ kt with
   | some d => match opnd e x with
    | some (.m o) => match opnd e k with
     | some k => match opnd e v with
      | some v => match m.h.get o with
       | some (.mp es cl) => match findKey d k es with
        | some (some _) => some (.tup [], ⟨m.h.set o (.mp (setK d k v es) cl), m.n⟩)
        | some none => some (.tup [], ⟨m.h.set o (.mp (es ++ [(k, v, cl)]) (cl + 1)), m.n⟩)
        | none => none
       | _ => none
      | none => none
     | none => none
    | _ => none
   | none => none
  | _ => none
 | .convert s d x => bif Nat.beq s d then (match und Γ d with
  | some (.slice el) => match und Γ el with
   | some (.int .u8) => match opnd e x with
    | some (.sl o 0 n c) => match m.h.get o with
     | some (.grow _ sz cs) => bif Nat.beq sz 1 && Nat.blt 0 cs.length then some (.sl o 0 n c, ⟨m.h.set o (.ro cs), m.n⟩) else none
     | _ => none
    | _ => none
   | _ => none
  | _ => none) else none
 | .call { callee := .builtin b, args, argTypes } => match opnds e args.toList with
  | some xs => evMain Γ m b xs argTypes.toList
  | none => none
 | _ => none
end Cr.Cl
namespace Cr.Cl
open Go
set_option maxRecDepth 4000

structure TyOk (P : Program) (t : TypeId) (ti : TI) : Prop where
 und : P.underlying t = some ti.und
 inf : ∃ z, Inf P t z ti.size ti.bytes ∧ ofVs z.cells.toList = some ti.zero ∧ (ti.agg = true → ∃ l, z = .agg l) ∧ (ti.agg = false → z.cells = #[z])
 agg : ∀ w, (isAgg t).run P w = .ok ti.agg w
 str : ∀ fs, ti.und = .struct fs → Str P t ti.pl
 ng : ti.ng = true → P.eqGuardType P.depth t = false
def CtxTy (P : Program) (Γ : Ctx) : Prop := ∀ t ti, Γ.ty.get t = some ti → TyOk P t ti

theorem bs_str (l : List Nat) : bs l = str (l.map UInt8.ofNat) := rfl
theorem back_nat {l : List Nat} (h : ∀ x ∈ l, x < 256) : (l.map UInt8.ofNat).map UInt8.toNat = l := by
 rw [List.map_map]
 conv => rhs; rw [← List.map_id l]
 apply List.map_congr_left
 intro x hx
 simp [Nat.mod_eq_of_lt (h x hx)]
theorem bs_inj {a b : List Nat} (ha : ∀ x ∈ a, x < 256) (hb : ∀ x ∈ b, x < 256) (h : a.map UInt8.ofNat = b.map UInt8.ofNat) : a = b := by
 rw [← back_nat ha, ← back_nat hb, h]

section
variable {ρ : Rho}
mutual
theorem ofV_ok : ∀ (v : Value) (s : SV), ofV v = some s → Rep ρ s v
 | .bool b, s, h => by simp only [ofV, Option.some.injEq] at h; subst h; rfl
 | .int k n, s, h => by simp only [ofV, Option.some.injEq] at h; subst h; rfl
 | .string x, s, h => by
  simp only [ofV, Option.some.injEq] at h; subst h
  refine ⟨fun y hy => ?_, ?_⟩
  ·obtain ⟨c, _, rfl⟩ := List.mem_map.1 hy; exact c.toNat_lt
  ·obtain ⟨⟨l⟩⟩ := x
   simp [bs, List.map_map, Function.comp_def]
 | .pointer none, s, h => by simp only [ofV, Option.some.injEq] at h; subst h; rfl
 | .slice none 0 0, s, h => by simp only [ofV, Option.some.injEq] at h; subst h; rfl
 | .map none, s, h => by simp only [ofV, Option.some.injEq] at h; subst h; rfl
 | .nilFunc, s, h => by simp only [ofV, Option.some.injEq] at h; subst h; rfl
 | .nilIface, s, h => by simp only [ofV, Option.some.injEq] at h; subst h; rfl
 | .agg ⟨l⟩, s, h => by
  simp only [ofV] at h
  split at h
  ·rename_i r hr; cases h; exact ⟨l, ofVs_ok l r hr, rfl⟩
  ·cases h
 | .tuple ⟨l⟩, s, h => by
  simp only [ofV] at h
  split at h
  ·rename_i r hr; cases h; exact ⟨l, ofVs_ok l r hr, rfl⟩
  ·cases h
 | .float .., s, h => by simp [ofV] at h
 | .complex .., s, h => by simp [ofV] at h
 | .pointer (some _), s, h => by simp [ofV] at h
 | .slice (some _) _ _, s, h => by simp [ofV] at h
 | .slice none (_ + 1) _, s, h => by simp [ofV] at h
 | .slice none 0 (_ + 1), s, h => by simp [ofV] at h
 | .map (some _), s, h => by simp [ofV] at h
 | .chan _, s, h => by simp [ofV] at h
 | .func .., s, h => by simp [ofV] at h
 | .iface .., s, h => by simp [ofV] at h
theorem ofVs_ok : ∀ (l : List Value) (r : List SV), ofVs l = some r → RepL ρ r l
 | [], r, h => by simp only [ofVs, Option.some.injEq] at h; subst h; rfl
 | v :: l, r, h => by
  simp only [ofVs] at h
  split at h
  ·rename_i a ha
   split at h
   ·rename_i b hb; cases h; exact RepL.cons (ofV_ok v a ha) (ofVs_ok l b hb)
   ·cases h
  ·cases h
end
theorem opnd_ok {e : Envs} {σ : Env} (he : EnvR ρ e σ) {x : Operand} {s : SV} (h : opnd e x = some s) : ∃ v, Rep ρ s v ∧ ev σ x = some v := by
 cases x with
 | tmp t => exact he t s h
 | const v => exact ⟨v, ofV_ok v s h, rfl⟩
 | global g => simp only [opnd, Option.some.injEq] at h; subst h; exact ⟨_, rfl, rfl⟩
 | func f => simp only [opnd, Option.some.injEq] at h; subst h; exact ⟨_, ⟨[], [], rfl, rfl, rfl⟩, rfl⟩
theorem opnds_ok {e : Envs} {σ : Env} (he : EnvR ρ e σ) : ∀ {xs : List Operand} {s : List SV}, opnds e xs = some s → ∃ vs, RepL ρ s vs ∧ evs σ xs = some vs
 | [], s, h => by simp only [opnds, Option.some.injEq] at h; subst h; exact ⟨[], rfl, rfl⟩
 | x :: l, s, h => by
  simp only [opnds] at h
  split at h
  ·rename_i a ha
   split at h
   ·rename_i b hb
    cases h
    obtain ⟨v, hv, e1⟩ := opnd_ok he ha
    obtain ⟨vs, hvs, e2⟩ := opnds_ok he hb
    exact ⟨v :: vs, RepL.cons hv hvs, by simp [evs, e1, e2]⟩
   ·cases h
  ·cases h
theorem Rep.cells {s : SV} {v : Value} (h : Rep ρ s v) : RepL ρ (cells s) v.cells.toList := by
 cases s <;> simp only [Cl.cells]
 case agg l => obtain ⟨vs, h1, rfl⟩ := h; simpa [Value.cells] using h1
 case b => cases h; exact RepL.cons rfl rfl
 case i => cases h; exact RepL.cons rfl rfl
 case s => obtain ⟨h1, rfl⟩ := h; exact RepL.cons ⟨h1, rfl⟩ rfl
 case p0 => cases h; exact RepL.cons rfl rfl
 case p => obtain ⟨L, h1, rfl⟩ := h; exact RepL.cons ⟨L, h1, rfl⟩ rfl
 case pg => cases h; exact RepL.cons rfl rfl
 case sl0 => cases h; exact RepL.cons rfl rfl
 case sl => obtain ⟨L, h1, h2, rfl⟩ := h; exact RepL.cons ⟨L, h1, h2, rfl⟩ rfl
 case slu => obtain ⟨L, h1, h2, rfl⟩ := h; exact RepL.cons ⟨L, h1, h2, rfl⟩ rfl
 case sle => obtain ⟨a, c, rfl⟩ := h; exact RepL.cons ⟨a, c, rfl⟩ rfl
 case m0 => cases h; exact RepL.cons rfl rfl
 case m => obtain ⟨L, h1, rfl⟩ := h; exact RepL.cons ⟨L, h1, rfl⟩ rfl
 case fn => obtain ⟨a, c, h1, h2, rfl⟩ := h; exact RepL.cons ⟨a, c, h1, h2, rfl⟩ rfl
 case f0 => cases h; exact RepL.cons rfl rfl
 case ifc => obtain ⟨u, h1, rfl⟩ := h; exact RepL.cons ⟨u, h1, rfl⟩ rfl
 case ifc0 => cases h; exact RepL.cons rfl rfl
 case tup => obtain ⟨vs, h1, rfl⟩ := h; exact RepL.cons ⟨vs, h1, rfl⟩ rfl
theorem Rep.one {s : SV} {v : Value} (h : Rep ρ s v) (h1 : one1 s = true) : v.oneCell' = true := by
 cases s
 case agg => cases h1
 case tup => cases h1
 case b => cases h; rfl
 case i => cases h; rfl
 case s => obtain ⟨_, rfl⟩ := h; rfl
 case p0 => cases h; rfl
 case p => obtain ⟨L, _, rfl⟩ := h; rfl
 case pg => cases h; rfl
 case sl0 => cases h; rfl
 case sl => obtain ⟨L, _, _, rfl⟩ := h; rfl
 case slu => obtain ⟨L, _, _, rfl⟩ := h; rfl
 case sle => obtain ⟨a, c, rfl⟩ := h; rfl
 case m0 => cases h; rfl
 case m => obtain ⟨L, _, rfl⟩ := h; rfl
 case fn => obtain ⟨a, c, _, _, rfl⟩ := h; rfl
 case f0 => cases h; rfl
 case ifc => obtain ⟨u, _, rfl⟩ := h; rfl
 case ifc0 => cases h; rfl
theorem RepL.ones : ∀ {s : List SV} {l : List Value}, RepL ρ s l → s.all one1 = true → ∀ u ∈ l, u.oneCell' = true
 | [], _, h, _, u, hu => by cases h; cases hu
 | a :: r, _, ⟨v, l', h1, h2, e⟩, ha, u, hu => by
  subst e
  simp only [List.all_cons, Bool.and_eq_true] at ha
  rcases List.mem_cons.1 hu with rfl | hu
  ·exact Rep.one h1 ha.1
  ·exact RepL.ones h2 ha.2 u hu
theorem RepL.lput {a b : List SV} {l m : List Value} (h : RepL ρ a l) (h' : RepL ρ b m) (k : Nat) : RepL ρ (lput a k b) (splice l k m) := by
 unfold Cl.lput splice
 rw [RepL.length h']
 exact RepL.append (RepL.append (RepL.take k h) h') (RepL.drop _ h)
theorem RepL.seg {a : List SV} {l : List Value} (h : RepL ρ a l) (k n : Nat) : RepL ρ (seg a k n) ((l.drop k).take n) := RepL.take n (RepL.drop k h)
end

theorem ieq_ok (a b : Int) : ieq a b = decide (a = b) := by
 cases a <;> cases b <;> simp only [ieq, nbeq] <;> first | (apply decide_eq_decide.2; rw [Int.ofNat.injEq]) | (apply decide_eq_decide.2; rw [Int.negSucc.injEq]) | (symm; apply decide_eq_false; intro h; cases h)
theorem ilt_ok (a b : Int) : ilt a b = decide (a < b) := by
 cases a <;> cases b <;> simp only [ilt, nblt, Int.ofNat_eq_natCast] <;> first | (apply decide_eq_decide.2; omega) | (symm; apply decide_eq_true; omega) | (symm; apply decide_eq_false; omega)
theorem leq_ok : ∀ a b : List Nat, leq a b = decide (a = b)
 | [], [] => rfl
 | [], _ :: _ => rfl
 | _ :: _, [] => rfl
 | a :: x, b :: y => by
  simp only [leq, nbeq, leq_ok x y]
  by_cases h : a = b <;> simp [h]
theorem ikeq_ok {a b : IntKind} (h : ikeq a b = true) : a = b := by
 unfold ikeq at h; cases a <;> cases b <;> first | rfl | (exact absurd h (by decide))
theorem llt_ok : ∀ {a b : List Nat}, (∀ x ∈ a, x < 256) → (∀ x ∈ b, x < 256) → llt a b = Op.bytesLess (a.map UInt8.ofNat) (b.map UInt8.ofNat)
 | _, [], _, _ => by unfold llt; rw [List.map_nil]; unfold Op.bytesLess; rfl
 | [], _ :: _, _, _ => rfl
 | a :: x, b :: y, ha, hb => by
  have ih := llt_ok (a := x) (b := y) (fun z hz => ha z (List.mem_cons_of_mem _ hz)) (fun z hz => hb z (List.mem_cons_of_mem _ hz))
  have h1 := ha a (List.mem_cons_self ..)
  have h2 := hb b (List.mem_cons_self ..)
  simp only [llt, nbeq, nblt, List.map_cons, Op.bytesLess, ih]
  have e1 : decide (UInt8.ofNat a < UInt8.ofNat b) = decide (a < b) := by
   apply decide_eq_decide.2; rw [UInt8.lt_iff_toNat_lt]; simp [Nat.mod_eq_of_lt h1, Nat.mod_eq_of_lt h2]
  have e2 : (UInt8.ofNat a == UInt8.ofNat b) = decide (a = b) := by
   by_cases h : a = b
   ·simp [h]
   ·have : UInt8.ofNat a ≠ UInt8.ofNat b := fun e => h (by have := congrArg UInt8.toNat e; simpa [Nat.mod_eq_of_lt h1, Nat.mod_eq_of_lt h2] using this)
    simp [h, this]
  rw [e1, e2]
  by_cases h3 : a < b <;> by_cases h4 : a = b <;> simp [h3, h4]
theorem bsmap_eq {a b : List Nat} (ha : ∀ x ∈ a, x < 256) (hb : ∀ x ∈ b, x < 256) : decide (a.map UInt8.ofNat = b.map UInt8.ofNat) = leq a b := by
 rw [leq_ok]; apply decide_eq_decide.2; exact ⟨bs_inj ha hb, fun h => by rw [h]⟩

section
variable {P : Program} {Γ : Ctx} {ρ : Rho} {o : Oper} {σ : Env} {w : World} {e : Envs}

def Gives (P : Program) (ρ : Rho) (o : Oper) (σ : Env) (w : World) (s : SV) : Prop := ∃ v, Rep ρ s v ∧ Yl P o σ w v

theorem und_ok (hΓ : CtxTy P Γ) {t : TypeId} {d : TypeDesc} (h : und Γ t = some d) : Und P t d := by
 unfold und at h; split at h
 ·rename_i i hi; cases h; exact ⟨(hΓ t i hi).und⟩
 ·cases h
theorem siz_of (hΓ : CtxTy P Γ) {t : TypeId} {ti : TI} (h : Γ.ty.get t = some ti) : Siz P t ti.size := by
 obtain ⟨z, hi, _⟩ := (hΓ t ti h).inf
 exact Inf.siz P t z ti.size ti.bytes
theorem siz_ok (hΓ : CtxTy P Γ) {t : TypeId} {n : Nat} (h : siz Γ t = some n) : Siz P t n := by
 unfold siz at h; split at h
 ·rename_i i hi; cases h; exact siz_of hΓ hi
 ·cases h
theorem cond_some {α : Type} {b : Bool} {x y : Option α} {s : α} (h : (bif b then x else y) = some s) : (b = true ∧ x = some s) ∨ (b = false ∧ y = some s) := by
 cases b
 ·exact .inr ⟨rfl, h⟩
 ·exact .inl ⟨rfl, h⟩
theorem cond_none {α : Type} {b : Bool} {x : Option α} {s : α} (h : (bif b then x else none) = some s) : b = true ∧ x = some s := by
 cases b
 ·cases h
 ·exact ⟨rfl, h⟩
theorem none_cond {α : Type} {b : Bool} {y : Option α} {s : α} (h : (bif b then none else y) = some s) : b = false ∧ y = some s := by
 cases b
 ·exact ⟨rfl, h⟩
 ·cases h
theorem ble_le {a b : Nat} (h : Nat.ble a b = true) : a ≤ b := Nat.le_of_ble_eq_true h
theorem blt_lt {a b : Nat} (h : Nat.blt a b = true) : a < b := Nat.le_of_ble_eq_true h
theorem beq_eq {a b : Nat} (h : Nat.beq a b = true) : a = b := Nat.eq_of_beq_eq_true h

/-! ### two operands -/
section
variable {x y : Operand} {t ty : TypeId} {op : BinOp}
theorem bitsOf_ok (k : IntKind) (n : Int) : (BitVec.ofInt k.bits n).toNat = bitsOf k n := by
 rw [BitVec.toNat_ofInt]; rfl
theorem binI_ok {k : IntKind} {a b : Int} {s : SV} (ho : o.op = .binOp op t x y ty) (hx : ev σ x = some (.int k a)) (hy : ev σ y = some (.int k b)) (h1 : op ≠ .shl) (h2 : op ≠ .shr) (h : binI op k a b = some s) : Gives P ρ o σ w s := by
 cases op <;> simp only [binI] at h
 case shl => exact absurd rfl h1
 case shr => exact absurd rfl h2
 case andNot => cases h
 case add => cases h; exact ⟨_, rfl, Yl_add ho hx hy rfl⟩
 case sub => cases h; exact ⟨_, rfl, Yl_sub ho hx hy rfl⟩
 case mul => cases h; exact ⟨_, rfl, Yl_mul ho hx hy rfl⟩
 case quo =>
  replace h := none_cond h; obtain ⟨hb, h⟩ := h; cases h
  rw [ieq_ok] at hb
  exact ⟨_, rfl, Yl_quo ho hx hy (of_decide_eq_false hb) rfl⟩
 case rem =>
  replace h := none_cond h; obtain ⟨hb, h⟩ := h; cases h
  rw [ieq_ok] at hb
  exact ⟨_, rfl, Yl_rem ho hx hy (of_decide_eq_false hb) rfl⟩
 case eql => cases h; exact ⟨_, rfl, by rw [ieq_ok]; exact Yl_eql ho hx hy⟩
 case neq => cases h; exact ⟨_, rfl, by rw [ieq_ok, ← decide_not]; exact Yl_neq ho hx hy⟩
 case lss => cases h; exact ⟨_, rfl, by rw [ilt_ok]; exact Yl_lss ho hx hy⟩
 case gtr => cases h; exact ⟨_, rfl, by rw [ilt_ok]; exact Yl_gtr ho hx hy⟩
 case leq => cases h; exact ⟨_, rfl, by rw [ilt_ok, show (!decide (b < a)) = decide (a ≤ b) by rw [← decide_not]; apply decide_eq_decide.2; omega]; exact Yl_leq ho hx hy⟩
 case geq => cases h; exact ⟨_, rfl, by rw [ilt_ok, show (!decide (a < b)) = decide (b ≤ a) by rw [← decide_not]; apply decide_eq_decide.2; omega]; exact Yl_geq ho hx hy⟩
 all_goals
  cases h
  refine ⟨_, rfl, ⟨fun N ds f ha => ?_⟩⟩
  simp only [execOp, ho, ha.eval hx, ha.eval hy, binOp, eqGuard, Op.intBits, ne_eq, not_true_eq_false, if_false]
  simp only [BitVec.toNat_and, BitVec.toNat_or, BitVec.toNat_xor, bitsOf_ok]
  rfl
theorem binS_ok {a b : List Nat} {s : SV} (ho : o.op = .binOp op t x y ty) (ha' : ∀ z ∈ a, z < 256) (hb' : ∀ z ∈ b, z < 256) (hx : ev σ x = some (.string (bs a))) (hy : ev σ y = some (.string (bs b))) (h : binS op a b = some s) : Gives P ρ o σ w s := by
 rw [bs_str] at hx hy
 have e1 := bsmap_eq ha' hb'
 have e2 := llt_ok ha' hb'
 cases op <;> simp only [binS] at h
 case add =>
  replace h := cond_none h; obtain ⟨hb, h⟩ := h; cases h
  have := blt_lt hb
  refine ⟨_, ⟨fun z hz => ?_, rfl⟩, ?_⟩
  ·rcases List.mem_append.1 hz with hz | hz
   ·exact ha' z hz
   ·exact hb' z hz
  ·rw [bs_str, List.map_append]
   exact Yl_addStr ho hx hy (by simp; omega)
 case eql => cases h; exact ⟨_, rfl, by rw [← e1]; exact Yl_eqlStr ho hx hy⟩
 case neq => cases h; exact ⟨_, rfl, by rw [← e1, ← decide_not]; exact Yl_neqStr ho hx hy⟩
 all_goals first | (cases h; done) | skip
 all_goals
  cases h
  refine ⟨_, rfl, ⟨fun N ds f hf => ?_⟩⟩
  have e3 : ((a.map UInt8.ofNat) == (b.map UInt8.ofNat)) = leq a b := by rw [← e1]; by_cases q : a.map UInt8.ofNat = b.map UInt8.ofNat <;> simp [q]
  simp only [execOp, ho, hf.eval hx, hf.eval hy, binOp, eqGuard, Op.stringOp, str_toList, e2, e3]
  rfl
end

/-! ### is it nil? -/
theorem isNil_p {s : SV} {v : Value} {b : Bool} (h : Rep ρ s v) (hs : sortOf s = 1) (hn : isNil s = some b) : ∃ a, v = .pointer a ∧ a.isNone = b := by
 cases s <;> simp [sortOf] at hs <;> simp [isNil] at hn <;> subst hn
 case p0 => exact ⟨none, h, rfl⟩
 case p => obtain ⟨L, _, rfl⟩ := h; exact ⟨_, rfl, rfl⟩
 case pg => exact ⟨_, h, rfl⟩
theorem isNil_s {s : SV} {v : Value} {b : Bool} (h : Rep ρ s v) (hs : sortOf s = 2) (hn : isNil s = some b) : ∃ a n c, v = .slice a n c ∧ a.isNone = b := by
 cases s <;> simp [sortOf] at hs <;> simp [isNil] at hn <;> subst hn
 case sl0 => exact ⟨none, _, _, h, rfl⟩
 case sl => obtain ⟨L, _, _, rfl⟩ := h; exact ⟨_, _, _, rfl, rfl⟩
 case slu => obtain ⟨L, _, _, rfl⟩ := h; exact ⟨_, _, _, rfl, rfl⟩
 case sle => obtain ⟨a, c, rfl⟩ := h; exact ⟨_, _, _, rfl, rfl⟩
theorem isNil_m {s : SV} {v : Value} {b : Bool} (h : Rep ρ s v) (hs : sortOf s = 3) (hn : isNil s = some b) : ∃ a, v = .map a ∧ a.isNone = b := by
 cases s <;> simp [sortOf] at hs <;> simp [isNil] at hn <;> subst hn
 case m0 => exact ⟨none, h, rfl⟩
 case m => obtain ⟨L, _, rfl⟩ := h; exact ⟨_, rfl, rfl⟩
theorem isNil_f {s : SV} {v : Value} {b : Bool} (h : Rep ρ s v) (hs : sortOf s = 4) (hn : isNil s = some b) : (b = true ∧ v = .nilFunc) ∨ (b = false ∧ ∃ f a c, v = .func f a c) := by
 cases s <;> simp [sortOf] at hs <;> simp [isNil] at hn <;> subst hn
 case f0 => exact .inl ⟨rfl, h⟩
 case fn => obtain ⟨a, c, _, _, rfl⟩ := h; exact .inr ⟨rfl, _, _, _, rfl⟩
theorem eqv_ok {x y : Operand} {t : TypeId} {d : TypeDesc} {a b : SV} {u v : Value} {r : Bool} (hd : P.underlying t = some d) (hu : Rep ρ a u) (hv : Rep ρ b v) (h : eqv d (isC x || isC y) a b = some r) :
  (∀ op, (op = .eql ∨ op = .neq) → (eqGuard op t x y u v).run P w = .ok () w) ∧ (Op.equal t u v).run P w = .ok r w ∧ (∀ k n, u ≠ .int k n) ∧ (∀ l, u ≠ .string l) ∧ (∀ k n, u ≠ .float k n) ∧ (∀ k n m, u ≠ .complex k n m) := by
 unfold eqv at h
 have key : ∀ f : Sem Bool, (∀ n, Op.equalIn (n + 1) t u v = f) → Op.equal t u v = f := fun f hf => hf 9999
 split at h
 ·cases h; cases hu; cases hv
  refine ⟨fun op h => by rcases h with rfl | rfl <;> rfl, ?_, by simp, by simp, by simp, by simp⟩
  show (Op.equalIn (9999 + 1) t _ _).run P w = _
  rw [Op.equalIn]; simp [run_underlying hd]
 ·cases h; cases hu; obtain ⟨v', _, rfl⟩ := hv
  refine ⟨fun op h => by rcases h with rfl | rfl <;> rfl, ?_, by simp, by simp, by simp, by simp⟩
  show (Op.equalIn (9999 + 1) t _ _).run P w = _
  rw [Op.equalIn]; simp [run_underlying hd]
 ·cases h; cases hv; obtain ⟨v', _, rfl⟩ := hu
  refine ⟨fun op h => by rcases h with rfl | rfl <;> rfl, ?_, by simp, by simp, by simp, by simp⟩
  show (Op.equalIn (9999 + 1) t _ _).run P w = _
  rw [Op.equalIn]; simp [run_underlying hd]
 ·replace h := cond_none h; obtain ⟨hc, h⟩ := h; cases h; cases hu; cases hv
  refine ⟨fun op h => ?_, ?_, by simp, by simp, by simp, by simp⟩
  ·have : (match x with | .const _ => true | _ => false) = true ∨ (match y with | .const _ => true | _ => false) = true := by
    rcases Bool.or_eq_true_iff.1 hc with q | q
    ·left; cases x <;> simp [isC] at q; rfl
    ·right; cases y <;> simp [isC] at q; rfl
   rcases h with rfl | rfl <;> (unfold eqGuard; cases x <;> cases y <;> simp_all)
  ·show (Op.equalIn (9999 + 1) t _ _).run P w = _
   rw [Op.equalIn]; simp [run_underlying hd]
 ·replace h := cond_none h; obtain ⟨hs, h⟩ := h; cases hv
  obtain ⟨q, rfl, rfl⟩ := isNil_p hu (beq_eq hs) h
  refine ⟨fun op h => by rcases h with rfl | rfl <;> rfl, ?_, by simp, by simp, by simp, by simp⟩
  exact run_eqlPtrNil (h := ⟨hd⟩)
 ·replace h := cond_none h; obtain ⟨hs, h⟩ := h; cases hu
  obtain ⟨q, rfl, rfl⟩ := isNil_p hv (beq_eq hs) h
  refine ⟨fun op h => by rcases h with rfl | rfl <;> rfl, ?_, by simp, by simp, by simp, by simp⟩
  show (Op.equalIn (9999 + 1) t _ _).run P w = _
  rw [Op.equalIn]; cases q <;> simp [run_underlying hd]
 ·replace h := cond_none h; obtain ⟨hs, h⟩ := h; cases hv
  obtain ⟨q, n, c, rfl, rfl⟩ := isNil_s hu (beq_eq hs) h
  refine ⟨fun op h => by rcases h with rfl | rfl <;> rfl, ?_, by simp, by simp, by simp, by simp⟩
  exact run_eqlSliceNil (h := ⟨hd⟩)
 ·replace h := cond_none h; obtain ⟨hs, h⟩ := h; cases hv
  obtain ⟨q, rfl, rfl⟩ := isNil_m hu (beq_eq hs) h
  refine ⟨fun op h => by rcases h with rfl | rfl <;> rfl, ?_, by simp, by simp, by simp, by simp⟩
  exact run_eqlNilMap (h := ⟨hd⟩)
 ·replace h := cond_none h; obtain ⟨hs, h⟩ := h; cases hv
  rcases isNil_f hu (beq_eq hs) h with ⟨rfl, rfl⟩ | ⟨rfl, f, a', c, rfl⟩
  ·refine ⟨fun op h => by rcases h with rfl | rfl <;> rfl, ?_, by simp, by simp, by simp, by simp⟩
   show (Op.equalIn (9999 + 1) t _ _).run P w = _
   rw [Op.equalIn]; simp [run_underlying hd]
  ·refine ⟨fun op h => by rcases h with rfl | rfl <;> rfl, ?_, by simp, by simp, by simp, by simp⟩
   show (Op.equalIn (9999 + 1) t _ _).run P w = _
   rw [Op.equalIn]; simp [run_underlying hd]
 ·cases h
end
end Cr.Cl
namespace Cr
open Go
set_option maxRecDepth 10000
section
variable {P : Program} {w : World} {t e : TypeId}
theorem run_equalIn_arrG {α : Type} [DecidableEq α] (enc : α → Value) (d n : Nat) [h : Und P t (.array n e)] [hs : Siz P e 1] [h1 : One P e]
  (heq : ∀ (a b : α) (w : World), (Op.equalIn (d + 1) e (enc a) (enc b)).run P w = .ok (decide (a = b)) w) (a b : List α) (ha : a.length = n) (hb : b.length = n) :
  (Op.equalIn (d + 2) t (.agg (a.map enc).toArray) (.agg (b.map enc).toArray)).run P w = .ok (decide (a = b)) w := by
 unfold Op.equalIn
 simp only [Sem.run_bind, run_underlying h.und, Result.andThen_ok, run_sizeOf (n := 1), Nat.mul_one]
 simp only [Std.Legacy.Range.forIn_eq_forIn_range']
 have hp : ∀ (l : List α) (i : Nat) (hi : i < l.length), (part e (l.map enc).toArray i).run P w = .ok (enc l[i]) w := fun l i hi => by
  simp [part, h1.one, hi]
 have key : ∀ m s, s + m = n → (forIn (List.range' s m) (none, ()) (fun i (__s : Option Bool × Unit) => do
   let __do_lift ← part e (a.map enc).toArray i
   let __do_lift_1 ← part e (b.map enc).toArray i
   let __do_lift ← Op.equalIn (d + 1) e __do_lift __do_lift_1
   if (!__do_lift) = true then pure (ForInStep.done (some false, ())) else pure (ForInStep.yield (none, ()))) : Sem (Option Bool × Unit)).run P w = .ok (if a.drop s = b.drop s then none else some false, ()) w := by
  intro m
  induction m with
  | zero =>
   intro s hs
   rw [List.drop_of_length_le (by omega), List.drop_of_length_le (by omega)]
   simp
  | succ m ih =>
   intro s hs
   have hsa : s < a.length := by omega
   have hsb : s < b.length := by omega
   rw [List.range'_succ, List.forIn_cons]
   simp only [Sem.run_bind, hp a s hsa, hp b s hsb, Result.andThen_ok, heq]
   rw [List.drop_eq_getElem_cons hsa, List.drop_eq_getElem_cons hsb]
   by_cases hc : a[s] = b[s]
   ·rw [decide_eq_true hc]
    simp only [Bool.not_true, Bool.false_eq_true, if_false, Sem.run_pure, Result.andThen_ok]
    rw [ih (s + 1) (by omega), hc]
    simp only [List.cons.injEq, true_and]
   ·rw [decide_eq_false hc]
    simp only [Bool.not_false, if_true, Sem.run_pure, Result.andThen_ok]
    rw [if_neg (fun h => hc (List.cons.inj h).1)]
 have hz : [:n].size = n := by simp [Std.Legacy.Range.size]
 rw [hz, key n 0 (by omega)]
 by_cases hab : a = b <;> simp [hab]
end
section
variable {P : Program} {o : Oper} {σ : Env} {w : World} {x y : Operand} {t ty e : TypeId}
def sv (s : List UInt8) : Value := .string (str s)
end
end Cr
namespace Cr.Cl
open Go
set_option maxRecDepth 4000
section
variable {P : Program} {Γ : Ctx} {ρ : Rho} {o : Oper} {σ : Env} {w : World} {e : Envs}
section
variable {x y : Operand} {t ty : TypeId}
theorem intsOf_ok {k : IntKind} : ∀ (xs : List SV) (p : List Int) (vs : List Value), intsOf k xs = some p → RepL ρ xs vs → vs = p.map (Value.int k)
 | [], p, vs, h, hv => by
  simp only [intsOf, Option.some.injEq] at h; subst h; cases hv; rfl
 | a :: r, p, vs, h, ⟨v, l', h1, h2, hl⟩ => by
  subst hl
  unfold intsOf at h
  split at h
  ·rename_i q; cases q
  ·rename_i k' n r' q
   cases q
   replace h := cond_none h; obtain ⟨hk, h⟩ := h
   have := ikeq_ok hk; subst this
   split at h
   ·rename_i l hl
    cases h
    cases h1
    rw [intsOf_ok r l l' hl h2]; rfl
   ·cases h
  ·cases h
theorem ileq_ok : ∀ a b : List Int, ileq a b = decide (a = b)
 | [], [] => rfl
 | [], _ :: _ => rfl
 | _ :: _, [] => rfl
 | a :: x, b :: y => by
  simp only [ileq, ieq_ok, ileq_ok x y]
  by_cases h : a = b <;> simp [h]
theorem eqAll_ok (hΓ : CtxTy P Γ) {a b : SV} {u v : Value} {r : Bool} (hu : Rep ρ a u) (hv : Rep ρ b v) (h : eqAll Γ t (isC x || isC y) a b = some r) :
  (∀ op, (op = .eql ∨ op = .neq) → (eqGuard op t x y u v).run P w = .ok () w) ∧ (Op.equal t u v).run P w = .ok r w ∧ (∀ k n, u ≠ .int k n) ∧ (∀ l, u ≠ .string l) ∧ (∀ k n, u ≠ .float k n) ∧ (∀ k n m, u ≠ .complex k n m) := by
 unfold eqAll at h
 split at h
 ·rename_i r' hr
  cases h
  unfold eqArr at hr
  split at hr
  ·rename_i ti hti
   replace hr := cond_none hr; obtain ⟨hng, hr⟩ := hr
   split at hr
   ·rename_i n el xs ys hund
    split at hr
    ·rename_i k hel
     split at hr
     ·rename_i hsz
      split at hr
      ·rename_i p hp
       split at hr
       ·rename_i q hq
        replace hr := cond_none hr; obtain ⟨hlen, hr⟩ := hr
        simp only [Bool.and_eq_true] at hlen
        have h1 := beq_eq hlen.1; have h2 := beq_eq hlen.2
        cases hr
        obtain ⟨us, g1, rfl⟩ := hu
        obtain ⟨vs, g2, rfl⟩ := hv
        have e1 := intsOf_ok xs p us hp g1
        have e2 := intsOf_ok ys q vs hq g2
        subst e1; subst e2
        have i1 : Und P t (.array n el) := ⟨by rw [(hΓ t ti hti).und, hund]⟩
        have i2 := und_ok hΓ hel
        have i3 := siz_ok hΓ hsz
        refine ⟨fun op ho => ?_, ?_, by simp, by simp, by simp, by simp⟩
        ·rcases ho with rfl | rfl <;> exact run_eqGuard_agg (P := P) (w := w) _ t x y _ _ ((hΓ t ti hti).ng hng)
        ·have := run_equalIn_arrG (P := P) (w := w) (t := t) (e := el) (Value.int k) 9998 n (fun a b w => by
          rw [run_equalIn_int w 9998 el k k a b i2.und]
          by_cases q : a = b <;> simp [q]) p q h1 h2
         rw [ileq_ok]
         exact this
       ·cases hr
      ·cases hr
     ·cases hr
    ·cases hr
   ·cases hr
  ·cases hr
 ·split at h
  ·rename_i d hd
   exact eqv_ok (und_ok hΓ hd).und hu hv h
  ·cases h
theorem bin_ok (hΓ : CtxTy P Γ) {op : BinOp} {a b s : SV} {u v : Value} (ho : o.op = .binOp op t x y ty) (hu : Rep ρ a u) (hv : Rep ρ b v) (hx : ev σ x = some u) (hy : ev σ y = some v) (h : bin Γ op t x y a b = some s) : Gives P ρ o σ w s := by
 unfold bin at h
 split at h
 ·cases h; cases hu; cases hv
  refine ⟨_, rfl, ⟨fun N ds f hf => ?_⟩⟩
  simp only [execOp, ho, hf.eval hx, hf.eval hy, binOp, eqGuard, Op.shift]
  rfl
 ·cases h; cases hu; cases hv
  refine ⟨_, rfl, ⟨fun N ds f hf => ?_⟩⟩
  simp only [execOp, ho, hf.eval hx, hf.eval hy, binOp, eqGuard, Op.shift]
  rfl
 ·cases h
 ·cases h
 ·rename_i _ _ h1 h2
  replace h := cond_none h; obtain ⟨hk, h⟩ := h
  have := ikeq_ok hk; subst this
  cases hu; cases hv
  exact binI_ok ho hx hy h1 h2 h
 ·obtain ⟨h1, rfl⟩ := hu; obtain ⟨h2, rfl⟩ := hv
  exact binS_ok ho h1 h2 hx hy h
 ·split at h
  ·rename_i r hr
   cases h
   obtain ⟨g, he, n1, n2, n3, n4⟩ := eqAll_ok (w := w) hΓ hu hv hr
   refine ⟨_, rfl, ⟨fun N ds f hf => ?_⟩⟩
   have hb : binOp .eql t u v = (do pure (.bool (← Op.equal t u v))) := by
    cases u <;> first | exact absurd rfl (n1 _ _) | exact absurd rfl (n2 _) | exact absurd rfl (n3 _ _) | exact absurd rfl (n4 _ _ _) | (cases v <;> rfl)
   simp only [execOp, ho, hf.eval hx, hf.eval hy, Sem.run_bind, g .eql (.inl rfl), Result.andThen_ok, hb, he]
   rfl
  ·cases h
 ·split at h
  ·rename_i r hr
   cases h
   obtain ⟨g, he, n1, n2, n3, n4⟩ := eqAll_ok (w := w) hΓ hu hv hr
   refine ⟨_, rfl, ⟨fun N ds f hf => ?_⟩⟩
   have hb : binOp .neq t u v = (do pure (.bool (!(← Op.equal t u v)))) := by
    cases u <;> first | exact absurd rfl (n1 _ _) | exact absurd rfl (n2 _) | exact absurd rfl (n3 _ _) | exact absurd rfl (n4 _ _ _) | (cases v <;> rfl)
   simp only [execOp, ho, hf.eval hx, hf.eval hy, Sem.run_bind, g .neq (.inr rfl), Result.andThen_ok, hb, he]
   rfl
  ·cases h
 ·cases h
theorem un_ok {op : UnOp} {a s : SV} {u : Value} (ho : o.op = .unOp op t x) (hu : Rep ρ a u) (hx : ev σ x = some u) (h : un op a = some s) : Gives P ρ o σ w s := by
 unfold un at h
 split at h
 ·cases h; cases hu; exact ⟨_, rfl, Yl_not_b ho hx⟩
 ·cases h; cases hu; exact ⟨_, rfl, Yl_neg ho hx rfl⟩
 ·cases h
end
theorem part_ok (hΓ : CtxTy P Γ) {t : TypeId} {cs : List SV} {off : Nat} {s : SV} {vs : List Value} (hv : RepL ρ cs vs) (h : part Γ t cs off = some s) :
  ∃ v, Rep ρ s v ∧ ∀ w, (Go.part t vs.toArray off).run P w = .ok v w := by
 unfold part at h
 split at h
 ·rename_i i hi
  have hT := hΓ t i hi
  have hs : Siz P t i.size := siz_of hΓ hi
  replace h := cond_some h; rcases h with ⟨hb, h⟩ | ⟨hb, h⟩
  ·replace h := cond_none h; obtain ⟨hle, h⟩ := h; cases h
   refine ⟨.agg ((vs.drop off).take i.size).toArray, ⟨_, RepL.seg hv off i.size, rfl⟩, fun w => ?_⟩
   have := hT.agg w
   rw [hb] at this
   have e : vs.toArray.extract off (off + i.size) = ((vs.drop off).take i.size).toArray := by
    simp [List.extract_eq_take_drop]
   simp [Go.part, this, run_sizeOf (n := i.size)]
  ·obtain ⟨v, h1, h2⟩ := RepL.get hv h
   refine ⟨v, h2, fun w => ?_⟩
   have := hT.agg w
   rw [hb] at this
   simp [Go.part, this, h1]
 ·cases h
theorem bnd_ok (he : EnvR ρ e σ) {d n : Nat} {x : Option Operand} (h : bnd e d x = some n) : ∃ v, evo σ x = some v ∧ ((v = none ∧ n = d) ∨ ∃ k, v = some (.int k (.ofNat n))) := by
 cases x with
 | none => simp only [bnd, Option.some.injEq] at h; exact ⟨none, rfl, .inl ⟨rfl, h.symm⟩⟩
 | some x =>
  simp only [bnd] at h
  split at h
  ·rename_i k m hk
   cases h
   obtain ⟨v, hv, hx⟩ := opnd_ok he hk
   cases hv
   exact ⟨some (.int k (.ofNat n)), by simp [evo, hx], .inr ⟨k, rfl⟩⟩
  ·cases h
theorem bnd_Bnd {v : Option Value} {d n m : Nat} (h : (v = none ∧ n = d) ∨ ∃ k, v = some (.int k (.ofNat n))) (hn : n ≤ m) : Bnd v d m n := by
 rcases h with h | ⟨k, rfl⟩
 ·exact .inl h
 ·exact .inr ⟨k, .ofNat n, rfl, by simp, by simp, hn⟩
theorem bnd_some {v : Option Value} {d n m : Nat} (h : (v = none ∧ n = d) ∨ ∃ k, v = some (.int k (.ofNat n))) (hs : v ≠ none) (hn : n ≤ m) : ∃ k i, v = some (.int k i) ∧ 0 ≤ i ∧ i.toNat = n ∧ n ≤ m := by
 rcases h with ⟨h, _⟩ | ⟨k, rfl⟩
 ·exact absurd h hs
 ·exact ⟨k, .ofNat n, rfl, by simp, by simp, hn⟩
section
variable {x y : Operand} {t ty el : TypeId} {lo hi mx : Option Operand}
theorem evSlStr_ok (he : EnvR ρ e σ) (hu : Und P t .string) (ho : o.op = .slice t x lo hi mx) {l : List Nat} (h256 : ∀ z ∈ l, z < 256) (hx : ev σ x = some (.string (bs l))) {s : SV} (h : evSlStr e l lo hi mx = some s) : Gives P ρ o σ w s := by
 unfold evSlStr at h
 split at h
 ·cases h
 ·split at h
  ·rename_i b hb
   split at h
   ·rename_i a ha
    replace h := cond_none h; obtain ⟨h1, h⟩ := h
    replace h := cond_none h; obtain ⟨h2, h⟩ := h
    cases h
    obtain ⟨vh, e1, b1⟩ := bnd_ok he hb
    obtain ⟨vl, e2, b2⟩ := bnd_ok he ha
    refine ⟨_, ⟨fun z hz => h256 z (List.mem_of_mem_drop (List.mem_of_mem_take hz)), rfl⟩, ?_⟩
    have := Yl_sliceStr (P := P) (w := w) (s := l.map UInt8.ofNat) (l := a) (h := b) ho hx e2 e1 (by simpa using bnd_Bnd b1 (ble_le h2)) (bnd_Bnd b2 (ble_le h1))
    rw [bs_str, List.map_take, List.map_drop]
    exact this
   ·cases h
  ·cases h
theorem sub_lit (b off l sz c : Nat) : sub (some ⟨b, off, none⟩) l sz c = some ⟨b, if c = l then off else off + l * sz, none⟩ := by
 unfold sub; split <;> simp_all [add_lit]
theorem evSl_ok (he : EnvR ρ e σ) (sz : Nat) {v : SV} {u : Value} (hv : Rep ρ v u)
    (hY : ∀ (a : Option Addr) (n c l h : Nat) (vl vh : Option Value), mx = none → u = .slice a n c → evo σ lo = some vl → evo σ hi = some vh → Bnd vh n c h → Bnd vl 0 h l → Yl P o σ w (.slice (sub a l sz c) (h - l) (c - l)))
    (hY3 : ∀ (a : Option Addr) (n c l h k : Nat) (vl vh vm : Option Value), u = .slice a n c → evo σ lo = some vl → evo σ hi = some vh → evo σ mx = some vm → (∃ k' i, vm = some (.int k' i) ∧ 0 ≤ i ∧ i.toNat = k ∧ k ≤ c) → (∃ k' i, vh = some (.int k' i) ∧ 0 ≤ i ∧ i.toNat = h ∧ h ≤ k) → Bnd vl 0 h l → Yl P o σ w (.slice (sub a l sz k) (h - l) (k - l)))
    (h3 : mx ≠ none → hi ≠ none) {s : SV} (h : evSl e sz v lo hi mx = some s) : Gives P ρ o σ w s := by
  unfold evSl at h
  have both : ∀ (L : Nat) (off n c m b a : Nat), u = .slice (some ⟨L, off, none⟩) n c → bnd e c mx = some m → bnd e n hi = some b → bnd e 0 lo = some a → a ≤ b → b ≤ m → m ≤ c → Yl P o σ w (.slice (some ⟨L, if m = a then off else off + a * sz, none⟩) (b - a) (m - a)) := by
    intro L off n c m b a hu hm hb ha h1 h2 h3'
    obtain ⟨vm, e0, b0⟩ := bnd_ok he hm
    obtain ⟨vh, e1, b1⟩ := bnd_ok he hb
    obtain ⟨vl, e2, b2⟩ := bnd_ok he ha
    rw [← sub_lit]
    cases mx with
    | none =>
      have : vm = none := by simpa [evo] using e0.symm
      subst this
      have hmc : m = c := by rcases b0 with ⟨_, q⟩ | ⟨k, q⟩; · exact q
                             · cases q
      subst hmc
      exact hY _ _ _ _ _ _ _ rfl hu e2 e1 (bnd_Bnd b1 h2) (bnd_Bnd b2 h1)
    | some q =>
      refine hY3 _ _ _ _ _ _ _ _ _ hu e2 e1 e0 (bnd_some b0 ?_ h3') (bnd_some b1 ?_ h2) (bnd_Bnd b2 h1)
      · rintro rfl; simp [evo] at e0; split at e0 <;> simp at e0
      · rintro rfl
        cases hi with
        | none => exact h3 (by simp) rfl
        | some _ => simp [evo] at e1; split at e1 <;> simp at e1
  split at h
  · rename_i ob off n c
    obtain ⟨L, hL, hnc, rfl⟩ := hv
    split at h
    · rename_i m hm
      split at h
      · rename_i b hb
        split at h
        · rename_i a ha
          replace h := cond_none h; obtain ⟨h1, h⟩ := h
          replace h := cond_none h; obtain ⟨h2, h⟩ := h
          replace h := cond_none h; obtain ⟨h4, h⟩ := h
          cases h
          have := both L.1 off n c m b a rfl hm hb ha (ble_le h1) (ble_le h2) (ble_le h4)
          refine ⟨_, ⟨L, hL, by have := ble_le h2; omega, ?_⟩, this⟩
          rw [nbeq]; by_cases q : m = a <;> simp [q]
        · cases h
      · cases h
    · cases h
  · cases hv
    split at h
    · rename_i hm hb ha
      cases h
      obtain ⟨vm, e0, b0⟩ := bnd_ok he hm
      obtain ⟨vh, e1, b1⟩ := bnd_ok he hb
      obtain ⟨vl, e2, b2⟩ := bnd_ok he ha
      cases mx with
      | none =>
        have := hY none 0 0 0 0 vl vh rfl rfl e2 e1 (bnd_Bnd b1 (Nat.le_refl _)) (bnd_Bnd b2 (Nat.le_refl _))
        exact ⟨_, rfl, by simpa [sub] using this⟩
      | some q =>
        have := hY3 none 0 0 0 0 0 vl vh vm rfl e2 e1 e0 (bnd_some b0 (by rintro rfl; simp [evo] at e0; split at e0 <;> simp at e0) (Nat.le_refl _)) (bnd_some b1 (by
          rintro rfl
          cases hi with
          | none => exact h3 (by simp) rfl
          | some _ => simp [evo] at e1; split at e1 <;> simp at e1) (Nat.le_refl _)) (bnd_Bnd b2 (Nat.le_refl _))
        exact ⟨_, rfl, by simpa [sub] using this⟩
    · cases h
  · rename_i ob sz' k n
    obtain ⟨L, hL, hnc, rfl⟩ := hv
    split at h
    · split at h
      · rename_i b hb
        split at h
        · rename_i a ha
          replace h := cond_none h; obtain ⟨h1, h⟩ := h
          replace h := cond_none h; obtain ⟨h2, h⟩ := h
          replace h := cond_none h; obtain ⟨h4, h⟩ := h
          have h1 := ble_le h1; have h2 := ble_le h2; have h4 := beq_eq h4; subst h4
          obtain ⟨vh, e1, b1⟩ := bnd_ok he hb
          obtain ⟨vl, e2, b2⟩ := bnd_ok he ha
          have hy := hY _ _ _ a b vl vh rfl rfl e2 e1 (bnd_Bnd b1 (by omega)) (bnd_Bnd b2 h1)
          rw [sub_lit] at hy
          replace h := cond_some h; rcases h with ⟨h5, h⟩ | ⟨h5, h⟩
          · cases h
            have h5 := blt_lt h5
            rw [if_neg (by omega)] at hy
            refine ⟨_, ⟨L, hL, by omega, ?_⟩, hy⟩
            rw [Nat.add_mul, show L.2 - k - a = L.2 - (k + a) by omega]
          · replace h := cond_some h; rcases h with ⟨h6, h⟩ | ⟨h6, h⟩
            · cases h
              have h6 := beq_eq h6; subst h6
              have : (if L.2 - k = 0 then k * sz else k * sz + 0 * sz) = k * sz := by split <;> simp
              rw [this] at hy
              exact ⟨_, ⟨L, hL, by omega, rfl⟩, by simpa using hy⟩
            · cases h
              have : ¬ a < n := by intro q; rw [nblt] at h5; simp at h5; omega
              have hab : b - a = 0 := by omega
              rw [hab] at hy
              exact ⟨_, ⟨_, _, rfl⟩, hy⟩
        · cases h
      · cases h
    · rename_i q
      split at h
      · rename_i k' m hm
        split at h
        · rename_i b hb
          split at h
          · rename_i a ha
            replace h := cond_none h; obtain ⟨h1, h⟩ := h
            replace h := cond_none h; obtain ⟨h2, h⟩ := h
            replace h := cond_none h; obtain ⟨h4, h⟩ := h
            replace h := cond_none h; obtain ⟨h5, h⟩ := h
            cases h
            have h1 := ble_le h1; have h2 := ble_le h2; have h4 := ble_le h4; have h5 := beq_eq h5; subst h5
            have hm' : bnd e (L.2 - k) (some q) = some m := by simp [bnd, hm]
            have := both L.1 (k * sz) n (L.2 - k) m b a rfl hm' hb ha h1 h2 (by omega)
            refine ⟨_, ⟨L, hL, by omega, ?_⟩, this⟩
            rw [nbeq]; by_cases q : m = a <;> simp [q]
          · cases h
        · cases h
      · cases h
  · obtain ⟨a, c, rfl⟩ := hv
    split at h
    · rename_i hb ha
      cases h
      obtain ⟨vh, e1, b1⟩ := bnd_ok he hb
      obtain ⟨vl, e2, b2⟩ := bnd_ok he ha
      have := hY (some a) 0 c 0 0 vl vh rfl rfl e2 e1 (bnd_Bnd b1 (by omega)) (bnd_Bnd b2 (Nat.le_refl _))
      refine ⟨_, ?_, this⟩
      have e : ∃ a', sub (some a) 0 sz c = some a' := by unfold sub; split <;> simp
      obtain ⟨a', e⟩ := e
      exact ⟨a', c - 0, by rw [e]⟩
    · cases h
  · cases h
theorem Yl_slice_arr3 {b off n m l h k : Nat} {vl vh vm : Option Value} (ho : o.op = .slice t x lo hi mx) (hx : ev σ x = some (.pointer (some ⟨b, off, none⟩))) (hlo : evo σ lo = some vl) (hhi : evo σ hi = some vh) (hmx : evo σ mx = some vm) (hu : Und P t (.array n el)) (hs : Siz P el m)
  (hm : ∃ k' i, vm = some (.int k' i) ∧ 0 ≤ i ∧ i.toNat = k ∧ k ≤ n) (hh : ∃ k' i, vh = some (.int k' i) ∧ 0 ≤ i ∧ i.toNat = h ∧ h ≤ k) (hl : Bnd vl 0 h l) :
  Yl P o σ w (.slice (sub (some ⟨b, off, none⟩) l m k) (h - l) (k - l)) := ⟨fun N ds f ha => by
 have hb := run_bounds3 (P := P) (w := w) (b := false) (len := n) hm hh hl
 have hsz : (Go.sizeOf el).run P w = .ok m w := run_sizeOf w
 simp [execOp, ho, ha.eval hx, ha.evalo hlo, ha.evalo hhi, ha.evalo hmx, Instr.sliceAt, Instr.sureAddr, run_underlying hu.und, hb, hsz, sub]
 split <;> rfl⟩
end
end
end Cr.Cl
namespace Cr.Cl
open Go
set_option maxRecDepth 4000
section
variable {P : Program} {Γ : Ctx} {ρ : Rho} {o : Oper} {σ : Env} {w : World} {e : Envs}
theorem str_get {t : TypeId} {pl : List (Nat × Nat)} (h : Str P t pl) {f off n : Nat} (hf : pl[f]? = some (off, n)) : ∃ fs : Array Field, ∃ fd : Field, P.underlying t = some (.struct fs) ∧ fs[f]? = some fd ∧ fd.offset = off ∧ (P.info? fd.type).map (·.size) = some n := by
 obtain ⟨fs, h1, h2, h3⟩ := h.str
 have g2 := congrArg (·[f]?) h2
 have g3 := congrArg (·[f]?) h3
 simp only [List.getElem?_map, hf, Option.map_some] at g2 g3
 cases hq : fs[f]? with
 | none => rw [hq] at g2; cases g2
 | some fd =>
  rw [hq] at g2 g3
  simp only [Option.map_some, Option.some.injEq] at g2 g3
  exact ⟨fs.toArray, fd, h1, by simpa using hq, g3, g2⟩
theorem fill_ok (he : EnvR ρ e σ) {pl : Nat → Option (Nat × Nat)} : ∀ (xs : List (Nat × Operand)) (ps : List (Nat × Nat × SV)) (z l : List SV) (zs : List Value), evParts e pl xs = some ps → fillS z ps = some l → RepL ρ z zs →
  ∃ parts ls, evps σ xs = some parts ∧ RepL ρ l ls ∧ Instr.fill pl zs.toArray parts = some ls.toArray ∧ l.length = z.length
 | [], ps, z, l, zs, h1, h2, hz => by
  simp only [evParts, Option.some.injEq] at h1; subst h1
  simp only [fillS, Option.some.injEq] at h2; subst h2
  exact ⟨[], zs, rfl, hz, rfl, rfl⟩
 | (i, x) :: r, ps, z, l, zs, h1, h2, hz => by
  simp only [evParts] at h1
  split at h1
  ·rename_i off n hp
   split at h1
   ·rename_i v hv
    replace h1 := cond_none h1; obtain ⟨hn, h1⟩ := h1
    have hn := beq_eq hn
    split at h1
    ·rename_i qs hq
     cases h1
     simp only [fillS] at h2
     replace h2 := cond_none h2; obtain ⟨hle, h2⟩ := h2
     have hle := ble_le hle
     obtain ⟨u, hu, hx⟩ := opnd_ok he hv
     have hc := Rep.cells hu
     obtain ⟨parts, ls, g1, g2, g3, g4⟩ := fill_ok he r qs _ l _ hq h2 (RepL.lput hz hc off)
     have hlen := RepL.length hc
     have hzl := RepL.length hz
     refine ⟨(i, u) :: parts, ls, by simp [evps, hx, g1], g2, ?_, by rw [g4]; simp only [lput, List.length_append, List.length_take, List.length_drop]; omega⟩
     rw [fill_step (vs := u.cells.toList) (off := off) (by rw [hp, hlen, hn]) (by simp) (by omega)]
     exact g3
    ·cases h1
   ·cases h1
  ·cases h1
theorem run_builtin {b : Builtin} {args : Array Operand} {ts : Array TypeId} {vs : List Value} (ho : o.op = .call { callee := .builtin b, args := args, argTypes := ts }) (hv : evs σ args.toList = some vs) {N : Nat} {ds : Md} {a : Act} (ha : Fr σ N ds a) :
  ∃ consts, execOp a.eval o = builtin b ts o.type consts vs.toArray := by
 refine ⟨args.map fun | .const _ => true | _ => false, ?_⟩
 have : args.map a.eval = vs.toArray := by
  have := ha.evals hv
  rw [← this]; apply Array.ext'; simp
 simp [execOp, ho, resolve, invoke, this]
 rfl
theorem evs_one {x : Operand} {v : Value} (h : ev σ x = some v) : evs σ [x] = some [v] := by simp [evs, h]
theorem evs_two {x y : Operand} {u v : Value} (h : ev σ x = some u) (h' : ev σ y = some v) : evs σ [x, y] = some [u, v] := by simp [evs, h, h']
theorem bs_size (l : List Nat) : (bs l).size = l.length := by simp [bs, ByteArray.size]
theorem lenOf_ok {s : SV} {u : Value} {n : Nat} (hu : Rep ρ s u) (h : lenOf s = some n) : ∃ a c, u = .slice a n c ∧ n ≤ c := by
 unfold lenOf at h
 split at h
 ·cases h; cases hu; exact ⟨none, 0, rfl, Nat.le_refl _⟩
 ·cases h; obtain ⟨a, c, rfl⟩ := hu; exact ⟨_, _, rfl, Nat.zero_le _⟩
 ·cases h; obtain ⟨L, _, h1, rfl⟩ := hu; exact ⟨_, _, rfl, h1⟩
 ·cases h; obtain ⟨L, _, h1, rfl⟩ := hu; exact ⟨_, _, rfl, by omega⟩
 ·cases h
theorem evBuiltin_ok (hΓ : CtxTy P Γ) (he : EnvR ρ e σ) {b : Builtin} {args : Array Operand} {ts : Array TypeId} (ho : o.op = .call { callee := .builtin b, args := args, argTypes := ts }) {s : SV} (h : evBuiltin Γ e b args.toList ts.toList = some s) : Gives P ρ o σ w s := by
 unfold evBuiltin at h
 obtain ⟨ts⟩ := ts
 obtain ⟨args⟩ := args
 simp only at h
 split at h
 ·rename_i x t _
  split at h
  ·rename_i d hd
   split at h
   ·rename_i v hv
    split at h
    ·rename_i n hn
     cases h
     obtain ⟨u, hu, hx⟩ := opnd_ok he hv
     refine ⟨_, rfl, ⟨fun N ds a ha => ?_⟩⟩
     obtain ⟨c, hc⟩ := run_builtin ho (evs_one hx) ha
     have hU := (und_ok hΓ hd).und
     rw [hc]
     unfold evLen at hn
     split at hn
     ·cases hn; obtain ⟨_, rfl⟩ := hu
      simp [builtin, Builtin.len_, run_underlying hU, goInt, bs_size]
     ·obtain ⟨q, c', rfl, _⟩ := lenOf_ok hu hn
      simp [builtin, Builtin.len_, run_underlying hU, goInt]
     ·cases hn
      simp [builtin, Builtin.len_, run_underlying hU, goInt]
     ·cases hn
    ·cases h
   ·cases h
  ·cases h
 ·rename_i x t _
  split at h
  ·rename_i el hd
   have hU := (und_ok hΓ hd).und
   split at h
   ·rename_i q q1 q2 c hv
    cases h
    obtain ⟨u, ⟨L, _, _, rfl⟩, hx⟩ := opnd_ok he hv
    refine ⟨_, rfl, ⟨fun N ds a ha => ?_⟩⟩
    obtain ⟨c, hc⟩ := run_builtin ho (evs_one hx) ha
    rw [hc]
    simp [builtin, Builtin.cap_, run_underlying hU, goInt]
   ·rename_i hv
    cases h
    obtain ⟨u, hu, hx⟩ := opnd_ok he hv
    cases hu
    refine ⟨_, rfl, ⟨fun N ds a ha => ?_⟩⟩
    obtain ⟨c, hc⟩ := run_builtin ho (evs_one hx) ha
    rw [hc]
    simp [builtin, Builtin.cap_, run_underlying hU, goInt]
   ·cases h
  ·cases h
 ·rename_i x y _
  split at h
  ·rename_i k a' hv
   split at h
   ·rename_i k' b' hv'
    cases h
    obtain ⟨u, hu, hx⟩ := opnd_ok he hv
    obtain ⟨u', hu', hx'⟩ := opnd_ok he hv'
    cases hu; cases hu'
    refine ⟨_, rfl, ⟨fun N ds a ha => ?_⟩⟩
    obtain ⟨c, hc⟩ := run_builtin ho (evs_two hx hx') ha
    rw [hc, ilt_ok]
    by_cases q : b' < a' <;> simp [builtin, Builtin.min_, Builtin.min2, q]
   ·cases h
  ·cases h
 ·rename_i x y _
  split at h
  ·rename_i k a' hv
   split at h
   ·rename_i k' b' hv'
    cases h
    obtain ⟨u, hu, hx⟩ := opnd_ok he hv
    obtain ⟨u', hu', hx'⟩ := opnd_ok he hv'
    cases hu; cases hu'
    refine ⟨_, rfl, ⟨fun N ds a ha => ?_⟩⟩
    obtain ⟨c, hc⟩ := run_builtin ho (evs_two hx hx') ha
    rw [hc, ilt_ok]
    by_cases q : a' < b' <;> simp [builtin, Builtin.max_, Builtin.max2, q]
   ·cases h
  ·cases h
 ·cases h
theorem pureOp_ok (hΓ : CtxTy P Γ) (he : EnvR ρ e σ) {s : SV} (h : pureOp Γ e o.op = some s) : Gives P ρ o σ w s := by
 unfold pureOp at h
 split at h
 ·rename_i x ho
  obtain ⟨v, hv, hx⟩ := opnd_ok he h
  exact ⟨v, hv, Yl_move ho hx⟩
 ·rename_i x ho
  obtain ⟨v, hv, hx⟩ := opnd_ok he h
  exact ⟨v, hv, Yl_assign ho hx⟩
 ·rename_i c a b ho
  split at h
  ·rename_i t hc
   obtain ⟨vc, hvc, hxc⟩ := opnd_ok he hc
   cases hvc
   cases t
   ·obtain ⟨v, hv, hx⟩ := opnd_ok he h
    exact ⟨v, hv, Yl_pick_f ho hxc hx⟩
   ·obtain ⟨v, hv, hx⟩ := opnd_ok he h
    exact ⟨v, hv, Yl_pick_t ho hxc hx⟩
  ·cases h
 ·rename_i x ho
  split at h
  ·rename_i v hv
   obtain ⟨u, hu, hx⟩ := opnd_ok he hv
   unfold evNil at h
   split at h
   ·cases h; obtain ⟨L, hL, rfl⟩ := hu
    exact ⟨_, ⟨L, hL, rfl⟩, Yl_nilCheck ho hx⟩
   ·cases h; cases hu
    exact ⟨_, rfl, Yl_nilCheck ho hx⟩
   ·cases h; obtain ⟨va, vc, h1, h2, rfl⟩ := hu
    refine ⟨_, ⟨va, vc, h1, h2, rfl⟩, ⟨fun N ds a ha => ?_⟩⟩
    simp [execOp, ho, ha.eval hx]
   ·cases h; obtain ⟨u', h1, rfl⟩ := hu
    refine ⟨_, ⟨u', h1, rfl⟩, ⟨fun N ds a ha => ?_⟩⟩
    simp [execOp, ho, ha.eval hx]
   ·cases h
  ·cases h
 ·rename_i op t x y ty ho
  split at h
  ·rename_i a ha
   split at h
   ·rename_i b hb
    obtain ⟨u, hu, hx⟩ := opnd_ok he ha
    obtain ⟨v, hv, hy⟩ := opnd_ok he hb
    exact bin_ok hΓ ho hu hv hx hy h
   ·cases h
  ·cases h
 ·rename_i op t x ho
  split at h
  ·rename_i a ha
   obtain ⟨u, hu, hx⟩ := opnd_ok he ha
   exact un_ok ho hu hx h
  ·cases h
 ·rename_i s' d x ho
  split at h
  ·rename_i ds' hds
   split at h
   ·rename_i dd hdd
    split at h
    ·rename_i v hv
     obtain ⟨u, hu, hx⟩ := opnd_ok he hv
     have h1 := und_ok hΓ hds
     have h2 := und_ok hΓ hdd
     unfold evConv at h
     split at h
     ·cases h; cases hu; exact ⟨_, rfl, Yl_convInt (hs := h1) (hd := h2) ho hx rfl⟩
     ·cases h; obtain ⟨h3, rfl⟩ := hu
      refine ⟨_, ⟨h3, rfl⟩, ⟨fun N ds a ha => ?_⟩⟩
      simp only [execOp, ho, ha.eval hx, convert, Sem.run_bind, run_underlying h1.und, run_underlying h2.und, Result.andThen_ok]
      cases ds' <;> rfl
     ·cases h
    ·cases h
   ·cases h
  ·cases h
 ·rename_i t x ho
  split at h
  ·rename_i d hd
   replace h := none_cond h; obtain ⟨hi, h⟩ := h
   split at h
   ·rename_i v hv
    cases h
    obtain ⟨u, hu, hx⟩ := opnd_ok he hv
    have h1 := (und_ok hΓ hd).und
    refine ⟨_, ⟨u, hu, rfl⟩, ⟨fun N ds a ha => ?_⟩⟩
    simp only [execOp, ho, ha.eval hx, Instr.makeInterface, Sem.run_bind, run_underlying h1, Result.andThen_ok]
    cases d <;> first | rfl | (exact absurd hi (by simp [isIfc]))
   ·cases h
  ·cases h
 ·rename_i f a c ho
  split at h
  ·rename_i x hx
   split at h
   ·rename_i y hy
    cases h
    obtain ⟨va, h1, e1⟩ := opnds_ok he hx
    obtain ⟨vc, h2, e2⟩ := opnds_ok he hy
    refine ⟨_, ⟨va, vc, h1, h2, rfl⟩, ⟨fun N ds q hq => ?_⟩⟩
    have g1 : a.map q.eval = va.toArray := by rw [← hq.evals e1]; apply Array.ext'; simp
    have g2 : c.map q.eval = vc.toArray := by rw [← hq.evals e2]; apply Array.ext'; simp
    simp [execOp, ho, Instr.makeFunc, g1, g2]
   ·cases h
  ·cases h
 ·rename_i t x lo hi mx ho
  split at h
  ·rename_i hd
   split at h
   ·rename_i l hl
    obtain ⟨u, ⟨h1, rfl⟩, hx⟩ := opnd_ok he hl
    exact evSlStr_ok he (und_ok hΓ hd) ho h1 hx h
   ·cases h
  ·rename_i el hd
   split at h
   ·rename_i sz hsz
    split at h
    ·rename_i v hv
     obtain ⟨u, hu, hx⟩ := opnd_ok he hv
     have i1 := und_ok hΓ hd
     have i2 := siz_ok hΓ hsz
     replace h := cond_none h; obtain ⟨hmx, h⟩ := h
     refine evSl_ok he sz hu (fun a n c l b vl vh hm hu' e1 e2 b1 b2 => ?_) (fun a n c l b k vl vh vm hu' e1 e2 e3 b1 b2 b3 => ?_) ?_ h
     ·subst hm; subst hu'; exact Yl_slice (hu := i1) (hs := i2) ho hx e1 e2 b1 b2
     ·subst hu'; exact Yl_slice3 (hu := i1) (hs := i2) ho hx e1 e2 e3 b1 b2 b3
     ·intro h1 h2; subst h2; cases mx <;> simp_all [okMx]
    ·cases h
   ·cases h
  ·rename_i n el hd
   split at h
   ·rename_i sz hsz
    split at h
    ·rename_i v hv
     obtain ⟨u, hu, hx⟩ := opnd_ok he hv
     have i1 := und_ok hΓ hd
     have i2 := siz_ok hΓ hsz
     replace h := cond_none h; obtain ⟨hmx, h⟩ := h
     unfold evArrSl at h
     split at h
     ·rename_i ob off
      obtain ⟨L, hL, rfl⟩ := hu
      refine evSl_ok he sz (v := .sl ob off n n) ⟨L, hL, Nat.le_refl _, rfl⟩ (fun a n' c l b vl vh hm hu' e1 e2 b1 b2 => ?_) (fun a n' c l b k vl vh vm hu' e1 e2 e3 b1 b2 b3 => ?_) ?_ h
      ·subst hm; cases hu'; exact Yl_slice_arr2 (hu := i1) (hs := i2) ho hx e1 e2 b1 b2
      ·cases hu'; exact Yl_slice_arr3 ho hx e1 e2 e3 i1 i2 b1 b2 b3
      ·intro h1 h2; subst h2; cases mx <;> simp_all [okMx]
     ·cases h
    ·cases h
   ·cases h
  ·cases h
 ·rename_i t x f ho
  split at h
  ·rename_i ti hti
   split at h
   ·rename_i fs hfs
    split at h
    ·rename_i v hv
     obtain ⟨u, hu, hx⟩ := opnd_ok he hv
     unfold evFieldAddr at h
     split at h
     ·rename_i off n hp
      split at h
      ·cases h
       obtain ⟨L, hL, rfl⟩ := hu
       obtain ⟨fs', fd, g1, g2, g3, g4⟩ := str_get ((hΓ t ti hti).str fs hfs) hp
       refine ⟨_, ⟨L, hL, rfl⟩, ?_⟩
       exact Yl_fieldAddr (h := ⟨⟨fs', fd, g1, g2, g3, rfl, g4⟩⟩) ho hx rfl
      ·cases h
     ·cases h
    ·cases h
   ·cases h
  ·cases h
 ·rename_i t x f ho
  split at h
  ·rename_i fs hd
   split at h
   ·rename_i fd hfd
    split at h
    ·rename_i cs hcs
     obtain ⟨u, ⟨vs, h1, rfl⟩, hx⟩ := opnd_ok he hcs
     obtain ⟨v, h2, h3⟩ := part_ok hΓ h1 h
     refine ⟨v, h2, ⟨fun N ds a ha => ?_⟩⟩
     simp [execOp, ho, ha.eval hx, Instr.field, run_underlying (und_ok hΓ hd).und, hfd, asAgg, h3]
    ·cases h
   ·cases h
  ·cases h
 ·rename_i t x i ho
  split at h
  ·rename_i d hd
   split at h
   ·rename_i el hel
    split at h
    ·rename_i sz hsz
     split at h
     ·rename_i v hv
      split at h
      ·rename_i k n hi
       obtain ⟨u, hu, hx⟩ := opnd_ok he hv
       obtain ⟨u', hu', hx'⟩ := opnd_ok he hi
       cases hu'
       have i1 := und_ok hΓ hd
       have i2 := siz_ok hΓ hsz
       unfold evIndexAddr at h
       split at h
       ·replace h := cond_none h; obtain ⟨hlt, h⟩ := h
        cases h
        obtain ⟨L, hL, rfl⟩ := hu
        cases hel
        have := Yl_indexAddr_arr (P := P) (w := w) (h := i1) (hs := i2) ho hx hx' (by simp) (by have := blt_lt hlt; simp; omega)
        exact ⟨_, ⟨L, hL, rfl⟩, by simpa using this⟩
       ·replace h := cond_none h; obtain ⟨hlt, h⟩ := h
        cases h
        obtain ⟨L, hL, _, rfl⟩ := hu
        cases hel
        have := Yl_indexAddr (P := P) (w := w) (h := i1) (hs := i2) ho hx hx' (by simp) (by have := blt_lt hlt; simp; omega) ⟨_, _, rfl⟩
        exact ⟨_, ⟨L, hL, rfl⟩, by simpa [adr] using this⟩
       ·replace h := cond_none h; obtain ⟨hlt, h⟩ := h
        replace h := cond_none h; obtain ⟨hq, h⟩ := h
        cases h
        have hq := beq_eq hq; subst hq
        obtain ⟨L, hL, _, rfl⟩ := hu
        cases hel
        have := Yl_indexAddr (P := P) (w := w) (h := i1) (hs := i2) ho hx hx' (by simp) (by have := blt_lt hlt; simp; omega) ⟨_, _, rfl⟩
        exact ⟨_, ⟨L, hL, rfl⟩, by simpa [adr] using this⟩
       ·cases h
      ·cases h
     ·cases h
    ·cases h
   ·cases h
  ·cases h
 ·rename_i t x i ho
  split at h
  ·rename_i n el hd
   split at h
   ·rename_i sz hsz
    split at h
    ·rename_i cs hcs
     split at h
     ·rename_i k j hi
      replace h := cond_none h; obtain ⟨hlt, h⟩ := h
      obtain ⟨u, ⟨vs, h1, rfl⟩, hx⟩ := opnd_ok he hcs
      obtain ⟨u', hu', hx'⟩ := opnd_ok he hi
      cases hu'
      obtain ⟨v, h2, h3⟩ := part_ok hΓ h1 h
      have i2 := siz_ok hΓ hsz
      have hlt := blt_lt hlt
      refine ⟨v, h2, ⟨fun N ds a ha => ?_⟩⟩
      have q1 : (0 : Int) ≤ .ofNat j := by simp
      have q2 : (.ofNat j : Int) < n := by simp; omega
      simp [execOp, ho, ha.eval hx, ha.eval hx', Instr.index, asIntOf, run_underlying (und_ok hΓ hd).und, run_sizeOf (n := sz), h3]
      omega
     ·cases h
    ·cases h
   ·cases h
  ·rename_i hd
   split at h
   ·rename_i l hl
    split at h
    ·rename_i k j hi
     split at h
     ·rename_i c hc
      cases h
      obtain ⟨u, ⟨h1, rfl⟩, hx⟩ := opnd_ok he hl
      obtain ⟨u', hu', hx'⟩ := opnd_ok he hi
      cases hu'
      have i1 := und_ok hΓ hd
      have := Yl_indexStr (P := P) (w := w) (s := l.map UInt8.ofNat) (b := UInt8.ofNat c) ho hx hx' (h := i1) (by simp) (by simp [hc])
      refine ⟨_, rfl, ?_⟩
      have hc' : c < 256 := h1 c (List.mem_of_getElem? hc)
      simpa [Nat.mod_eq_of_lt hc'] using this
     ·cases h
    ·cases h
   ·cases h
  ·cases h
 ·rename_i x i ho
  split at h
  ·rename_i l hl
   obtain ⟨u, ⟨vs, h1, rfl⟩, hx⟩ := opnd_ok he hl
   obtain ⟨v, h2, h3⟩ := RepL.get h1 h
   exact ⟨v, h3, Yl_extract (hv := ⟨h2⟩) ho hx⟩
  ·cases h
 ·rename_i t parts ho
  split at h
  ·rename_i ti hti
   obtain ⟨z, hz1, hz2, _, _⟩ := (hΓ t ti hti).inf
   have hz := ofVs_ok (ρ := ρ) _ _ hz2
   split at h
   ·rename_i fs hfs
    split at h
    ·rename_i ps hps
     split at h
     ·rename_i l hl
      cases h
      obtain ⟨pv, ls, g1, g2, g3, _⟩ := fill_ok he _ _ _ _ _ hps hl hz
      refine ⟨_, ⟨ls, g2, rfl⟩, ⟨fun N ds a ha => ?_⟩⟩
      have hb := run_build (P := P) (t := t) (w := w) (hi := hz1) (hs := (hΓ t ti hti).str fs hfs) (z := z) (cs := z.cells.toList) (by simp) g3
      have e1 : parts.map (fun x => (x.1, a.eval x.2)) = pv.toArray := by rw [← ha.evalps g1]; apply Array.ext'; simp
      simp [execOp, ho, e1, hb]
     ·cases h
    ·cases h
   ·rename_i n el hfs
    split at h
    ·rename_i sz hsz
     split at h
     ·rename_i ps hps
      split at h
      ·rename_i l hl
       cases h
       obtain ⟨pv, ls, g1, g2, g3, _⟩ := fill_ok he _ _ _ _ _ hps hl hz
       have i2 := siz_ok hΓ hsz
       have i1 := (hΓ t ti hti).und
       rw [hfs] at i1
       obtain ⟨i, hi', hz', _, _⟩ := info_parts hz1.inf
       refine ⟨_, ⟨ls, g2, rfl⟩, ⟨fun N ds a ha => ?_⟩⟩
       have e1 : parts.map (fun x => (x.1, a.eval x.2)) = pv.toArray := by rw [← ha.evalps g1]; apply Array.ext'; simp
       have hq : (zeroValue t).run P w = .ok z w := by simp [zeroValue, typeInfo, hi', hz']
       simp only [Array.toArray_toList] at g3
       simp [execOp, ho, e1, Instr.build, hq, run_underlying i1, run_sizeOf (n := sz), g3]
      ·cases h
     ·cases h
    ·cases h
   ·cases h
  ·cases h
 ·rename_i t x ho
  split at h
  ·rename_i n el hd
   split at h
   ·rename_i o' off len c hx
    replace h := cond_none h; obtain ⟨hle, h⟩ := h
    cases h
    obtain ⟨u, ⟨L, hL, _, rfl⟩, hx⟩ := opnd_ok he hx
    exact ⟨_, ⟨L, hL, rfl⟩, Yl_arrayAt (hu := und_ok hΓ hd) ho hx (ble_le hle)⟩
   ·rename_i o' sz k len hx
    replace h := cond_none h; obtain ⟨hle, h⟩ := h
    cases h
    obtain ⟨u, ⟨L, hL, _, rfl⟩, hx⟩ := opnd_ok he hx
    exact ⟨_, ⟨L, hL, rfl⟩, Yl_arrayAt (hu := und_ok hΓ hd) ho hx (ble_le hle)⟩
   ·cases h
  ·cases h
 ·rename_i b args ts ho
  exact evBuiltin_ok hΓ he ho h
 ·cases h
end
end Cr.Cl
namespace Cr
open Go Go.MapKept
set_option maxRecDepth 10000
class Key (d : TypeDesc) {α : Type} [DecidableEq α] (mk : α → Value) : Prop where
 same : ∀ a b, Instr.sameNow d (mk a) (mk b) = some (decide (a = b))
 isKey : ∀ a, IsKey d (mk a)
 bits : ∀ a n, Instr.sameBits n (mk a) (mk a) = true
instance : Key (.int .i64) (Value.int .i64) := ⟨fun a b => by
 have : (a == b) = decide (a = b) := by by_cases h : a = b <;> simp [h]
 simp [Instr.sameNow, this], fun a => by simp [IsKey], fun a n => by cases n <;> simp [Instr.sameBits]⟩
def mapr {α : Type} (mk : α → Value) (r : Nat) (L : List (α × Value)) : Res := fun h => ∃ (es : Array MapEntry) (clock : Nat), es.toList.map (fun e => (e.key, e.val)) = L.map (fun x => (mk x.1, x.2)) ∧ pts r (.map es clock) h
section
variable {α : Type} [DecidableEq α]
def getM (k : α) : List (α × Value) → Option Value
 | [] => none
 | x :: l => if k = x.1 then some x.2 else getM k l
def setM (k : α) (v : Value) : List (α × Value) → List (α × Value)
 | [] => [(k, v)]
 | x :: l => if k = x.1 then (k, v) :: l else x :: setM k v l
theorem findNow_get {d : TypeDesc} {mk : α → Value} [hk : Key d mk] (k : α) : ∀ (L : List (α × Value)) (es : List MapEntry) (i : Nat), es.map (fun e => (e.key, e.val)) = L.map (fun x => (mk x.1, x.2)) →
  ∃ r, Instr.findNow d (mk k) es i = some r ∧ r.map (·.2) = getM k L ∧ (∀ p, r = some p → i ≤ p.1 ∧ ∃ e, es[p.1 - i]? = some e ∧ e.key = mk k ∧ (es.modify (p.1 - i) fun e => { e with key := mk k, val := p.2 }).map (fun e => (e.key, e.val)) = L.map (fun x => (mk x.1, x.2)))
 | [], [], i, _ => ⟨none, rfl, rfl, fun p h => by cases h⟩
 | [], _ :: _, _, h => by simp at h
 | _ :: _, [], _, h => by simp at h
 | x :: L, e :: es, i, h => by
  simp only [List.map_cons, List.cons.injEq, Prod.mk.injEq] at h
  obtain ⟨⟨h1, h2⟩, h3⟩ := h
  unfold Instr.findNow getM
  rw [h1, hk.same]
  by_cases hkx : k = x.1
  ·subst hkx
   refine ⟨some (i, e.val), by simp, by simp [h2], fun p hp => ?_⟩
   cases hp
   exact ⟨Nat.le_refl _, e, by simp, h1, by simp [h2, h3]⟩
  ·obtain ⟨r, g1, g2, g3⟩ := findNow_get (d := d) k L es (i + 1) h3
   refine ⟨r, by simp [hkx, g1], by rw [g2, if_neg hkx], fun p hp => ?_⟩
   obtain ⟨h4, e', h5, h6, h7⟩ := g3 p hp
   have e1 : p.1 - i = (p.1 - (i + 1)) + 1 := by omega
   refine ⟨by omega, e', by rw [e1]; simpa using h5, h6, ?_⟩
   rw [e1, List.modify_succ_cons, List.map_cons, h7, h1, h2]
   rfl
variable {P : Program} {o : Oper} {σ : Env} {w : World} {x y : Operand} {t kt et : TypeId} {N : Nat} {ds : Md} {K : Env → World → Prop} {mk : α → Value} {dd : TypeDesc}
theorem X_makeMap {β : Type} {d : Nat} {W : World} {F : Nat → Prop} {rs : List Res} (mk : β → Value) (ho : o.op = .makeMap t none) (hd : o.dst = some d) (hN : Nat.blt d N = true) (hS : St W F rs w)
  (hk : ∀ r w', St W F (mapr mk r [] :: rs) w' → K ((d, .map (some r)) :: σ) w') : X P o N ds σ w K := ⟨fun f ha K' Q' hK => by
 unfold Oper.wp
 have hexec : (execOp f.eval o).run P w = .ok (.value (.map (some w.heap.size))) (w.alloc (.map #[] 0)) := by
  have : (Instr.makeMap t none).run P w = .ok (.map (some w.heap.size)) (w.alloc (.map #[] 0)) := rfl
  simp [execOp, ho, this]
 rw [hexec]
 have := hK _ _ _ (ha.put (lt_of_blt hN) (.map (some w.heap.size))) (hk w.heap.size _ ((hS.alloc (.map #[] 0)).head fun h hh => ⟨#[], 0, by simp, hh⟩))
 rw [← hd] at this
 exact this⟩
theorem Yl_lookup {r : Nat} {L : List (α × Value)} {k : α} {z : Value} {n m : Nat} (ho : o.op = .lookup t x y false) (hx : ev σ x = some (.map (some r))) (hy : ev σ y = some (mk k)) [hu : Und P t (.map kt et)] [hkt : Und P kt dd] [hK : Key dd mk] [hi : Inf P et z n m]
  (hr : Rd w (mapr mk r L)) : Yl P o σ w ((getM k L).getD z) := ⟨fun N ds f ha => by
 obtain ⟨h, ⟨es, clock, hes, rfl⟩, hag⟩ := hr
 have hb : w.heap[r]? = some (.map es clock) := hag r _ (single_self _ _)
 obtain ⟨q, g1, g2, _⟩ := findNow_get (hk := hK) k L es.toList 0 hes
 obtain ⟨i, hi', hz', _⟩ := info_parts hi.inf
 have hc := run_checkKey (P := P) (w := w) hkt.und (hK.isKey k) es.isEmpty 9999
 have hf := run_findKey (P := P) (w := w) hkt.und g1
 have hg : (getObj r).run P w = .ok (.map es clock) w := by simp [getObj, Sem.run, hb]
 simp only [execOp, ho, ha.eval hx, ha.eval hy, Instr.lookup, Sem.run_bind, run_underlying hu.und, hg, hc, hf, Result.andThen_ok, Sem.run_pure]
 rw [← g2]
 cases q <;> simp [zeroValue, typeInfo, hi', hz']⟩
theorem setM_none {k : α} {v : Value} : ∀ {L : List (α × Value)}, getM k L = none → setM k v L = L ++ [(k, v)]
 | [], _ => rfl
 | x :: L, h => by
  unfold getM at h
  split at h
  ·cases h
  ·rename_i hne
   simp [setM, hne, setM_none h]
theorem setM_some {k : α} {v : Value} : ∀ (L : List (α × Value)) (es : List MapEntry) (i : Nat), es.map (fun e => (e.key, e.val)) = L.map (fun x => (mk x.1, x.2)) → ∀ [Key dd mk] (j : Nat) (u : Value), Instr.findNow dd (mk k) es i = some (some (j, u)) →
  (es.modify (j - i) fun e => { e with key := mk k, val := v }).map (fun e => (e.key, e.val)) = (setM k v L).map (fun x => (mk x.1, x.2)) ∧ i ≤ j ∧ (es[j - i]?).map (·.key) = some (mk k)
 | [], [], i, _, _, j, u, h => by simp [Instr.findNow] at h
 | [], _ :: _, _, h, _, _, _, _ => by simp at h
 | _ :: _, [], _, h, _, _, _, _ => by simp at h
 | x :: L, e :: es, i, h, hK, j, u, hf => by
  simp only [List.map_cons, List.cons.injEq, Prod.mk.injEq] at h
  obtain ⟨⟨h1, h2⟩, h3⟩ := h
  unfold Instr.findNow at hf
  rw [h1, hK.same] at hf
  unfold setM
  by_cases hkx : k = x.1
  ·subst hkx
   simp at hf
   obtain ⟨rfl, _⟩ := hf
   simp [h3, h1]
  ·simp [hkx] at hf
   obtain ⟨g1, g2, g3⟩ := setM_some (v := v) L es (i + 1) h3 j u hf
   have e1 : j - i = (j - (i + 1)) + 1 := by omega
   refine ⟨?_, by omega, by rw [e1]; simpa using g3⟩
   rw [e1, List.modify_succ_cons, List.map_cons, g1, if_neg hkx, h1, h2]
   rfl
theorem X_mapUpdate {r : Nat} {L : List (α × Value)} {k : α} {v : Value} {W : World} {F : Nat → Prop} {rs : List Res} {z : Operand} (ho : o.op = .mapUpdate t x y z) (hx : ev σ x = some (.map (some r))) (hy : ev σ y = some (mk k)) (hz : ev σ z = some v) [hu : Und P t (.map kt et)] [hkt : Und P kt dd] [hK : Key dd mk]
  (hd : o.dst = none) (hS : St W F (mapr mk r L :: rs) w) (hk : ∀ w', St W F (mapr mk r (setM k v L) :: rs) w' → K σ w') : X P o N ds σ w K := ⟨fun f ha K' Q' hKK => by
 obtain ⟨h, ⟨h1, h2, ⟨es, clock, hes, hp⟩, hs, hdj, hun⟩, s⟩ := hS
 have hS2 : St W F (pts r (.map es clock) :: rs) w := ⟨h, ⟨h1, h2, hp, hs, hdj, hun⟩, s⟩
 have hb : w.heap[r]? = some (.map es clock) := hS2.get
 obtain ⟨q, g1, g2, _⟩ := findNow_get (hk := hK) k L es.toList 0 hes
 have hc := run_checkKey (P := P) (w := w) hkt.und (hK.isKey k) false 9999
 have hf := run_findKey (P := P) (w := w) hkt.und g1
 have hg : (getObj r).run P w = .ok (.map es clock) w := by simp [getObj, Sem.run, hb]
 have hset : ∀ o', (setObj r o').run P w = .ok () { w with heap := w.heap.setIfInBounds r o' } := fun o' => run_setObj_map o' hb
 unfold Oper.wp
 have key : ∃ es' clock', (execOp f.eval o).run P w = .ok .skip { w with heap := w.heap.setIfInBounds r (.map es' clock') } ∧ es'.toList.map (fun e => (e.key, e.val)) = (setM k v L).map (fun x => (mk x.1, x.2)) := by
  cases hq : q with
  | none =>
   subst hq
   refine ⟨es.push { key := mk k, val := v, born := clock }, clock + 1, ?_, ?_⟩
   ·simp only [execOp, ho, ha.eval hx, ha.eval hy, ha.eval hz, Instr.mapUpdate, Sem.run_bind, run_underlying hu.und, hg, hc, hf, hset, Result.andThen_ok, Sem.run_pure]
   ·rw [setM_none (by rw [← g2]; rfl)]
    simp [hes]
  | some p =>
   obtain ⟨j, u⟩ := p
   subst hq
   obtain ⟨g4, g5, g6⟩ := setM_some (v := v) L es.toList 0 hes j u g1
   simp only [Nat.sub_zero] at g4 g6
   have hek : ((es[j]?).map (·.key)).getD (mk k) = mk k := by
    rw [← Array.getElem?_toList, g6]; rfl
   refine ⟨es.modify j fun e => { e with key := mk k, val := v }, clock, ?_, ?_⟩
   ·simp only [execOp, ho, ha.eval hx, ha.eval hy, ha.eval hz, Instr.mapUpdate, Sem.run_bind, run_underlying hu.und, hg, hc, hf, hset, Result.andThen_ok, Sem.run_pure, hek, Instr.keyThatStays, hK.bits, if_true]
   ·simpa [Array.toList_modify] using g4
 obtain ⟨es', clock', hexec, hes'⟩ := key
 rw [hexec]
 have u := setBlock_put (o' := .map es' clock') hb
 refine hKK _ _ _ (?_ : Fr σ N ds _) (hk _ ((hS2.set u).head fun h hh => ⟨es', clock', hes', hh⟩))
 rw [hd]; exact ha⟩
end
end Cr
