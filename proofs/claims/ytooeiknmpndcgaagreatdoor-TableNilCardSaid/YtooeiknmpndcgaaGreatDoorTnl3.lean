/-
  FACTS ON THE TYPES AND FUNCTIONS OF THIS SEAT's TRANSLATION, written by a program off the dump's rows; each is proved by the kernel.
  'for .. := range f { .. }', f a function: rules for the walk. Over any program.
  Bits, strings of bytes. Over any program.
  Layer 2 (digest): what each function of package digest computes.
  The two tables of package digest, as the program's text lays them.
  A law's wrap, for every law alike: what is as it was reads as it did.
  Lists of cells in parts; bytes in a block; quotients. Over any program.
  Calls that make memory. Over any program.
-/
import Derived.Test.YtooeiknmpndcgaaGreatDoorTnl2
import Derived.Test.YtooeiknmpndcgaaGreatDoorRows
import Derived.Test.YtooeiknmpndcgaaGreatDoorCards
import Derived.Test.YtooeiknmpndcgaaGreatDoorTie
import Derived.WalkKit
import Derived.ProofKit
import Derived.OpenShut
import Derived.Deep.DeepHandedRow
import Derived.Lib.LaidTab
import Derived.Stop.LaidErr
import Derived.Carry
namespace Cr
open Go Go.Proofs
theorem Inf.k {P : Program} {t : TypeId} {z : Value} {s b : Nat} (h : (P.info? t).map (fun i => (i.zero, i.size, i.bytes)) = some (some z, s, b) := by kernel_rfl) (h2 : z.cells.size = s := by kernel_rfl) : Inf P t z s b := ⟨h, h2⟩
theorem Str.k {P : Program} {t : TypeId} {l : List Field} {pl : List (Nat × Nat)} (u : P.underlying t = some (.struct l.toArray)) (h : l.map (fun f => (P.info? f.type).map (·.size)) = pl.map (fun x => some x.2) := by kernel_rfl) (h2 : l.map (·.offset) = pl.map (·.1) := by kernel_rfl) : Str P t pl := ⟨⟨l, u, h, h2⟩⟩
def isAg : TypeDesc → Bool
 | .struct _ | .array _ _ => true
 | _ => false
theorem Agg.k {P : Program} {t : TypeId} {d : TypeDesc} (u : P.underlying t = some d) (h : isAg d = true := by rfl) : Agg P t := ⟨fun w => by rw [run_isAgg u w]; cases d <;> first | rfl | cases h⟩
theorem Fld.k {P : Program} {s f off n : Nat} {t : TypeId} {fs : Array Field} {fd : Field} (u : P.underlying s = some (.struct fs)) (h : fs[f]? = some fd := by rfl) (h2 : fd.offset = off := by rfl) (h3 : fd.type = t := by rfl) (h4 : (P.info? t).map (·.size) = some n := by kernel_rfl) : Fld P s f off t n := ⟨⟨fs, fd, u, h, h2, h3, h4⟩⟩
theorem Fun.k {P : Program} {g : FuncId} {fn : Func} (h : P.funcs[g]? = some fn) (hn : (fn.name == "runtime.NumGoroutine") = false := by kernel_rfl) (hb : fn.body.isSome = true := by kernel_rfl) : Fun P g := Fun.mk' h hn hb
instance : Und Tryz.prog 2 (.int .i64) := ⟨Tryz.underlying2⟩
instance : Inf Tryz.prog 2 (.int .i64 0) 1 8 := .k
instance : Und Tryz.prog 3 (.int .i64) := ⟨Tryz.underlying3⟩
instance : Inf Tryz.prog 3 (.int .i64 0) 1 8 := .k
instance : Und Tryz.prog 4 (.bool) := ⟨Tryz.underlying4⟩
instance : Inf Tryz.prog 4 (.bool false) 1 1 := .k
instance : Und Tryz.prog 5 (.int .u8) := ⟨Tryz.underlying5⟩
instance : Inf Tryz.prog 5 (.int .u8 0) 1 1 := .k
instance : Und Tryz.prog 6 (.int .u8) := ⟨Tryz.underlying6⟩
instance : Inf Tryz.prog 6 (.int .u8 0) 1 1 := .k
instance : Agg Tryz.prog 7 := .k Tryz.underlying7
instance : Inf Tryz.prog 7 (.agg #[(.int .i64 0), (.int .i64 0), (.bool false), (.int .u8 0)]) 4 24 := .k
instance : Str Tryz.prog 7 [(0, 1), (1, 1), (2, 1), (3, 1)] := .k Tryz.underlying7
instance : Agg Tryz.prog 8 := .k Tryz.underlying8
instance : Inf Tryz.prog 8 (.agg #[(.int .i64 0), (.int .i64 0), (.bool false), (.int .u8 0)]) 4 24 := .k
instance : Str Tryz.prog 8 [(0, 1), (1, 1), (2, 1), (3, 1)] := .k Tryz.underlying8
instance : Und Tryz.prog 9 (.string) := ⟨Tryz.underlying9⟩
instance : Inf Tryz.prog 9 (.string ⟨#[]⟩) 1 16 := .k
instance : Und Tryz.prog 10 (.string) := ⟨Tryz.underlying10⟩
instance : Inf Tryz.prog 10 (.string ⟨#[]⟩) 1 16 := .k
instance : Und Tryz.prog 11 (.string) := ⟨Tryz.underlying11⟩
instance : Inf Tryz.prog 11 (.string ⟨#[]⟩) 1 16 := .k
instance : Und Tryz.prog 12 (.int .u64) := ⟨Tryz.underlying12⟩
instance : Inf Tryz.prog 12 (.int .u64 0) 1 8 := .k
instance : Agg Tryz.prog 13 := .k Tryz.underlying13
instance : Inf Tryz.prog 13 (.agg #[(.string ⟨#[]⟩), (.int .u64 0)]) 2 24 := .k
instance : Str Tryz.prog 13 [(0, 1), (1, 1)] := .k Tryz.underlying13
instance : Agg Tryz.prog 14 := .k Tryz.underlying14
instance : Inf Tryz.prog 14 (.agg #[(.string ⟨#[]⟩), (.int .u64 0)]) 2 24 := .k
instance : Str Tryz.prog 14 [(0, 1), (1, 1)] := .k Tryz.underlying14
instance : Und Tryz.prog 15 (.pointer 395) := ⟨Tryz.underlying15⟩
instance : Inf Tryz.prog 15 (.pointer none) 1 8 := .k
instance : Und Tryz.prog 16 (.pointer 398) := ⟨Tryz.underlying16⟩
instance : Inf Tryz.prog 16 (.pointer none) 1 8 := .k
instance : Und Tryz.prog 17 (.pointer 405) := ⟨Tryz.underlying17⟩
instance : Inf Tryz.prog 17 (.pointer none) 1 8 := .k
instance : Agg Tryz.prog 18 := .k Tryz.underlying18
instance : Inf Tryz.prog 18 (.agg #[(.pointer none)]) 1 8 := .k
instance : Str Tryz.prog 18 [(0, 1)] := .k Tryz.underlying18
instance : Agg Tryz.prog 19 := .k Tryz.underlying19
instance : Inf Tryz.prog 19 (.agg #[(.pointer none)]) 1 8 := .k
instance : Str Tryz.prog 19 [(0, 1)] := .k Tryz.underlying19
instance : One Tryz.prog 20 := ⟨fun w => run_isAgg Tryz.underlying20 w⟩
instance : Inf Tryz.prog 20 .nilIface 1 16 := .k
instance : Und Tryz.prog 21 (.int .i32) := ⟨Tryz.underlying21⟩
instance : Inf Tryz.prog 21 (.int .i32 0) 1 4 := .k
instance : Und Tryz.prog 22 (.pointer 69) := ⟨Tryz.underlying22⟩
instance : Inf Tryz.prog 22 (.pointer none) 1 8 := .k
instance : Und Tryz.prog 23 (.int .i64) := ⟨Tryz.underlying23⟩
instance : Inf Tryz.prog 23 (.int .i64 0) 1 8 := .k
instance : Und Tryz.prog 26 (.slice 5) := ⟨Tryz.underlying26⟩
instance : Inf Tryz.prog 26 (.slice none 0 0) 1 24 := .k
instance : Und Tryz.prog 27 (.slice 29) := ⟨Tryz.underlying27⟩
instance : Inf Tryz.prog 27 (.slice none 0 0) 1 24 := .k
instance : Agg Tryz.prog 28 := .k Tryz.underlying28
instance : Inf Tryz.prog 28 (.agg #[(.int .i64 0), (.int .i64 0), (.slice none 0 0), (.slice none 0 0)]) 4 64 := .k
instance : Str Tryz.prog 28 [(0, 1), (1, 1), (2, 1), (3, 1)] := .k Tryz.underlying28
instance : Agg Tryz.prog 29 := .k Tryz.underlying29
instance : Inf Tryz.prog 29 (.agg #[(.int .i64 0), (.int .i64 0), (.slice none 0 0), (.slice none 0 0)]) 4 64 := .k
instance : Str Tryz.prog 29 [(0, 1), (1, 1), (2, 1), (3, 1)] := .k Tryz.underlying29
instance : Und Tryz.prog 34 (.slice 9) := ⟨Tryz.underlying34⟩
instance : Inf Tryz.prog 34 (.slice none 0 0) 1 24 := .k
instance : Und Tryz.prog 43 (.pointer 99) := ⟨Tryz.underlying43⟩
instance : Inf Tryz.prog 43 (.pointer none) 1 8 := .k
instance : Und Tryz.prog 44 (.pointer 120) := ⟨Tryz.underlying44⟩
instance : Inf Tryz.prog 44 (.pointer none) 1 8 := .k
instance : Agg Tryz.prog 48 := .k Tryz.underlying48
instance : Inf Tryz.prog 48 (.agg #[(.int .i64 0), (.int .i64 0), (.int .i64 0), (.int .i64 0)]) 4 32 := .k
instance : Str Tryz.prog 48 [(0, 1), (1, 1), (2, 1), (3, 1)] := .k Tryz.underlying48
instance : Agg Tryz.prog 49 := .k Tryz.underlying49
instance : Inf Tryz.prog 49 (.agg #[(.int .i64 0), (.int .i64 0), (.int .i64 0), (.int .i64 0)]) 4 32 := .k
instance : Str Tryz.prog 49 [(0, 1), (1, 1), (2, 1), (3, 1)] := .k Tryz.underlying49
instance : Fld Tryz.prog 49 0 0 3 1 := .k Tryz.underlying49
instance : Fld Tryz.prog 49 1 1 3 1 := .k Tryz.underlying49
instance : Fld Tryz.prog 49 2 2 3 1 := .k Tryz.underlying49
instance : Fld Tryz.prog 49 3 3 3 1 := .k Tryz.underlying49
instance : Agg Tryz.prog 50 := .k Tryz.underlying50
instance : Inf Tryz.prog 50 (.agg #[(.int .i64 0), (.int .i64 0), (.int .i64 0), (.int .i64 0), (.slice none 0 0)]) 5 56 := .k
instance : Str Tryz.prog 50 [(0, 4), (4, 1)] := .k Tryz.underlying50
instance : Agg Tryz.prog 51 := .k Tryz.underlying51
instance : Inf Tryz.prog 51 (.agg #[(.int .i64 0), (.int .i64 0), (.int .i64 0), (.int .i64 0), (.slice none 0 0)]) 5 56 := .k
instance : Str Tryz.prog 51 [(0, 4), (4, 1)] := .k Tryz.underlying51
instance : Fld Tryz.prog 51 0 0 49 4 := .k Tryz.underlying51
instance : Fld Tryz.prog 51 1 4 26 1 := .k Tryz.underlying51
instance : Und Tryz.prog 58 (.slice 123) := ⟨Tryz.underlying58⟩
instance : Inf Tryz.prog 58 (.slice none 0 0) 1 24 := .k
instance : Agg Tryz.prog 68 := .k Tryz.underlying68
instance : Inf Tryz.prog 68 (.agg #[(.pointer none), (.string ⟨#[]⟩)]) 2 24 := .k
instance : Str Tryz.prog 68 [(0, 1), (1, 1)] := .k Tryz.underlying68
instance : Agg Tryz.prog 69 := .k Tryz.underlying69
instance : Inf Tryz.prog 69 (.agg #[(.pointer none), (.string ⟨#[]⟩)]) 2 24 := .k
instance : Str Tryz.prog 69 [(0, 1), (1, 1)] := .k Tryz.underlying69
instance : Und Tryz.prog 74 (.pointer 218) := ⟨Tryz.underlying74⟩
instance : Inf Tryz.prog 74 (.pointer none) 1 8 := .k
instance : Und Tryz.prog 75 (.pointer 238) := ⟨Tryz.underlying75⟩
instance : Inf Tryz.prog 75 (.pointer none) 1 8 := .k
instance : Und Tryz.prog 80 (.slice 34) := ⟨Tryz.underlying80⟩
instance : Inf Tryz.prog 80 (.slice none 0 0) 1 24 := .k
instance : Und Tryz.prog 86 (.pointer 171) := ⟨Tryz.underlying86⟩
instance : Inf Tryz.prog 86 (.pointer none) 1 8 := .k
instance : Agg Tryz.prog 90 := .k Tryz.underlying90
instance : Inf Tryz.prog 90 (.agg #[(.int .i64 0), (.int .i64 0), (.int .i64 0), (.int .i64 0), (.int .i64 0), (.slice none 0 0), (.bool false)]) 7 72 := .k
instance : Str Tryz.prog 90 [(0, 1), (1, 5), (6, 1)] := .k Tryz.underlying90
instance : Agg Tryz.prog 91 := .k Tryz.underlying91
instance : Inf Tryz.prog 91 (.agg #[(.int .i64 0), (.int .i64 0), (.int .i64 0), (.int .i64 0), (.int .i64 0), (.slice none 0 0), (.bool false)]) 7 72 := .k
instance : Str Tryz.prog 91 [(0, 1), (1, 5), (6, 1)] := .k Tryz.underlying91
instance : Fld Tryz.prog 91 0 0 3 1 := .k Tryz.underlying91
instance : Fld Tryz.prog 91 1 1 51 5 := .k Tryz.underlying91
instance : Fld Tryz.prog 91 2 6 4 1 := .k Tryz.underlying91
instance : Agg Tryz.prog 93 := .k Tryz.underlying93
instance : Inf Tryz.prog 93 (.agg #[]) 0 0 := .k
instance : Str Tryz.prog 93 [] := .k Tryz.underlying93
instance : Agg Tryz.prog 94 := .k Tryz.underlying94
instance : Inf Tryz.prog 94 (.agg #[]) 0 0 := .k
instance : Str Tryz.prog 94 [] := .k Tryz.underlying94
instance : Agg Tryz.prog 95 := .k Tryz.underlying95
instance : Inf Tryz.prog 95 (.agg #[]) 0 0 := .k
instance : Str Tryz.prog 95 [] := .k Tryz.underlying95
instance : Agg Tryz.prog 96 := .k Tryz.underlying96
instance : Inf Tryz.prog 96 (.agg #[(.int .i64 0)]) 1 8 := .k
instance : Str Tryz.prog 96 [(0, 0), (0, 0), (0, 1)] := .k Tryz.underlying96
instance : Agg Tryz.prog 97 := .k Tryz.underlying97
instance : Inf Tryz.prog 97 (.agg #[(.int .i64 0)]) 1 8 := .k
instance : Str Tryz.prog 97 [(0, 0), (0, 0), (0, 1)] := .k Tryz.underlying97
instance : Fld Tryz.prog 97 2 0 2 1 := .k Tryz.underlying97
instance : Agg Tryz.prog 98 := .k Tryz.underlying98
instance : Inf Tryz.prog 98 (.agg #[(.pointer none), (.int .i64 0)]) 2 16 := .k
instance : Str Tryz.prog 98 [(0, 1), (1, 1)] := .k Tryz.underlying98
instance : Agg Tryz.prog 99 := .k Tryz.underlying99
instance : Inf Tryz.prog 99 (.agg #[(.pointer none), (.int .i64 0)]) 2 16 := .k
instance : Str Tryz.prog 99 [(0, 1), (1, 1)] := .k Tryz.underlying99
instance : Agg Tryz.prog 100 := .k Tryz.underlying100
instance : Inf Tryz.prog 100 (.agg #[(.int .i64 0), (.int .i64 0), (.int .i64 0), (.int .i64 0), (.int .i64 0), (.slice none 0 0)]) 6 64 := .k
instance : Str Tryz.prog 100 [(0, 1), (1, 5)] := .k Tryz.underlying100
instance : Agg Tryz.prog 101 := .k Tryz.underlying101
instance : Inf Tryz.prog 101 (.agg #[(.int .i64 0), (.int .i64 0), (.int .i64 0), (.int .i64 0), (.int .i64 0), (.slice none 0 0)]) 6 64 := .k
instance : Str Tryz.prog 101 [(0, 1), (1, 5)] := .k Tryz.underlying101
instance : Und Tryz.prog 110 (.slice 114) := ⟨Tryz.underlying110⟩
instance : Inf Tryz.prog 110 (.slice none 0 0) 1 24 := .k
instance : Agg Tryz.prog 113 := .k Tryz.underlying113
instance : Inf Tryz.prog 113 (.agg #[(.string ⟨#[]⟩), (.int .i64 0)]) 2 24 := .k
instance : Str Tryz.prog 113 [(0, 1), (1, 1)] := .k Tryz.underlying113
instance : Agg Tryz.prog 114 := .k Tryz.underlying114
instance : Inf Tryz.prog 114 (.agg #[(.string ⟨#[]⟩), (.int .i64 0)]) 2 24 := .k
instance : Str Tryz.prog 114 [(0, 1), (1, 1)] := .k Tryz.underlying114
instance : Und Tryz.prog 117 (.map 3 51) := ⟨Tryz.underlying117⟩
instance : Inf Tryz.prog 117 (.map none) 1 8 := .k
instance : Und Tryz.prog 118 (.map 3 4) := ⟨Tryz.underlying118⟩
instance : Inf Tryz.prog 118 (.map none) 1 8 := .k
instance : Agg Tryz.prog 119 := .k Tryz.underlying119
instance : Inf Tryz.prog 119 (.agg #[(.pointer none), (.int .i64 0), (.bool false), (.map none), (.map none)]) 5 40 := .k
instance : Str Tryz.prog 119 [(0, 1), (1, 1), (2, 1), (3, 1), (4, 1)] := .k Tryz.underlying119
instance : Agg Tryz.prog 120 := .k Tryz.underlying120
instance : Inf Tryz.prog 120 (.agg #[(.pointer none), (.int .i64 0), (.bool false), (.map none), (.map none)]) 5 40 := .k
instance : Str Tryz.prog 120 [(0, 1), (1, 1), (2, 1), (3, 1), (4, 1)] := .k Tryz.underlying120
instance : Agg Tryz.prog 122 := .k Tryz.underlying122
instance : Inf Tryz.prog 122 (.agg #[(.slice none 0 0), (.int .i64 0), (.int .i64 0), (.int .i64 0), (.int .i64 0), (.slice none 0 0)]) 6 80 := .k
instance : Str Tryz.prog 122 [(0, 1), (1, 5)] := .k Tryz.underlying122
instance : Agg Tryz.prog 123 := .k Tryz.underlying123
instance : Inf Tryz.prog 123 (.agg #[(.slice none 0 0), (.int .i64 0), (.int .i64 0), (.int .i64 0), (.int .i64 0), (.slice none 0 0)]) 6 80 := .k
instance : Str Tryz.prog 123 [(0, 1), (1, 5)] := .k Tryz.underlying123
instance : Und Tryz.prog 141 (.slice 91) := ⟨Tryz.underlying141⟩
instance : Inf Tryz.prog 141 (.slice none 0 0) 1 24 := .k
instance : Und Tryz.prog 151 (.pointer 230) := ⟨Tryz.underlying151⟩
instance : Inf Tryz.prog 151 (.pointer none) 1 8 := .k
instance : Und Tryz.prog 158 (.pointer 160) := ⟨Tryz.underlying158⟩
instance : Inf Tryz.prog 158 (.pointer none) 1 8 := .k
instance : Agg Tryz.prog 159 := .k Tryz.underlying159
instance : Inf Tryz.prog 159 (.agg #[(.slice none 0 0), (.bool false)]) 2 32 := .k
instance : Str Tryz.prog 159 [(0, 1), (1, 1)] := .k Tryz.underlying159
instance : Agg Tryz.prog 160 := .k Tryz.underlying160
instance : Inf Tryz.prog 160 (.agg #[(.slice none 0 0), (.bool false)]) 2 32 := .k
instance : Str Tryz.prog 160 [(0, 1), (1, 1)] := .k Tryz.underlying160
instance : Und Tryz.prog 165 (.slice 3) := ⟨Tryz.underlying165⟩
instance : Inf Tryz.prog 165 (.slice none 0 0) 1 24 := .k
instance : Agg Tryz.prog 166 := .k Tryz.underlying166
instance : Inf Tryz.prog 166 (.agg #[(.int .i64 0), (.int .i64 0), (.int .i64 0), (.int .i64 0), (.slice none 0 0), (.slice none 0 0)]) 6 80 := .k
instance : Str Tryz.prog 166 [(0, 5), (5, 1)] := .k Tryz.underlying166
instance : Agg Tryz.prog 167 := .k Tryz.underlying167
instance : Inf Tryz.prog 167 (.agg #[(.int .i64 0), (.int .i64 0), (.int .i64 0), (.int .i64 0), (.slice none 0 0), (.slice none 0 0)]) 6 80 := .k
instance : Str Tryz.prog 167 [(0, 5), (5, 1)] := .k Tryz.underlying167
instance : Fld Tryz.prog 167 0 0 51 5 := .k Tryz.underlying167
instance : Fld Tryz.prog 167 1 5 165 1 := .k Tryz.underlying167
instance : Und Tryz.prog 169 (.map 3 167) := ⟨Tryz.underlying169⟩
instance : Inf Tryz.prog 169 (.map none) 1 8 := .k
instance : Agg Tryz.prog 170 := .k Tryz.underlying170
instance : Inf Tryz.prog 170 (.agg #[(.pointer none), (.int .i64 0), (.map none)]) 3 24 := .k
instance : Str Tryz.prog 170 [(0, 1), (1, 1), (2, 1)] := .k Tryz.underlying170
instance : Agg Tryz.prog 171 := .k Tryz.underlying171
instance : Inf Tryz.prog 171 (.agg #[(.pointer none), (.int .i64 0), (.map none)]) 3 24 := .k
instance : Str Tryz.prog 171 [(0, 1), (1, 1), (2, 1)] := .k Tryz.underlying171
instance : Fld Tryz.prog 171 0 0 151 1 := .k Tryz.underlying171
instance : Fld Tryz.prog 171 1 1 3 1 := .k Tryz.underlying171
instance : Fld Tryz.prog 171 2 2 169 1 := .k Tryz.underlying171
instance : Und Tryz.prog 176 (.slice 178) := ⟨Tryz.underlying176⟩
instance : Inf Tryz.prog 176 (.slice none 0 0) 1 24 := .k
instance : Agg Tryz.prog 177 := .k Tryz.underlying177
instance : Inf Tryz.prog 177 (.agg #[(.int .i64 0), (.slice none 0 0)]) 2 32 := .k
instance : Str Tryz.prog 177 [(0, 1), (1, 1)] := .k Tryz.underlying177
instance : Agg Tryz.prog 178 := .k Tryz.underlying178
instance : Inf Tryz.prog 178 (.agg #[(.int .i64 0), (.slice none 0 0)]) 2 32 := .k
instance : Str Tryz.prog 178 [(0, 1), (1, 1)] := .k Tryz.underlying178
instance : Fld Tryz.prog 178 0 0 3 1 := .k Tryz.underlying178
instance : Fld Tryz.prog 178 1 1 26 1 := .k Tryz.underlying178
instance : Und Tryz.prog 197 (.pointer 97) := ⟨Tryz.underlying197⟩
instance : Inf Tryz.prog 197 (.pointer none) 1 8 := .k
instance : Und Tryz.prog 199 (.pointer 2) := ⟨Tryz.underlying199⟩
instance : Inf Tryz.prog 199 (.pointer none) 1 8 := .k
instance : Und Tryz.prog 208 (.pointer 212) := ⟨Tryz.underlying208⟩
instance : Inf Tryz.prog 208 (.pointer none) 1 8 := .k
instance : Agg Tryz.prog 209 := .k Tryz.underlying209
instance : Inf Tryz.prog 209 (.agg #[(.slice none 0 0), (.int .i64 0)]) 2 32 := .k
instance : Str Tryz.prog 209 [(0, 1), (1, 1)] := .k Tryz.underlying209
instance : Agg Tryz.prog 210 := .k Tryz.underlying210
instance : Inf Tryz.prog 210 (.agg #[(.slice none 0 0), (.int .i64 0)]) 2 32 := .k
instance : Str Tryz.prog 210 [(0, 1), (1, 1)] := .k Tryz.underlying210
instance : Agg Tryz.prog 211 := .k Tryz.underlying211
instance : Inf Tryz.prog 211 (.agg #[(.slice none 0 0), (.int .i64 0), (.int .i64 0)]) 3 40 := .k
instance : Str Tryz.prog 211 [(0, 2), (2, 1)] := .k Tryz.underlying211
instance : Agg Tryz.prog 212 := .k Tryz.underlying212
instance : Inf Tryz.prog 212 (.agg #[(.slice none 0 0), (.int .i64 0), (.int .i64 0)]) 3 40 := .k
instance : Str Tryz.prog 212 [(0, 2), (2, 1)] := .k Tryz.underlying212
instance : Und Tryz.prog 213 (.slice 298) := ⟨Tryz.underlying213⟩
instance : Inf Tryz.prog 213 (.slice none 0 0) 1 24 := .k
instance : Agg Tryz.prog 214 := .k Tryz.underlying214
instance : Inf Tryz.prog 214 (.agg #[(.bool false), (.bool false), (.int .i64 0)]) 3 16 := .k
instance : Str Tryz.prog 214 [(0, 1), (1, 1), (2, 1)] := .k Tryz.underlying214
instance : Agg Tryz.prog 215 := .k Tryz.underlying215
instance : Inf Tryz.prog 215 (.agg #[(.bool false), (.bool false), (.int .i64 0)]) 3 16 := .k
instance : Str Tryz.prog 215 [(0, 1), (1, 1), (2, 1)] := .k Tryz.underlying215
instance : Fld Tryz.prog 215 0 0 4 1 := .k Tryz.underlying215
instance : Fld Tryz.prog 215 1 1 4 1 := .k Tryz.underlying215
instance : Fld Tryz.prog 215 2 2 3 1 := .k Tryz.underlying215
instance : Und Tryz.prog 216 (.slice 300) := ⟨Tryz.underlying216⟩
instance : Inf Tryz.prog 216 (.slice none 0 0) 1 24 := .k
instance : Agg Tryz.prog 217 := .k Tryz.underlying217
instance : Inf Tryz.prog 217 (.agg #[(.bool false), (.bool false), (.int .i64 0), (.slice none 0 0), (.slice none 0 0), (.int .i64 0), (.int .i64 0)]) 7 80 := .k
instance : Str Tryz.prog 217 [(0, 3), (3, 1), (4, 1), (5, 1), (6, 1)] := .k Tryz.underlying217
instance : Agg Tryz.prog 218 := .k Tryz.underlying218
instance : Inf Tryz.prog 218 (.agg #[(.bool false), (.bool false), (.int .i64 0), (.slice none 0 0), (.slice none 0 0), (.int .i64 0), (.int .i64 0)]) 7 80 := .k
instance : Str Tryz.prog 218 [(0, 3), (3, 1), (4, 1), (5, 1), (6, 1)] := .k Tryz.underlying218
instance : Fld Tryz.prog 218 0 0 215 3 := .k Tryz.underlying218
instance : Fld Tryz.prog 218 1 3 213 1 := .k Tryz.underlying218
instance : Fld Tryz.prog 218 2 4 216 1 := .k Tryz.underlying218
instance : Fld Tryz.prog 218 3 5 97 1 := .k Tryz.underlying218
instance : Fld Tryz.prog 218 4 6 97 1 := .k Tryz.underlying218
instance : Agg Tryz.prog 219 := .k Tryz.underlying219
instance : Inf Tryz.prog 219 (.agg #[]) 0 0 := .k
instance : Str Tryz.prog 219 [] := .k Tryz.underlying219
instance : Und Tryz.prog 220 (.int .u32) := ⟨Tryz.underlying220⟩
instance : Inf Tryz.prog 220 (.int .u32 0) 1 4 := .k
instance : Agg Tryz.prog 221 := .k Tryz.underlying221
instance : Inf Tryz.prog 221 (.agg #[(.int .u32 0)]) 1 4 := .k
instance : Str Tryz.prog 221 [(0, 0), (0, 1)] := .k Tryz.underlying221
instance : Agg Tryz.prog 222 := .k Tryz.underlying222
instance : Inf Tryz.prog 222 (.agg #[(.int .u32 0)]) 1 4 := .k
instance : Str Tryz.prog 222 [(0, 0), (0, 1)] := .k Tryz.underlying222
instance : Fld Tryz.prog 222 1 0 220 1 := .k Tryz.underlying222
instance : Agg Tryz.prog 223 := .k Tryz.underlying223
instance : Inf Tryz.prog 223 (.agg #[(.int .i32 0), (.int .u32 0)]) 2 8 := .k
instance : Str Tryz.prog 223 [(0, 1), (1, 1)] := .k Tryz.underlying223
instance : Agg Tryz.prog 224 := .k Tryz.underlying224
instance : Inf Tryz.prog 224 (.agg #[(.int .i32 0), (.int .u32 0)]) 2 8 := .k
instance : Str Tryz.prog 224 [(0, 1), (1, 1)] := .k Tryz.underlying224
instance : Fld Tryz.prog 224 0 0 21 1 := .k Tryz.underlying224
instance : Agg Tryz.prog 225 := .k Tryz.underlying225
instance : Inf Tryz.prog 225 (.agg #[(.int .i32 0), (.int .u32 0)]) 2 8 := .k
instance : Str Tryz.prog 225 [(0, 0), (0, 2)] := .k Tryz.underlying225
instance : Agg Tryz.prog 226 := .k Tryz.underlying226
instance : Inf Tryz.prog 226 (.agg #[(.int .i32 0), (.int .u32 0)]) 2 8 := .k
instance : Str Tryz.prog 226 [(0, 0), (0, 2)] := .k Tryz.underlying226
instance : Fld Tryz.prog 226 1 0 224 2 := .k Tryz.underlying226
instance : Agg Tryz.prog 227 := .k Tryz.underlying227
instance : Inf Tryz.prog 227 (.agg #[(.int .u32 0), (.int .i32 0), (.int .u32 0)]) 3 12 := .k
instance : Str Tryz.prog 227 [(0, 0), (0, 1), (1, 2)] := .k Tryz.underlying227
instance : Agg Tryz.prog 228 := .k Tryz.underlying228
instance : Inf Tryz.prog 228 (.agg #[(.int .u32 0), (.int .i32 0), (.int .u32 0)]) 3 12 := .k
instance : Str Tryz.prog 228 [(0, 0), (0, 1), (1, 2)] := .k Tryz.underlying228
instance : Fld Tryz.prog 228 1 0 222 1 := .k Tryz.underlying228
instance : Fld Tryz.prog 228 2 1 226 2 := .k Tryz.underlying228
instance : Agg Tryz.prog 229 := .k Tryz.underlying229
instance : Inf Tryz.prog 229 (.agg #[(.pointer none), (.int .u32 0), (.int .i32 0), (.int .u32 0), (.int .i64 0), (.int .i64 0), (.bool false)]) 7 48 := .k
instance : Str Tryz.prog 229 [(0, 1), (1, 3), (4, 1), (5, 1), (6, 1)] := .k Tryz.underlying229
instance : Agg Tryz.prog 230 := .k Tryz.underlying230
instance : Inf Tryz.prog 230 (.agg #[(.pointer none), (.int .u32 0), (.int .i32 0), (.int .u32 0), (.int .i64 0), (.int .i64 0), (.bool false)]) 7 48 := .k
instance : Str Tryz.prog 230 [(0, 1), (1, 3), (4, 1), (5, 1), (6, 1)] := .k Tryz.underlying230
instance : Fld Tryz.prog 230 0 0 74 1 := .k Tryz.underlying230
instance : Fld Tryz.prog 230 1 1 228 3 := .k Tryz.underlying230
instance : Fld Tryz.prog 230 2 4 3 1 := .k Tryz.underlying230
instance : Fld Tryz.prog 230 3 5 3 1 := .k Tryz.underlying230
instance : Fld Tryz.prog 230 4 6 4 1 := .k Tryz.underlying230
instance : Agg Tryz.prog 235 := .k Tryz.underlying235
instance : Inf Tryz.prog 235 (.agg #[(.int .i64 0), (.int .i64 0), (.int .i64 0), (.int .i64 0)]) 4 32 := .k
instance : Str Tryz.prog 235 [(0, 1), (1, 1), (2, 1), (3, 1)] := .k Tryz.underlying235
instance : Und Tryz.prog 236 (.slice 408) := ⟨Tryz.underlying236⟩
instance : Inf Tryz.prog 236 (.slice none 0 0) 1 24 := .k
instance : Agg Tryz.prog 237 := .k Tryz.underlying237
instance : Inf Tryz.prog 237 (.agg #[(.int .i64 0), (.int .i64 0), (.int .i64 0), (.int .i64 0), (.slice none 0 0), (.int .i64 0)]) 6 64 := .k
instance : Str Tryz.prog 237 [(0, 4), (4, 1), (5, 1)] := .k Tryz.underlying237
instance : Agg Tryz.prog 238 := .k Tryz.underlying238
instance : Inf Tryz.prog 238 (.agg #[(.int .i64 0), (.int .i64 0), (.int .i64 0), (.int .i64 0), (.slice none 0 0), (.int .i64 0)]) 6 64 := .k
instance : Str Tryz.prog 238 [(0, 4), (4, 1), (5, 1)] := .k Tryz.underlying238
instance : Und Tryz.prog 249 (.pointer 251) := ⟨Tryz.underlying249⟩
instance : Inf Tryz.prog 249 (.pointer none) 1 8 := .k
instance : Agg Tryz.prog 250 := .k Tryz.underlying250
instance : Inf Tryz.prog 250 (.agg #[(.pointer none), (.int .i64 0)]) 2 16 := .k
instance : Str Tryz.prog 250 [(0, 1), (1, 1)] := .k Tryz.underlying250
instance : Agg Tryz.prog 251 := .k Tryz.underlying251
instance : Inf Tryz.prog 251 (.agg #[(.pointer none), (.int .i64 0)]) 2 16 := .k
instance : Str Tryz.prog 251 [(0, 1), (1, 1)] := .k Tryz.underlying251
instance : Fld Tryz.prog 251 0 0 74 1 := .k Tryz.underlying251
instance : Fld Tryz.prog 251 1 1 23 1 := .k Tryz.underlying251
instance : Und Tryz.prog 252 (.array 32 5) := ⟨Tryz.underlying252⟩
instance : Inf Tryz.prog 252 (.agg (List.replicate 32 (.int .u8 0)).toArray) 32 32 := .k
instance : Und Tryz.prog 263 (.int .u64) := ⟨Tryz.underlying263⟩
instance : Inf Tryz.prog 263 (.int .u64 0) 1 8 := .k
instance : Und Tryz.prog 270 (.pointer 228) := ⟨Tryz.underlying270⟩
instance : Inf Tryz.prog 270 (.pointer none) 1 8 := .k
instance : Und Tryz.prog 276 (.slice 26) := ⟨Tryz.underlying276⟩
instance : Inf Tryz.prog 276 (.slice none 0 0) 1 24 := .k
instance : Und Tryz.prog 278 (.int .u64) := ⟨Tryz.underlying278⟩
instance : Inf Tryz.prog 278 (.int .u64 0) 1 8 := .k
instance : Und Tryz.prog 284 (.pointer 210) := ⟨Tryz.underlying284⟩
instance : Inf Tryz.prog 284 (.pointer none) 1 8 := .k
instance : One Tryz.prog 286 := ⟨fun w => run_isAgg Tryz.underlying286 w⟩
instance : Inf Tryz.prog 286 .nilIface 1 16 := .k
instance : One Tryz.prog 287 := ⟨fun w => run_isAgg Tryz.underlying287 w⟩
instance : Inf Tryz.prog 287 .nilIface 1 16 := .k
instance : Und Tryz.prog 290 (.pointer 222) := ⟨Tryz.underlying290⟩
instance : Inf Tryz.prog 290 (.pointer none) 1 8 := .k
instance : Und Tryz.prog 292 (.pointer 220) := ⟨Tryz.underlying292⟩
instance : Inf Tryz.prog 292 (.pointer none) 1 8 := .k
instance : Und Tryz.prog 297 (.array 64 5) := ⟨Tryz.underlying297⟩
instance : Inf Tryz.prog 297 (.agg (List.replicate 64 (.int .u8 0)).toArray) 64 64 := .k
instance : Und Tryz.prog 298 (.array 64 5) := ⟨Tryz.underlying298⟩
instance : Inf Tryz.prog 298 (.agg (List.replicate 64 (.int .u8 0)).toArray) 64 64 := .k
instance : Agg Tryz.prog 300 := .k Tryz.underlying300
instance : Inf Tryz.prog 300 (.agg ((.int .i64 0) :: (List.replicate 64 (.int .u8 0))).toArray) 65 72 := .k
instance : Str Tryz.prog 300 [(0, 1), (1, 64)] := .k Tryz.underlying300
instance : Fld Tryz.prog 300 0 0 3 1 := .k Tryz.underlying300
instance : Fld Tryz.prog 300 1 1 298 64 := .k Tryz.underlying300
instance : Und Tryz.prog 304 (.pointer 308) := ⟨Tryz.underlying304⟩
instance : Inf Tryz.prog 304 (.pointer none) 1 8 := .k
instance : Und Tryz.prog 305 (.array 8 220) := ⟨Tryz.underlying305⟩
instance : Inf Tryz.prog 305 (.agg #[(.int .u32 0), (.int .u32 0), (.int .u32 0), (.int .u32 0), (.int .u32 0), (.int .u32 0), (.int .u32 0), (.int .u32 0)]) 8 32 := .k
instance : Und Tryz.prog 306 (.array 8 220) := ⟨Tryz.underlying306⟩
instance : Inf Tryz.prog 306 (.agg #[(.int .u32 0), (.int .u32 0), (.int .u32 0), (.int .u32 0), (.int .u32 0), (.int .u32 0), (.int .u32 0), (.int .u32 0)]) 8 32 := .k
instance : Agg Tryz.prog 308 := .k Tryz.underlying308
instance : Inf Tryz.prog 308 (.agg ((.int .u32 0) :: (.int .u32 0) :: (.int .u32 0) :: (.int .u32 0) :: (.int .u32 0) :: (.int .u32 0) :: (.int .u32 0) :: (.int .u32 0) :: (List.replicate 64 (.int .u8 0) ++ ([(.int .i64 0)]))).toArray) 73 104 := .k
instance : Str Tryz.prog 308 [(0, 8), (8, 64), (72, 1)] := .k Tryz.underlying308
instance : Fld Tryz.prog 308 0 0 306 8 := .k Tryz.underlying308
instance : Fld Tryz.prog 308 1 8 297 64 := .k Tryz.underlying308
instance : Fld Tryz.prog 308 2 72 3 1 := .k Tryz.underlying308
instance : Und Tryz.prog 309 (.array 4 5) := ⟨Tryz.underlying309⟩
instance : Inf Tryz.prog 309 (.agg #[(.int .u8 0), (.int .u8 0), (.int .u8 0), (.int .u8 0)]) 4 4 := .k
instance : Und Tryz.prog 324 (.pointer 226) := ⟨Tryz.underlying324⟩
instance : Inf Tryz.prog 324 (.pointer none) 1 8 := .k
instance : Und Tryz.prog 329 (.array 24 5) := ⟨Tryz.underlying329⟩
instance : Inf Tryz.prog 329 (.agg (List.replicate 24 (.int .u8 0)).toArray) 24 24 := .k
instance : Und Tryz.prog 334 (.pointer 215) := ⟨Tryz.underlying334⟩
instance : Inf Tryz.prog 334 (.pointer none) 1 8 := .k
instance : Und Tryz.prog 336 (.int .i64) := ⟨Tryz.underlying336⟩
instance : Inf Tryz.prog 336 (.int .i64 0) 1 8 := .k
instance : Und Tryz.prog 343 (.int .i64) := ⟨Tryz.underlying343⟩
instance : Inf Tryz.prog 343 (.int .i64 0) 1 8 := .k
instance : Und Tryz.prog 346 (.pointer 377) := ⟨Tryz.underlying346⟩
instance : Inf Tryz.prog 346 (.pointer none) 1 8 := .k
instance : Und Tryz.prog 349 (.pointer 224) := ⟨Tryz.underlying349⟩
instance : Inf Tryz.prog 349 (.pointer none) 1 8 := .k
instance : Und Tryz.prog 351 (.pointer 21) := ⟨Tryz.underlying351⟩
instance : Inf Tryz.prog 351 (.pointer none) 1 8 := .k
instance : Und Tryz.prog 357 (.pointer 306) := ⟨Tryz.underlying357⟩
instance : Inf Tryz.prog 357 (.pointer none) 1 8 := .k
instance : Und Tryz.prog 359 (.array 20 278) := ⟨Tryz.underlying359⟩
instance : Inf Tryz.prog 359 (.agg (List.replicate 20 (.int .u64 0)).toArray) 20 160 := .k
instance : Und Tryz.prog 361 (.int .u64) := ⟨Tryz.underlying361⟩
instance : Inf Tryz.prog 361 (.int .u64 0) 1 8 := .k
instance : Und Tryz.prog 365 (.pointer 3) := ⟨Tryz.underlying365⟩
instance : Inf Tryz.prog 365 (.pointer none) 1 8 := .k
instance : Agg Tryz.prog 368 := .k Tryz.underlying368
instance : Inf Tryz.prog 368 (.agg #[(.int .u8 0), (.int .u8 0)]) 2 2 := .k
instance : Str Tryz.prog 368 [(0, 1), (1, 1)] := .k Tryz.underlying368
instance : Agg Tryz.prog 369 := .k Tryz.underlying369
instance : Inf Tryz.prog 369 (.agg #[(.int .u8 0), (.int .u8 0)]) 2 2 := .k
instance : Str Tryz.prog 369 [(0, 1), (1, 1)] := .k Tryz.underlying369
instance : Und Tryz.prog 370 (.array 16 369) := ⟨Tryz.underlying370⟩
instance : Inf Tryz.prog 370 (.agg (List.replicate 32 (.int .u8 0)).toArray) 32 32 := .k
instance : Agg Tryz.prog 376 := .k Tryz.underlying376
instance : Inf Tryz.prog 376 (.agg #[(.string ⟨#[]⟩), (.string ⟨#[]⟩), .nilIface]) 3 48 := .k
instance : Str Tryz.prog 376 [(0, 1), (1, 1), (2, 1)] := .k Tryz.underlying376
instance : Agg Tryz.prog 377 := .k Tryz.underlying377
instance : Inf Tryz.prog 377 (.agg #[(.string ⟨#[]⟩), (.string ⟨#[]⟩), .nilIface]) 3 48 := .k
instance : Str Tryz.prog 377 [(0, 1), (1, 1), (2, 1)] := .k Tryz.underlying377
instance : Und Tryz.prog 381 (.array 64 220) := ⟨Tryz.underlying381⟩
instance : Inf Tryz.prog 381 (.agg (List.replicate 64 (.int .u32 0)).toArray) 64 256 := .k
instance : Und Tryz.prog 385 (.pointer 361) := ⟨Tryz.underlying385⟩
instance : Inf Tryz.prog 385 (.pointer none) 1 8 := .k
instance : Und Tryz.prog 389 (.pointer 5) := ⟨Tryz.underlying389⟩
instance : Inf Tryz.prog 389 (.pointer none) 1 8 := .k
instance : Und Tryz.prog 390 (.pointer 392) := ⟨Tryz.underlying390⟩
instance : Inf Tryz.prog 390 (.pointer none) 1 8 := .k
instance : Agg Tryz.prog 391 := .k Tryz.underlying391
instance : Inf Tryz.prog 391 (.agg #[(.string ⟨#[]⟩)]) 1 16 := .k
instance : Str Tryz.prog 391 [(0, 1)] := .k Tryz.underlying391
instance : Agg Tryz.prog 392 := .k Tryz.underlying392
instance : Inf Tryz.prog 392 (.agg #[(.string ⟨#[]⟩)]) 1 16 := .k
instance : Str Tryz.prog 392 [(0, 1)] := .k Tryz.underlying392
instance : Agg Tryz.prog 394 := .k Tryz.underlying394
instance : Inf Tryz.prog 394 (.agg #[(.pointer none), (.pointer none), (.pointer none), (.string ⟨#[]⟩)]) 4 40 := .k
instance : Str Tryz.prog 394 [(0, 1), (1, 1), (2, 1), (3, 1)] := .k Tryz.underlying394
instance : Agg Tryz.prog 395 := .k Tryz.underlying395
instance : Inf Tryz.prog 395 (.agg #[(.pointer none), (.pointer none), (.pointer none), (.string ⟨#[]⟩)]) 4 40 := .k
instance : Str Tryz.prog 395 [(0, 1), (1, 1), (2, 1), (3, 1)] := .k Tryz.underlying395
instance : Und Tryz.prog 396 (.array 0 16) := ⟨Tryz.underlying396⟩
instance : Inf Tryz.prog 396 (.agg #[]) 0 0 := .k
instance : Agg Tryz.prog 397 := .k Tryz.underlying397
instance : Inf Tryz.prog 397 (.agg #[]) 0 0 := .k
instance : Str Tryz.prog 397 [(0, 0)] := .k Tryz.underlying397
instance : Agg Tryz.prog 398 := .k Tryz.underlying398
instance : Inf Tryz.prog 398 (.agg #[]) 0 0 := .k
instance : Str Tryz.prog 398 [(0, 0)] := .k Tryz.underlying398
instance : Und Tryz.prog 399 (.int .u8) := ⟨Tryz.underlying399⟩
instance : Inf Tryz.prog 399 (.int .u8 0) 1 1 := .k
instance : Und Tryz.prog 400 (.int .u8) := ⟨Tryz.underlying400⟩
instance : Inf Tryz.prog 400 (.int .u8 0) 1 1 := .k
instance : Und Tryz.prog 402 (.int .i32) := ⟨Tryz.underlying402⟩
instance : Inf Tryz.prog 402 (.int .i32 0) 1 4 := .k
instance : Und Tryz.prog 403 (.int .i32) := ⟨Tryz.underlying403⟩
instance : Inf Tryz.prog 403 (.int .i32 0) 1 4 := .k
instance : Agg Tryz.prog 404 := .k Tryz.underlying404
instance : Inf Tryz.prog 404 (.agg #[(.int .u64 0), (.int .u64 0), (.int .u32 0), (.int .u8 0), (.int .u8 0), (.int .u8 0), (.int .u8 0), .nilFunc, (.pointer none), (.int .i32 0), (.int .i32 0)]) 11 48 := .k
instance : Str Tryz.prog 404 [(0, 1), (1, 1), (2, 1), (3, 1), (4, 1), (5, 1), (6, 1), (7, 1), (8, 1), (9, 1), (10, 1)] := .k Tryz.underlying404
instance : Agg Tryz.prog 405 := .k Tryz.underlying405
instance : Inf Tryz.prog 405 (.agg #[(.int .u64 0), (.int .u64 0), (.int .u32 0), (.int .u8 0), (.int .u8 0), (.int .u8 0), (.int .u8 0), .nilFunc, (.pointer none), (.int .i32 0), (.int .i32 0)]) 11 48 := .k
instance : Str Tryz.prog 405 [(0, 1), (1, 1), (2, 1), (3, 1), (4, 1), (5, 1), (6, 1), (7, 1), (8, 1), (9, 1), (10, 1)] := .k Tryz.underlying405
instance : Agg Tryz.prog 407 := .k Tryz.underlying407
instance : Inf Tryz.prog 407 (.agg #[(.slice none 0 0), (.int .i64 0), (.int .i64 0), (.int .i64 0), (.int .i64 0), (.slice none 0 0), (.int .i64 0)]) 7 88 := .k
instance : Str Tryz.prog 407 [(0, 1), (1, 4), (5, 1), (6, 1)] := .k Tryz.underlying407
instance : Agg Tryz.prog 408 := .k Tryz.underlying408
instance : Inf Tryz.prog 408 (.agg #[(.slice none 0 0), (.int .i64 0), (.int .i64 0), (.int .i64 0), (.int .i64 0), (.slice none 0 0), (.int .i64 0)]) 7 88 := .k
instance : Str Tryz.prog 408 [(0, 1), (1, 4), (5, 1), (6, 1)] := .k Tryz.underlying408
instance : Fun Tryz.prog 5 := .k Tryz.func5
instance : Fun Tryz.prog 6 := .k Tryz.func6
instance : Fun Tryz.prog 7 := .k Tryz.func7
instance : Fun Tryz.prog 8 := .k Tryz.func8
instance : Fun Tryz.prog 9 := .k Tryz.func9
instance : Fun Tryz.prog 10 := .k Tryz.func10
instance : Fun Tryz.prog 11 := .k Tryz.func11
instance : Fun Tryz.prog 12 := .k Tryz.func12
instance : Fun Tryz.prog 13 := .k Tryz.func13
instance : Fun Tryz.prog 14 := .k Tryz.func14
instance : Fun Tryz.prog 16 := .k Tryz.func16
instance : Fun Tryz.prog 17 := .k Tryz.func17
instance : Fun Tryz.prog 18 := .k Tryz.func18
instance : Fun Tryz.prog 19 := .k Tryz.func19
instance : Fun Tryz.prog 20 := .k Tryz.func20
instance : Fun Tryz.prog 21 := .k Tryz.func21
instance : Fun Tryz.prog 23 := .k Tryz.func23
instance : Fun Tryz.prog 30 := .k Tryz.func30
instance : Fun Tryz.prog 31 := .k Tryz.func31
instance : Fun Tryz.prog 32 := .k Tryz.func32
instance : Fun Tryz.prog 34 := .k Tryz.func34
instance : Fun Tryz.prog 35 := .k Tryz.func35
instance : Fun Tryz.prog 36 := .k Tryz.func36
instance : Fun Tryz.prog 37 := .k Tryz.func37
instance : Fun Tryz.prog 38 := .k Tryz.func38
instance : Fun Tryz.prog 39 := .k Tryz.func39
instance : Fun Tryz.prog 41 := .k Tryz.func41
instance : Fun Tryz.prog 42 := .k Tryz.func42
instance : Fun Tryz.prog 43 := .k Tryz.func43
instance : Fun Tryz.prog 44 := .k Tryz.func44
instance : Fun Tryz.prog 45 := .k Tryz.func45
instance : Fun Tryz.prog 46 := .k Tryz.func46
instance : Fun Tryz.prog 47 := .k Tryz.func47
instance : Fun Tryz.prog 48 := .k Tryz.func48
instance : Fun Tryz.prog 49 := .k Tryz.func49
instance : Fun Tryz.prog 50 := .k Tryz.func50
instance : Fun Tryz.prog 51 := .k Tryz.func51
instance : Fun Tryz.prog 52 := .k Tryz.func52
instance : Fun Tryz.prog 53 := .k Tryz.func53
instance : Fun Tryz.prog 54 := .k Tryz.func54
instance : Fun Tryz.prog 55 := .k Tryz.func55
instance : Fun Tryz.prog 57 := .k Tryz.func57
instance : Fun Tryz.prog 58 := .k Tryz.func58
instance : Fun Tryz.prog 59 := .k Tryz.func59
instance : Fun Tryz.prog 60 := .k Tryz.func60
instance : Fun Tryz.prog 61 := .k Tryz.func61
instance : Fun Tryz.prog 62 := .k Tryz.func62
instance : Fun Tryz.prog 63 := .k Tryz.func63
instance : Fun Tryz.prog 64 := .k Tryz.func64
instance : Fun Tryz.prog 70 := .k Tryz.func70
instance : Fun Tryz.prog 74 := .k Tryz.func74
instance : Fun Tryz.prog 75 := .k Tryz.func75
instance : Fun Tryz.prog 76 := .k Tryz.func76
instance : Fun Tryz.prog 77 := .k Tryz.func77
instance : Fun Tryz.prog 78 := .k Tryz.func78
instance : Fun Tryz.prog 79 := .k Tryz.func79
instance : Fun Tryz.prog 80 := .k Tryz.func80
instance : Fun Tryz.prog 81 := .k Tryz.func81
instance : Fun Tryz.prog 82 := .k Tryz.func82
instance : Fun Tryz.prog 83 := .k Tryz.func83
instance : Fun Tryz.prog 84 := .k Tryz.func84
instance : Fun Tryz.prog 85 := .k Tryz.func85
instance : Fun Tryz.prog 87 := .k Tryz.func87
instance : Fun Tryz.prog 88 := .k Tryz.func88
instance : Fun Tryz.prog 89 := .k Tryz.func89
instance : Fun Tryz.prog 90 := .k Tryz.func90
instance : Fun Tryz.prog 91 := .k Tryz.func91
instance : Fun Tryz.prog 92 := .k Tryz.func92
instance : Fun Tryz.prog 93 := .k Tryz.func93
instance : Fun Tryz.prog 94 := .k Tryz.func94
instance : Fun Tryz.prog 95 := .k Tryz.func95
instance : Fun Tryz.prog 96 := .k Tryz.func96
instance : Fun Tryz.prog 97 := .k Tryz.func97
instance : Fun Tryz.prog 98 := .k Tryz.func98
instance : Fun Tryz.prog 99 := .k Tryz.func99
instance : Fun Tryz.prog 100 := .k Tryz.func100
instance : Fun Tryz.prog 101 := .k Tryz.func101
instance : Fun Tryz.prog 102 := .k Tryz.func102
instance : Fun Tryz.prog 103 := .k Tryz.func103
instance : Fun Tryz.prog 104 := .k Tryz.func104
instance : Fun Tryz.prog 105 := .k Tryz.func105
instance : Fun Tryz.prog 106 := .k Tryz.func106
instance : Fun Tryz.prog 107 := .k Tryz.func107
instance : Fun Tryz.prog 108 := .k Tryz.func108
instance : ELoad Tryz.prog 109 .i64 := ⟨fun hc => run_call_load Tryz.func109 (by kernel_rfl) (by kernel_rfl) (by kernel_rfl) .i64 (by kernel_rfl) hc⟩
instance : Fun Tryz.prog 110 := .k Tryz.func110
instance : Fun Tryz.prog 111 := .k Tryz.func111
instance : Fun Tryz.prog 112 := .k Tryz.func112
instance : Fun Tryz.prog 113 := .k Tryz.func113
instance : Fun Tryz.prog 114 := .k Tryz.func114
instance : Fun Tryz.prog 115 := .k Tryz.func115
instance : Fun Tryz.prog 116 := .k Tryz.func116
instance : Fun Tryz.prog 117 := .k Tryz.func117
instance : EAdd Tryz.prog 121 .i64 := ⟨fun hc hz hs => run_call_add Tryz.func121 (by kernel_rfl) (by kernel_rfl) (by kernel_rfl) .i64 (by kernel_rfl) hc hz hs⟩
instance : Fun Tryz.prog 122 := .k Tryz.func122
instance : Fun Tryz.prog 123 := .k Tryz.func123
instance : Fun Tryz.prog 124 := .k Tryz.func124
instance : Fun Tryz.prog 125 := .k Tryz.func125
instance : Fun Tryz.prog 126 := .k Tryz.func126
instance : Fun Tryz.prog 127 := .k Tryz.func127
instance : Fun Tryz.prog 128 := .k Tryz.func128
instance : Fun Tryz.prog 129 := .k Tryz.func129
instance : Fun Tryz.prog 130 := .k Tryz.func130
instance : Fun Tryz.prog 131 := .k Tryz.func131
instance : Fun Tryz.prog 132 := .k Tryz.func132
instance : Fun Tryz.prog 133 := .k Tryz.func133
instance : Fun Tryz.prog 135 := .k Tryz.func135
instance : Fun Tryz.prog 136 := .k Tryz.func136
instance : Fun Tryz.prog 138 := .k Tryz.func138
instance : Fun Tryz.prog 139 := .k Tryz.func139
instance : Fun Tryz.prog 140 := .k Tryz.func140
instance : Fun Tryz.prog 141 := .k Tryz.func141
instance : Fun Tryz.prog 142 := .k Tryz.func142
instance : Fun Tryz.prog 143 := .k Tryz.func143
instance : Fun Tryz.prog 144 := .k Tryz.func144
instance : Fun Tryz.prog 145 := .k Tryz.func145
instance : Fun Tryz.prog 146 := .k Tryz.func146
instance : Fun Tryz.prog 147 := .k Tryz.func147
instance : Fun Tryz.prog 148 := .k Tryz.func148
instance : Fun Tryz.prog 149 := .k Tryz.func149
instance : Fun Tryz.prog 150 := .k Tryz.func150
instance : Fun Tryz.prog 151 := .k Tryz.func151
instance : Fun Tryz.prog 152 := .k Tryz.func152
instance : Fun Tryz.prog 153 := .k Tryz.func153
instance : Fun Tryz.prog 154 := .k Tryz.func154
instance : Fun Tryz.prog 155 := .k Tryz.func155
instance : Fun Tryz.prog 156 := .k Tryz.func156
instance : Fun Tryz.prog 159 := .k Tryz.func159
instance : Fun Tryz.prog 161 := .k Tryz.func161
instance : Fun Tryz.prog 162 := .k Tryz.func162
instance : Fun Tryz.prog 163 := .k Tryz.func163
instance : Fun Tryz.prog 164 := .k Tryz.func164
instance : Fun Tryz.prog 165 := .k Tryz.func165
instance : Fun Tryz.prog 166 := .k Tryz.func166
instance : Fun Tryz.prog 167 := .k Tryz.func167
instance : Fun Tryz.prog 168 := .k Tryz.func168
instance : Fun Tryz.prog 169 := .k Tryz.func169
instance : Fun Tryz.prog 170 := .k Tryz.func170
instance : Fun Tryz.prog 171 := .k Tryz.func171
instance : Fun Tryz.prog 172 := .k Tryz.func172
instance : Fun Tryz.prog 173 := .k Tryz.func173
instance : Fun Tryz.prog 174 := .k Tryz.func174
instance : Fun Tryz.prog 175 := .k Tryz.func175
instance : Fun Tryz.prog 176 := .k Tryz.func176
instance : Fun Tryz.prog 177 := .k Tryz.func177
instance : Fun Tryz.prog 178 := .k Tryz.func178
instance : Fun Tryz.prog 179 := .k Tryz.func179
instance : Fun Tryz.prog 180 := .k Tryz.func180
instance : Fun Tryz.prog 181 := .k Tryz.func181
instance : Fun Tryz.prog 182 := .k Tryz.func182
instance : Fun Tryz.prog 183 := .k Tryz.func183
instance : Fun Tryz.prog 184 := .k Tryz.func184
instance : Fun Tryz.prog 186 := .k Tryz.func186
instance : Fun Tryz.prog 187 := .k Tryz.func187
instance : Fun Tryz.prog 190 := .k Tryz.func190
instance : Fun Tryz.prog 191 := .k Tryz.func191
instance : ELoad Tryz.prog 192 .u32 := ⟨fun hc => run_call_load Tryz.func192 (by kernel_rfl) (by kernel_rfl) (by kernel_rfl) .u32 (by kernel_rfl) hc⟩
instance : Fun Tryz.prog 193 := .k Tryz.func193
instance : Fun Tryz.prog 194 := .k Tryz.func194
instance : Fun Tryz.prog 195 := .k Tryz.func195
instance : Fun Tryz.prog 196 := .k Tryz.func196
instance : Fun Tryz.prog 197 := .k Tryz.func197
instance : Fun Tryz.prog 198 := .k Tryz.func198
instance : Fun Tryz.prog 199 := .k Tryz.func199
instance : Fun Tryz.prog 200 := .k Tryz.func200
instance : Fun Tryz.prog 201 := .k Tryz.func201
instance : Fun Tryz.prog 202 := .k Tryz.func202
instance : Fun Tryz.prog 203 := .k Tryz.func203
instance : Fun Tryz.prog 204 := .k Tryz.func204
instance : Fun Tryz.prog 205 := .k Tryz.func205
instance : Fun Tryz.prog 206 := .k Tryz.func206
instance : Fun Tryz.prog 207 := .k Tryz.func207
instance : Fun Tryz.prog 208 := .k Tryz.func208
instance : Fun Tryz.prog 214 := .k Tryz.func214
instance : Fun Tryz.prog 216 := .k Tryz.func216
instance : Fun Tryz.prog 218 := .k Tryz.func218
instance : Fun Tryz.prog 219 := .k Tryz.func219
instance : EStore Tryz.prog 220 := ⟨fun hc hz => run_call_store Tryz.func220 (by kernel_rfl) (by kernel_rfl) (by kernel_rfl) (by kernel_rfl) hc hz⟩
instance : Fun Tryz.prog 221 := .k Tryz.func221
instance : Fun Tryz.prog 222 := .k Tryz.func222
instance : Fun Tryz.prog 223 := .k Tryz.func223
instance : Fun Tryz.prog 224 := .k Tryz.func224
instance : Fun Tryz.prog 225 := .k Tryz.func225
instance : Fun Tryz.prog 226 := .k Tryz.func226
instance : Fun Tryz.prog 243 := .k Tryz.func243
instance : EMark0 Tryz.prog 252 := ⟨fun w => run_call_mark0 Tryz.func252 (by kernel_rfl) (by kernel_rfl) (by kernel_rfl) .disable (by kernel_rfl) w⟩
instance : ECas Tryz.prog 253 .i32 := ⟨fun hc hz => run_call_cas_hit Tryz.func253 (by kernel_rfl) (by kernel_rfl) (by kernel_rfl) .i32 (by kernel_rfl) hc hz⟩
instance : EMark0 Tryz.prog 254 := ⟨fun w => run_call_mark0 Tryz.func254 (by kernel_rfl) (by kernel_rfl) (by kernel_rfl) .enable (by kernel_rfl) w⟩
instance : EMark Tryz.prog 255 := ⟨fun a w => run_call_marked Tryz.func255 (by kernel_rfl) (by kernel_rfl) (by kernel_rfl) .acquire (by kernel_rfl) a w⟩
instance : EMark Tryz.prog 257 := ⟨fun a w => run_call_marked Tryz.func257 (by kernel_rfl) (by kernel_rfl) (by kernel_rfl) .releaseMerge (by kernel_rfl) a w⟩
instance : EAdd Tryz.prog 258 .i32 := ⟨fun hc hz hs => run_call_add Tryz.func258 (by kernel_rfl) (by kernel_rfl) (by kernel_rfl) .i32 (by kernel_rfl) hc hz hs⟩
instance : Fun Tryz.prog 260 := .k Tryz.func260
instance : Fun Tryz.prog 283 := .k Tryz.func283
instance : Fun Tryz.prog 284 := .k Tryz.func284
instance : Fun Tryz.prog 285 := .k Tryz.func285
theorem mixed : Tryz.prog.follows .mixedOrders = true := by kernel_rfl
end Cr
namespace Cr
open Go

theorem setBlock_put {w : World} {b : Nat} {o o' : Obj} (h : w.heap[b]? = some o) : SetBlock w { w with heap := w.heap.setIfInBounds b o' } b o' := by
 have hlt := lt_of_get h
 refine ⟨by simp, ?_, fun k hk => ?_, rfl, rfl, rfl⟩
 ·simp [hlt]
 ·simp [Ne.symm hk]

section
variable {P : Program} {Q : Exit → Act → World → Prop} {N : Nat} {ds : Md} {σ : Env} {w : World}
theorem Yl_makeFunc {o : Oper} {fn : Fn} {xs ys : List Operand} {first captured : List Value} (ho : o.op = .makeFunc fn xs.toArray ys.toArray) (hx : evs σ xs = some first) (hy : evs σ ys = some captured) : Yl P o σ w (.func fn first.toArray captured.toArray) := ⟨fun N ds a ha => by
 simp [execOp, ho, Instr.makeFunc, ha.evals hx, ha.evals hy]⟩
theorem run_load1 {t : TypeId} {ad : Addr} {v : Value} [h : One P t] (hc : w.cell? ad = some v) : (loadVar t ad).run P w = .ok v w := by
 simp [loadVar, h.one, load, Sem.run, hc]
theorem run_loadN {t : TypeId} {a : Addr} {cs : List Value} {n : Nat} [h : Agg P t] [hs : Siz P t n] (hc : CellsN w a n cs) : (loadVar t a).run P w = .ok (.agg cs.toArray) w := by
 obtain ⟨hc, rfl⟩ := hc
 exact run_loadAgg hc
theorem E_code2 {Q : Exit → Act → World → Prop} {y : Code} {ds' : Md} (hF : Fc ds' = Fc ds) (h : C P y Q N ds σ w) : E (Exit.then (y.wpIn (Fc ds') 0 P Q) Q) .normal N ds σ w := ⟨fun a ha => by rw [hF]; exact h.run a ha⟩
def recd (fn : FuncId) (tm : Array Value) (ps : Array Tmp) (assign body : Code) (r : Nat) (st : LoopState) (jump : Option Code) : Loop :=
 { state := st, pending := jump, fn, tmps := tm, params := ps, assign, body, defers := r }
def mark (r : Nat) : Deferred := { target := .collected r, args := #[] }
theorem G_yield {ops : Array Oper} {rest : List Oper} {o : Oper} {f : Operand} {xs : List Operand} {vs : List Value} {ts : Array TypeId} {l d : Nat} {r : Loop} {R : Value → World → Prop} (hgd : o.guard = none) (ho : o.op = .call { callee := .value f, args := xs.toArray, argTypes := ts }) (hf : ev σ f = some (.func (.yield l) #[] #[])) (hv : evs σ xs = some vs)
  (hd : o.dst = some d) (hN : Nat.blt d N = true) (hl : w.heap[l]? = some (.loop r)) (hsz : vs.length = r.params.size)
  (hr : RoundIn Fence.wide 0 P l r.fn ((r.params.zip vs.toArray).foldl (fun tmps (t, a) => tmps.setIfInBounds t a) r.tmps) r.assign r.body w (Ret R)) (h : ∀ v w', R v w' → G P ops Q rest N ds ((d, v) :: σ) w') : G P ops Q (o :: rest) N ds σ w := ⟨fun a ha =>
 wpListIn_plain hgd fun K hK => by
  have hsem : o.semAt (Fc ds).round a.eval = execOp a.eval o := Oper.semAt_eq _ _ _ fun c hc => by rw [ho] at hc; cases hc
  refine ⟨fun _ _ => trivial, ?_⟩
  rw [hsem]
  have hexec : (execOp a.eval o).run P w = .ok (.round l r.fn ((r.params.zip vs.toArray).foldl (fun tmps (t, a) => tmps.setIfInBounds t a) r.tmps) r.assign r.body) w := by
   simp [execOp, ho, resolve, ha.eval hf, Deferred.ofValue, invoke, ha.evals hv, Instr.yield, Instr.getLoop, getObj, Sem.run, hl, hsz]
  rw [hexec]
  refine ⟨Fc_depth ds, ?_⟩
  obtain ⟨hF, hr⟩ := hr
  refine ⟨trivial, fun c cs hroom => ?_⟩
  obtain ⟨e, w', hR, hs⟩ := hr c cs (fun _ h => by simp [Fence.wide] at h)
  obtain ⟨v, rfl, hR⟩ := hR
  refine ⟨.returned v, w', ?_, hs⟩
  have := (h v w' hR).run _ (ha.put (lt_of_blt hN) v)
  rw [← hd] at this
  exact hK _ _ this⟩
theorem Fr.round {tm : Array Value} (hsz : tm.size = N) (h : ∀ n v, look σ n = some v → tm[n]? = some v) (l : Nat) : Fr σ N ⟨[], some l⟩ { tmps := tm, defers := [] } := ⟨hsz, rfl, h⟩
def QA (P : Program) (l : Nat) (body : Code) (R : Ending → World → Prop) : Exit → Act → World → Prop :=
 Exit.then (fun a1 w1 => ∃ w2, (Instr.beginRound l).run P w1 = .ok () w2 ∧ body.wpIn (Fc ⟨[], some l⟩) 0 P (roundPost P l R) a1 w2) (fun _ _ _ => False)
theorem round_C {l : Nat} {f : FuncId} {tm : Array Value} {assign body : Code} {R : Ending → World → Prop} (hF : Fr σ N ⟨[], some l⟩ { tmps := tm, defers := [] }) (h : C P assign (QA P l body R) N ⟨[], some l⟩ σ w) :
  RoundIn Fence.wide 0 P l f tm assign body w R := roundIn_of_wpIn (F := Fence.wide) trivial (h.run _ hF)
theorem C_eq {A A' : Code} {Q : Exit → Act → World → Prop} (e : A = A') (h : C P A' Q N ds σ w) : C P A Q N ds σ w := e ▸ h
theorem E_begin {l : Nat} {fn : FuncId} {tm : Array Value} {ps : Array Tmp} {A B : Code} {rr : Nat} {j : Option Code} {body : Code} {R : Ending → World → Prop} (hl : w.heap[l]? = some (.loop (recd fn tm ps A B rr .ready j))) (h : ∀ w2, SetBlock w w2 l (.loop (recd fn tm ps A B rr .busy j)) → C P body (roundPost P l R) N ⟨[], some l⟩ σ w2) :
  E (QA P l body R) .normal N ⟨[], some l⟩ σ w := ⟨fun a ha => ⟨{ w with heap := w.heap.setIfInBounds l (.loop (recd fn tm ps A B rr .busy j)) }, by
 simp [Instr.beginRound, Instr.getLoop, getObj, setObj, Sem.run, hl, recd], (h _ (setBlock_put hl)).run a ha⟩⟩
theorem run_endRound {l : Nat} {fn : FuncId} {tm : Array Value} {ps : Array Tmp} {A B : Code} {rr : Nat} {st : LoopState} {j0 : Option Code} {j : Option Code} (hl : w.heap[l]? = some (.loop (recd fn tm ps A B rr st j0))) :
  (Instr.endRound l j).run P w = .ok (.bool j.isNone) { w with heap := w.heap.setIfInBounds l (.loop (recd fn tm ps A B rr (if j.isNone then .ready else .done) j)) } := by
 simp [Instr.endRound, Instr.getLoop, getObj, setObj, Sem.run, hl, recd]
theorem E_round_n {l : Nat} {fn : FuncId} {tm : Array Value} {ps : Array Tmp} {A B : Code} {rr : Nat} {st : LoopState} {j0 : Option Code} {R : Ending → World → Prop} {m : Md} (hl : w.heap[l]? = some (.loop (recd fn tm ps A B rr st j0))) (h : ∀ w', SetBlock w w' l (.loop (recd fn tm ps A B rr .ready none)) → R (.returned (.bool true)) w') : E (roundPost P l R) .normal N m σ w :=
 ⟨fun _ _ => ⟨_, _, run_endRound (j := none) hl, h _ (setBlock_put hl)⟩⟩
theorem E_round_ret {l : Nat} {fn : FuncId} {tm : Array Value} {ps : Array Tmp} {A B : Code} {rr : Nat} {st : LoopState} {j0 : Option Code} {R : Ending → World → Prop} {m : Md} (hl : w.heap[l]? = some (.loop (recd fn tm ps A B rr st j0))) (h : ∀ w', SetBlock w w' l (.loop (recd fn tm ps A B rr .done (some .ret))) → R (.returned (.bool false)) w') : E (roundPost P l R) .ret N m σ w :=
 ⟨fun _ _ => ⟨_, _, run_endRound (j := some .ret) hl, h _ (setBlock_put hl)⟩⟩
theorem C_rangeFunc {W : World} {F : Nat → Prop} {rs : List Res} {g : Operand} {ps : Array Tmp} {assign body : Code} {gid : FuncId} {first captured : List Value} (J : Nat → Nat → Option Code → World → Prop)
  (hro : ds.ro = none) (hg : ev σ g = some (.func (.func gid) first.toArray captured.toArray)) [hfun : Fun P gid] (hS : St W F rs w)
  (hcall : ∀ A B, A = assign → B = body → ∀ fn tm l r w1, tm.size = N → (∀ n v, look σ n = some v → tm[n]? = some v) → St W F (pts l (.loop (recd fn tm ps A B r .ready none)) :: pts r (.deferred (some [])) :: rs) w1 →
   CallsIn Fence.wide 0 P gid (first ++ (.func (.yield l) #[] #[] :: captured)).toArray w1 (Ret fun _ w3 => ∃ st jump, st ≠ .busy ∧ w3.heap[l]? = some (.loop (recd fn tm ps A B r st jump)) ∧
    ∀ w4, SetBlock w3 w4 l (.loop (recd fn tm ps A B r .exhausted jump)) → J l r jump w4))
  (hnone : ∀ l r w4, J l r none w4 → E Q .normal N ⟨mark r :: ds.ds, none⟩ σ w4)
  (hsome : ∀ l r c w4, J l r (some c) w4 → C P c Q N ⟨mark r :: ds.ds, none⟩ σ w4) : C P (.rangeFunc g ps assign body) Q N ds σ w := ⟨fun a ha => by
 rw [Fc_none hro]
 refine wpIn_rangeFunc fun fn _ => ?_
 have s1 := hS.alloc (.deferred (some []))
 have s2 := s1.alloc (.loop (recd fn a.tmps ps assign body w.heap.size .ready none))
 simp only [World.size_alloc] at s2
 obtain ⟨w1, hw1⟩ : ∃ w1, w1 = (w.alloc (.deferred (some []))).alloc (.loop (recd fn a.tmps ps assign body w.heap.size .ready none)) := ⟨_, rfl⟩
 rw [← hw1] at s2
 refine ⟨w.heap.size + 1, [mark w.heap.size], w1, { target := .fn (.func gid) captured.toArray, args := first.toArray ++ #[.func (.yield (w.heap.size + 1)) #[] #[]] }, w1, gid,
  (first ++ (.func (.yield (w.heap.size + 1)) #[] #[] :: captured)).toArray, w1, ?_, ?_, fun _ _ => trivial, ?_, fun h => by simp [Fence.wide] at h, ?_⟩
 ·rw [hw1]
  simp [Instr.enterLoop, Fence.wide, recd, mark, newObj, Sem.run]
 ·simp only [resolve, ha.eval hg, List.map_toArray, List.map_cons, List.map_nil]
  rfl
 ·have := hfun.run (first ++ (.func (.yield (w.heap.size + 1)) #[] #[] :: captured)).toArray w1
  simp only [invoke]
  simpa using this
 ·obtain ⟨_, hc⟩ := hcall _ _ rfl rfl fn a.tmps (w.heap.size + 1) w.heap.size _ ha.size ha.at_ s2
  refine ⟨trivial, fun cs hr => ?_⟩
  obtain ⟨e, w3, fr, ⟨v, he, st, jump, hst, hl, hJ⟩, hs, hfn, hlv⟩ := hc cs hr
  subst he
  refine ⟨.returned v, w3, fr, ⟨jump, { w3 with heap := w3.heap.setIfInBounds (w.heap.size + 1) (.loop (recd fn a.tmps ps assign body w.heap.size .exhausted jump)) }, ?_, ?_⟩, hs, hfn, hlv⟩
  ·simp [Instr.endLoop, Instr.getLoop, getObj, setObj, Sem.run, hl, recd, hst]
  ·have hJ' := hJ _ (setBlock_put hl)
   have ha' : Fr σ N ⟨mark w.heap.size :: ds.ds, none⟩ { a with defers := [mark w.heap.size] ++ a.defers } := ⟨ha.size, by simp [ha.defers], ha.at_⟩
   cases jump with
   | none => exact (hnone _ _ _ hJ').run _ ha'
   | some c => exact (hsome _ _ c _ hJ').run _ ha'⟩
theorem E_mark {fn : Func} {R : Ending → World → Prop} {r : Nat} {dl : List Deferred} {e : Exit} (he : e = .ret ∨ e = .normal) (hr : w.heap[r]? = some (.deferred (some []))) (h : ∀ w', SetBlock w w' r (.deferred none) → E (BP P fn R) e N ⟨dl, none⟩ σ w') : E (BP P fn R) e N ⟨mark r :: dl, none⟩ σ w := ⟨fun a ha => by
 have h1 := h _ (setBlock_put hr)
 have h2 := h1.run { a with defers := dl } ⟨ha.size, rfl, ha.at_⟩
 have hd : a.defers = mark r :: dl := ha.defers
 have hk : (Instr.takeDeferred r).run P w = .ok [] { w with heap := w.heap.setIfInBounds r (.deferred none) } := by
  simp [Instr.takeDeferred, getObj, setObj, Sem.run, hr]
 rcases he with rfl | rfl
 ·show LeavesInM _ _ _ _ a.tmps R a.defers .returning w
  rw [hd]
  exact ⟨by simp, .inl ⟨r, _, rfl, hk, h2⟩⟩
 ·show LeavesInM _ _ _ _ a.tmps R a.defers .returning w
  rw [hd]
  exact ⟨by simp, .inl ⟨r, _, rfl, hk, h2⟩⟩⟩
end
end Cr
namespace Cr
open Go
def iand (k : IntKind) (x y : Int) : Int := k.wrap (BitVec.ofInt k.bits x &&& BitVec.ofInt k.bits y).toNat
def ior (k : IntKind) (x y : Int) : Int := k.wrap (BitVec.ofInt k.bits x ||| BitVec.ofInt k.bits y).toNat
def ixor (k : IntKind) (x y : Int) : Int := k.wrap (BitVec.ofInt k.bits x ^^^ BitVec.ofInt k.bits y).toNat
def ishl (k : IntKind) (x : Int) (n : Nat) : Int := k.wrap (x * 2 ^ (min n k.bits))
def ishr (k : IntKind) (x : Int) (n : Nat) : Int := x.fdiv (2 ^ (min n k.bits))
section
variable {P : Program} {o : Oper} {σ : Env} {w : World} {x y : Operand} {t ty : TypeId} {k k' : IntKind} {a b : Int}
theorem Yl_and (ho : o.op = .binOp .and t x y ty) (hx : ev σ x = some (.int k a)) (hy : ev σ y = some (.int k b)) : Yl P o σ w (.int k (iand k a b)) := ⟨fun N ds f ha => by
 simp only [execOp, ho, ha.eval hx, ha.eval hy, binOp, eqGuard, Op.intBits, ne_eq, not_true_eq_false, if_false]; rfl⟩
theorem Yl_or (ho : o.op = .binOp .or t x y ty) (hx : ev σ x = some (.int k a)) (hy : ev σ y = some (.int k b)) : Yl P o σ w (.int k (ior k a b)) := ⟨fun N ds f ha => by
 simp only [execOp, ho, ha.eval hx, ha.eval hy, binOp, eqGuard, Op.intBits, ne_eq, not_true_eq_false, if_false]; rfl⟩
theorem Yl_xor (ho : o.op = .binOp .xor t x y ty) (hx : ev σ x = some (.int k a)) (hy : ev σ y = some (.int k b)) : Yl P o σ w (.int k (ixor k a b)) := ⟨fun N ds f ha => by
 simp only [execOp, ho, ha.eval hx, ha.eval hy, binOp, eqGuard, Op.intBits, ne_eq, not_true_eq_false, if_false]; rfl⟩
theorem Yl_shl (ho : o.op = .binOp .shl t x y ty) (hx : ev σ x = some (.int k a)) (hy : ev σ y = some (.int k' b)) (hb : 0 ≤ b) : Yl P o σ w (.int k (ishl k a b.toNat)) := ⟨fun N ds f ha => by
 have : ¬ b < 0 := by omega
 simp only [execOp, ho, ha.eval hx, ha.eval hy, binOp, eqGuard, Op.shift, if_neg this]; rfl⟩
theorem Yl_shr (ho : o.op = .binOp .shr t x y ty) (hx : ev σ x = some (.int k a)) (hy : ev σ y = some (.int k' b)) (hb : 0 ≤ b) : Yl P o σ w (.int k (ishr k a b.toNat)) := ⟨fun N ds f ha => by
 have : ¬ b < 0 := by omega
 simp only [execOp, ho, ha.eval hx, ha.eval hy, binOp, eqGuard, Op.shift, if_neg this]; rfl⟩
theorem X_callq {N : Nat} {ds : Md} {K : Env → World → Prop} (g : FuncId) {f : Operand} {xs : List Operand} {vs : List Value} {ts : Array TypeId} {d : Nat} {R : Value → Prop} {W : World} {F : Nat → Prop} {rs : List Res} (ho : o.op = .call { callee := .value f, args := xs.toArray, argTypes := ts }) (hf : ev σ f = some (.func (.func g) #[] #[])) (hv : evs σ xs = some vs) [hg : Fun P g]
  (hd : o.dst = some d) (hN : Nat.blt d N = true) (hS : St W F rs w) (hc : Calls P g vs.toArray w (Ret fun v w' => R v ∧ St w noF [] w')) (h : ∀ v w', R v → St W F rs w' → K ((d, v) :: σ) w') : X P o N ds σ w K :=
 X_callg g ho hf hv hd hN hc fun v w' ⟨hR, h'⟩ => h v w' hR (hS.below h'.toBelow)
theorem iand_7 (x : Int) : iand .i64 x 7 = x % 8 := by
 unfold iand
 have e : (BitVec.ofInt IntKind.i64.bits x &&& BitVec.ofInt IntKind.i64.bits 7).toNat = (x % 8).toNat := by
  rw [BitVec.toNat_and, BitVec.toNat_ofInt, BitVec.toNat_ofInt]
  show (x % 18446744073709551616).toNat &&& 7 = _
  rw [show (7 : Nat) = 2 ^ 3 - 1 from rfl, Nat.and_two_pow_sub_one_eq_mod]
  omega
 rw [e, IntKind.wrap_i64]
 omega
/-! blocks of numbers -/
def ints (k : IntKind) (L : List Int) : List Value := L.map (Value.int k)
theorem ints_length (k : IntKind) (L : List Int) : (ints k L).length = L.length := by simp [ints]
instance ones_ints (k : IntKind) (L : List Int) : Ones (ints k L) := ⟨fun u hu => by simp [ints] at hu; obtain ⟨n, _, rfl⟩ := hu; rfl⟩
theorem ints_get {k : IntKind} {L : List Int} {i : Nat} (h : i < L.length) : (ints k L)[i]? = some (.int k (L.getD i 0)) := by
 simp [ints, h, List.getD_eq_getElem?_getD]
theorem ints_rep (k : IntKind) (n : Nat) (x : Int) : List.replicate n (Value.int k x) = ints k (List.replicate n x) := by simp [ints]
theorem ints_set {k : IntKind} {L : List Int} {i : Nat} {x : Int} : (ints k L).set i (.int k x) = ints k (L.set i x) := by simp [ints, List.map_set]
theorem St.cellI {W : World} {F : Nat → Prop} {rs : List Res} {b off : Nat} {k : IntKind} {L : List Int} {T : TypeId} (hS : St W F rs w) [hh : Has rs b (.cells (ints k L).toArray T (0, 0))] (h : off < L.length) : w.cell? ⟨b, off, none⟩ = some (.int k (L.getD off 0)) := by
 rw [cell_of_row w b off _ T (0, 0) hS.has]
 simpa using ints_get (k := k) h
theorem X_storeI {N : Nat} {ds : Md} {K : Env → World → Prop} {b off : Nat} {k : IntKind} {n : Int} {L : List Int} {T : TypeId} {W : World} {F : Nat → Prop} {rs rs' : List Res} (ho : o.op = .store t x y) (hx : ev σ x = some (.pointer (some ⟨b, off, none⟩))) (hy : ev σ y = some (.int k n)) [hs : Siz P t 1]
  (hd : o.dst = none) (hS : St W F rs w) [hh : Has rs b (.cells (ints k L).toArray T (0, 0))] (hfit : off < L.length) [hu : Upd rs b (.cells (ints k (L.set off n)).toArray T (0, 0)) rs']
  (h : ∀ w', St W F rs' w' → K σ w') : X P o N ds σ w K := by
 have e : splice (ints k L) off [.int k n] = ints k (L.set off n) := by
  rw [← ints_set, set_mid _ _ _ (by rw [ints_length]; exact hfit)]
  simp [splice]
 have hu' : Upd rs b (.cells (splice (ints k L) off [.int k n]).toArray T (0, 0)) rs' := by rw [e]; exact hu
 exact X_storeL ho hx hy rfl (fun u hu => by simp at hu; subst hu; rfl) hd hS (by rw [ints_length]; exact hfit) (fun w' h' _ => h w' h')
theorem St.cellIP {W : World} {F : Nat → Prop} {rs : List Res} {b off : Nat} {k : IntKind} {L : List Int} {r : List Value} {T : TypeId} (hS : St W F rs w) [hh : Has rs b (.cells (ints k L ++ r).toArray T (0, 0))] (h : off < L.length) : w.cell? ⟨b, off, none⟩ = some (.int k (L.getD off 0)) := by
 rw [cell_of_row w b off _ T (0, 0) hS.has]
 have := ints_get (k := k) h
 simp only [List.getElem?_toArray]
 rw [List.getElem?_append_left (by rw [ints_length]; exact h)]
 exact this
theorem X_storeIP {N : Nat} {ds : Md} {K : Env → World → Prop} {b off : Nat} {k : IntKind} {n : Int} {L : List Int} {r : List Value} {T : TypeId} {W : World} {F : Nat → Prop} {rs rs' : List Res} (ho : o.op = .store t x y) (hx : ev σ x = some (.pointer (some ⟨b, off, none⟩))) (hy : ev σ y = some (.int k n)) [hs : Siz P t 1]
  (hd : o.dst = none) (hS : St W F rs w) [hh : Has rs b (.cells (ints k L ++ r).toArray T (0, 0))] (hfit : off < L.length) [hu : Upd rs b (.cells (ints k (L.set off n) ++ r).toArray T (0, 0)) rs']
  (h : ∀ w', St W F rs' w' → K σ w') : X P o N ds σ w K := by
 have e : splice (ints k L ++ r) off [.int k n] = ints k (L.set off n) ++ r := by
  rw [splice_append (by rw [ints_length]; exact hfit), ← ints_set, set_mid _ _ _ (by rw [ints_length]; exact hfit)]
  simp [splice]
 have hu' : Upd rs b (.cells (splice (ints k L ++ r) off [.int k n]).toArray T (0, 0)) rs' := by rw [e]; exact hu
 exact X_storeL ho hx hy rfl (fun u hu => by simp at hu; subst hu; rfl) hd hS (by rw [List.length_append, ints_length]; exact Nat.le_trans hfit (Nat.le_add_right _ _)) (fun w' h' _ => h w' h')
theorem X_callc {N : Nat} {ds : Md} {K : Env → World → Prop} (g : FuncId) {f : Operand} {xs : List Operand} {vs captured : List Value} {ts : Array TypeId} {d : Nat} {R : Value → Prop} (ho : o.op = .call { callee := .value f, args := xs.toArray, argTypes := ts }) (hf : ev σ f = some (.func (.func g) #[] captured.toArray)) (hv : evs σ xs = some vs) [hg : Fun P g]
  (hd : o.dst = some d) (hN : Nat.blt d N = true) (hc : Calls P g (vs ++ captured).toArray w (Ret fun v w' => R v ∧ w = w')) (h : ∀ v, R v → K ((d, v) :: σ) w) : X P o N ds σ w K :=
 X_call (first := []) (captured := captured) ho hf hv hd hN (by simpa using hc) (by
  intro v w' h'
  obtain ⟨hR, e⟩ := h'
  subst e
  exact h v hR)
theorem row_pts_at {b off n : Nat} {l cs : List Value} {T : TypeId} (hs : (l.drop off).take n = cs) : ∀ h, pts b (.cells l.toArray T (0, 0)) h → row (some ⟨b, off, none⟩) cs h := fun _ hg => .inr ⟨b, off, l.toArray, T, (0, 0), rfl, hg, fun j v hv => by
 subst hs
 rw [List.getElem?_take] at hv
 split at hv
 ·rw [List.getElem?_drop] at hv
  simpa using hv
 ·cases hv⟩
theorem Rd.cellI {b o i : Nat} {k : IntKind} {L : List Int} (H : Rd w (row (some ⟨b, o, none⟩) (ints k L))) (h : i < L.length) : w.cell? ⟨b, o + i, none⟩ = some (.int k (L.getD i 0)) := H.cells i _ (ints_get h)
theorem Rd.cell {a : Option Addr} {cs : List Value} {i : Nat} {v : Value} (H : Rd w (row a cs)) (hi : cs[i]? = some v) : w.cell? (adr a i) = some v := H.cells i v hi
end
end Cr
namespace Cr
open Go Go.Proofs
set_option maxRecDepth 100000
set_option maxHeartbeats 4000000

def spin (x : Int) (n : Nat) : Int := ior .u32 (ishr .u32 x n) (ishl .u32 x (32 - n))
theorem spin_ (x : Int) (n : Nat) (W : World) (h : n ≤ 32) : Calls Tryz.prog 285 #[.int .u32 x, .int .i64 n] W (Ret fun v w => v = .int .u32 (spin x n) ∧ St W noF [] w) := by
 have hS := St.start W
 refine calls_C Tryz.func285 rfl Tryz.ntmps285 rfl ?_
 repeat (first | (refine G_id ?_; first | refine G_nil ?_ | refine G_plain rfl rfl ?_) | (refine X_id ?_; first | refine X_yl (Yl_assign rfl rfl) rfl rfl ?_) | (refine C_id ?_; first | refine C_seq ?_ | refine C_region ?_) | (refine E_id ?_; first | refine E_code ?_))
 refine C_ord (.s 0 (.s 1 (.s 2 (.s 3 (.s 4 (.s 5 (.s 6 (.s 7 (.s 8 .nil))))))))) mixed (by kernel_rfl) rfl ?_
 have hS := hS.drew
 repeat (first | (refine C_id ?_; first | refine C_ret ?_) | (refine E_id ?_; first | refine E_code ?_ | refine E_ret1 rfl (Rv_tmp rfl) (Ret.mk ?_)) | (refine GO_id ?_; first | refine GO_nil ?_ | refine GO_pure rfl rfl (fun _ => Yl_move rfl rfl) rfl rfl ?_ | refine GO_pure rfl rfl (fun _ => Yl_assign rfl rfl) rfl rfl ?_ | refine GO_pure rfl rfl (fun _ => Yl_sub rfl rfl rfl (w64 (by omega) (by omega))) rfl rfl ?_ | refine GO_pure rfl rfl (fun _ => Yl_or rfl rfl rfl) rfl rfl ?_ | refine GO_pure rfl rfl (fun _ => Yl_shr rfl rfl rfl (by omega)) rfl rfl ?_ | refine GO_pure rfl rfl (fun _ => Yl_shl rfl rfl rfl (by omega)) rfl rfl ?_))
 refine ⟨?_, hS⟩
 unfold spin
 congr 3
 omega
theorem at_ (k i : Int) (b bi : Nat) (W : World) (hk : 0 ≤ k) (hk' : k < 8) (hi : 0 ≤ i) (hi' : i < 64) (hbi : Ro W noF (pts bi (.cells #[.int .i64 i] 3))) :
  Calls Tryz.prog 284 #[.int .i64 k, .pointer (some ⟨b, 0, none⟩), .pointer (some ⟨bi, 0, none⟩)] W (Ret fun v w => v = .pointer (some ⟨b, ((k - i) % 8).toNat, none⟩) ∧ W = w) := by
 have hS := St.start W
 have hbi := (hbi.rd hS).pts
 refine calls_C Tryz.func284 rfl Tryz.ntmps284 rfl ?_
 repeat (first | (refine G_id ?_; first | refine G_nil ?_ | refine G_plain rfl rfl ?_) | (refine X_id ?_; first | refine X_yl (Yl_move rfl rfl) rfl rfl ?_ | refine X_yl (Yl_assign rfl rfl) rfl rfl ?_ | refine X_yl (Yl_sub rfl rfl rfl (w64 (by omega) (by omega))) rfl rfl ?_ | refine X_yl (Yl_and rfl rfl rfl) rfl rfl ?_ | refine X_yl (Yl_load rfl rfl (cell_at (by assumption))) rfl rfl ?_) | (refine C_id ?_; first | refine C_seq ?_ | refine C_region ?_) | (refine E_id ?_; first | refine E_code ?_))
 rw [iand_7]
 repeat (first | (refine G_id ?_; first | refine G_nil ?_ | refine G_plain rfl rfl ?_) | (refine X_id ?_; first | refine X_yl (Yl_assign rfl rfl) rfl rfl ?_ | refine X_yl (Yl_indexAddr_arr rfl rfl rfl (by omega) (by omega)) rfl rfl ?_) | (refine C_id ?_; first | refine C_ret ?_) | (refine E_id ?_; first | refine E_code ?_ | refine E_ret1 rfl (Rv_tmp rfl) (Ret.mk ?_)))
 exact ⟨by simp, rfl⟩

/-! ### spread -/
def u32 (x : Int) : Int := IntKind.u32.wrap x
def byteAt (b : List UInt8) (i : Nat) : Int := u32 (b.getD i 0).toNat
def word (b : List UInt8) (i : Nat) : Int := ior .u32 (ior .u32 (ior .u32 (ishl .u32 (byteAt b (4 * i)) 24) (ishl .u32 (byteAt b (4 * i + 1)) 16)) (ishl .u32 (byteAt b (4 * i + 2)) 8)) (byteAt b (4 * i + 3))
def sig (a : Int) (p q r : Nat) : Int := ixor .u32 (ixor .u32 (spin a p) (spin a q)) (ishr .u32 a r)
def later (L : List Int) (i : Nat) : Int := u32 (u32 (u32 (L.getD (i - 16) 0 + sig (L.getD (i - 15) 0) 7 18 3) + L.getD (i - 7) 0) + sig (L.getD (i - 2) 0) 17 19 10)
def spreadTo (b : List UInt8) : Nat → List Int
 | 0 => List.replicate 64 0
 | i + 1 => (spreadTo b i).set i (if i < 16 then word b i else later (spreadTo b i) i)
theorem spreadTo_length (b : List UInt8) : ∀ i, (spreadTo b i).length = 64
 | 0 => by simp [spreadTo]
 | i + 1 => by simp [spreadTo, spreadTo_length b i]
theorem spread_ (a : Option Addr) (c : Nat) (b : List UInt8) (W : World) (hb : Rd W (bytes a b)) (h64 : b.length = 64) (hc : 64 ≤ c) :
  Calls Tryz.prog 283 #[.slice a 64 c] W (Ret fun v w => v = .agg (ints .u32 (spreadTo b 64)).toArray ∧ St W noF [] w) := by
 have hS := St.start W
 have hbo := hb.ro
 obtain ⟨ab, ao, rfl⟩ := hb.base (by intro e; have := bv_length b; rw [e] at this; simp at this; omega)
 refine calls_C Tryz.func283 rfl Tryz.ntmps283 rfl ?_
 repeat (first | (refine G_id ?_; first | refine G_nil ?_ | refine G_plain rfl rfl ?_) | (refine X_id ?_; first | refine X_yl (Yl_move rfl rfl) rfl rfl ?_ | refine X_alloc rfl rfl rfl hS (fun _ _ hS _ => ?_)) | (refine C_id ?_; first | refine C_seq ?_ | refine C_region ?_ | refine C_block ?_) | (refine E_id ?_; first | refine E_code ?_))
 rename_i b2 _ _ _ b3 _ _
 rw [ints_rep] at hS
 refine C_loop (α := Nat) (fun i => [(0, .slice (some ⟨ab, ao, none⟩) 64 c), (2, .pointer (some ⟨b2, 0, none⟩)), (3, .pointer (some ⟨b3, 0, none⟩)), (8, .int .i64 (i : Nat))])
  (fun i w => i ≤ 64 ∧ St W noF [pts b3 (.cells (ints .u32 (spreadTo b i)).toArray 381), pts b2 (.cells (List.replicate 64 (.int .u32 0)).toArray 381)] w) (fun i => 64 - i) 0 ⟨rfl, rfl, rfl, rfl, trivial⟩ ⟨Nat.zero_le _, hS⟩ ?_
 clear hS
 rintro i w ⟨hi, hS⟩
 obtain ⟨L, hLe⟩ : ∃ L, L = spreadTo b i := ⟨_, rfl⟩
 have hL : L.length = 64 := by rw [hLe]; exact spreadTo_length b i
 rw [← hLe] at hS
 by_cases h16 : i < 16
 ·repeat (first | (refine G_id ?_; first | refine G_nil ?_ | refine G_plain rfl rfl ?_) | (refine X_id ?_; first | refine X_yl (Yl_move rfl rfl) rfl rfl ?_ | refine X_yl (Yl_assign rfl rfl) rfl rfl ?_ | refine X_yl (Yl_lss_t rfl rfl rfl (by omega)) rfl rfl ?_ | refine X_yl (Yl_add rfl rfl rfl (w64 (by omega) (by omega))) rfl rfl ?_ | refine X_yl (Yl_mul rfl rfl rfl (w64 (by omega) (by omega))) rfl rfl ?_) | (refine C_id ?_; first | refine C_seq ?_ | refine C_region ?_ | refine C_block ?_ | refine C_skip ?_ | refine C_cond_t rfl ?_) | (refine E_id ?_; first | refine E_code ?_))
  refine X_yl (Yl_slice (l := 4 * i) (h := 4 * i + 4) rfl rfl rfl rfl (.inr ⟨_, _, rfl, by omega, by omega, by omega⟩) (.inr ⟨_, _, rfl, by omega, by omega, by omega⟩)) rfl rfl ?_
  rw [show sub (some ⟨ab, ao, none⟩) (4 * i) 1 c = some ⟨ab, ao + 4 * i, none⟩ by unfold sub; rw [if_neg (by omega)]; simp [add_lit], show 4 * i + 4 - 4 * i = 4 by omega]
  repeat (first | (refine G_id ?_; first | refine G_nil ?_ | refine G_plain rfl rfl ?_) | (refine X_id ?_; first | refine X_yl (Yl_assign rfl rfl) rfl rfl ?_) | (refine C_id ?_; first | refine C_seq ?_) | (refine E_id ?_; first | refine E_code ?_))
  refine C_ord (.s 0 (.s 1 (.s 2 (.s 3 (.s 4 (.s 5 (.s 6 (.s 7 (.s 8 (.s 9 (.s 10 (.s 11 (.s 12 (.s 13 (.s 14 (.s 15 (.s 16 (.s 17 (.s 18 (.s 19 (.s 20 (.s 21 (.s 22 (.s 23 (.h 24 .nil .no))))))))))))))))))))))))) mixed (by kernel_rfl) rfl ?_
  have hS := hS.drew
  have hcell : ∀ j, j < 4 → _root_.Go.World.cell? _ ⟨ab, ao + 4 * i + j, none⟩ = some (.int .u8 ((b.getD (4 * i + j) 0).toNat : Nat)) := fun j hj => by
   have := (hbo.rd hS).cell (i := 4 * i + j) (v := .int .u8 ((b.getD (4 * i + j) 0).toNat : Nat)) (by simp [bv, List.getD_eq_getElem?_getD, show 4 * i + j < b.length by omega])
   simpa [adr, Nat.add_assoc] using this
  have q0 := hcell 0 (by omega)
  have q1 := hcell 1 (by omega)
  have q2 := hcell 2 (by omega)
  have q3 := hcell 3 (by omega)
  repeat (first | (refine G_id ?_; first | refine G_nil ?_ | refine G_plain rfl rfl ?_) | (refine X_id ?_; first | refine X_yl (Yl_move rfl rfl) rfl rfl ?_ | refine X_yl (Yl_add rfl rfl rfl (w64 (by omega) (by omega))) rfl rfl ?_ | refine X_storeI rfl rfl rfl rfl hS (by omega) (fun _ hS => ?_)) | (refine C_id ?_; first | refine C_region ?_ | refine C_exit ?_) | (refine E_id ?_; first | refine E_code ?_ | refine E_then_exit ?_ | refine E_blk_same ?_) | (refine GO_id ?_; first | refine GO_nil ?_ | refine GO_pure rfl rfl (fun _ => Yl_move rfl rfl) rfl rfl ?_ | refine GO_pure rfl rfl (fun _ => Yl_indexAddr_arr rfl rfl rfl (by omega) (by omega)) rfl rfl ?_ | refine GO_pure rfl rfl (fun _ => Yl_indexAddr rfl rfl rfl (by omega) (by omega) (by first | assumption | exact ⟨_, _, rfl⟩)) rfl rfl ?_ | refine GO_pure rfl rfl (fun _ => Yl_convInt rfl rfl rfl) rfl rfl ?_ | refine GO_pure rfl rfl (fun _ => Yl_or rfl rfl rfl) rfl rfl ?_ | refine GO_pure rfl rfl (fun _ => Yl_shl rfl rfl rfl (by omega)) rfl rfl ?_ | refine GO_read (fun w' => w'.cell? _ = some _) rfl rfl (by assumption) (fun _ hc => Yl_load rfl rfl hc) rfl rfl ?_ | refine GO_hard rfl rfl ?_) | (refine Keep_id ?_; first | refine And.intro (by repeat (first | exact trivial | refine And.intro (.inl (by decide +kernel)) ?_ | refine And.intro (.inr (by first | assumption | exact hS.cell | exact cell_at (by assumption) | exact hS.cellI (by omega) | exact hS.cellIP (by omega) | exact hS.cellsN | exact ((hr.rd hS).cellX (by omega) hx) | exact ((hr2.rd hS).cellX (by omega) hx2) | exact hS.cellB (by omega) | exact hS.cellBA (by omega) | exact (hb.rd hS).cellB' (by omega) | exact (hb2.rd hS).cellB' (by omega) | exact (hg.rd hS).cellI (by omega) | exact (hg2.rd hS).cellI (by omega) | exact ((hr.rd hS).cellF (by first | omega | (dsimp only; omega)) hx) | exact ((hr2.rd hS).cellF (by first | omega | (dsimp only; omega)) hx2) | exact hS.cellO 0 (by omega) | exact hS.cellO 1 (by omega) | exact hS.cellIA (by omega) | exact (hg.rd hS).cellIA (by omega) | exact (hg2.rd hS).cellIA (by omega) | exact cell_at (hc.rd hS).pts | exact hb.rd hS | exact (hr.rd hS).cellsF7 (by first | omega | (dsimp only; omega)) hst4 rfl | exact (hr2.rd hS).cellsF7 (by first | omega | (dsimp only; omega)) hst4 rfl | exact hS.cellO 4 (by omega) | exact hS.cellO 5 (by omega) | exact hS.cellO 6 (by omega) | exact hS.cellO 7 (by omega) | exact hS.cellO 8 (by omega) | exact hS.cellO 9 (by omega) | exact hS.cellO 10 (by omega) | exact hS.cellO 11 (by omega) | exact hS.cellO 12 (by omega) | exact hS.cellO 13 (by omega) | exact hS.cellO 2 (by omega) | exact hS.cellO 3 (by omega))) ?_)) ?_))
  refine E_round (i + 1) ⟨rfl, rfl, rfl, rfl, trivial⟩ ⟨by omega, ?_⟩ (by omega)
  rw [show 0 + (i : Int).toNat * 1 = i by omega, hLe] at hS
  simp only [spreadTo, if_pos h16]
  exact hS
 ·by_cases h64 : i < 64
  ·repeat (first | (refine G_id ?_; first | refine G_nil ?_ | refine G_plain rfl rfl ?_) | (refine X_id ?_; first | refine X_yl (Yl_move rfl rfl) rfl rfl ?_ | refine X_yl (Yl_assign rfl rfl) rfl rfl ?_ | refine X_yl (Yl_lss_t rfl rfl rfl (by omega)) rfl rfl ?_ | refine X_yl (Yl_lss_f rfl rfl rfl (by omega)) rfl rfl ?_) | (refine C_id ?_; first | refine C_seq ?_ | refine C_region ?_ | refine C_block ?_ | refine C_skip ?_ | refine C_cond_t rfl ?_ | refine C_cond_f rfl ?_) | (refine E_id ?_; first | refine E_code ?_))
   refine C_ord (.s 0 (.s 1 (.s 2 (.s 3 (.s 4 (.s 5 (.s 6 (.s 7 (.s 8 (.s 9 .nil)))))))))) mixed (by kernel_rfl) rfl ?_
   have hS := hS.drew
   repeat (first | (refine E_id ?_; first | refine E_code ?_) | (refine GO_id ?_; first | refine GO_nil ?_ | refine GO_pure rfl rfl (fun _ => Yl_move rfl rfl) rfl rfl ?_ | refine GO_pure rfl rfl (fun _ => Yl_assign rfl rfl) rfl rfl ?_ | refine GO_pure rfl rfl (fun _ => Yl_indexAddr_arr rfl rfl rfl (by omega) (by omega)) rfl rfl ?_ | refine GO_pure rfl rfl (fun _ => Yl_sub rfl rfl rfl (w64 (by omega) (by omega))) rfl rfl ?_ | refine GO_read (fun w' => w'.cell? _ = some _) rfl rfl (hS.cellI (by omega)) (fun _ hc => Yl_load rfl rfl hc) rfl rfl ?_))
   refine C_ord (.s 0 (.s 1 (.s 2 (.s 3 (.s 4 (.s 5 (.s 7 (.s 10 (.s 11 (.s 14 (.s 15 (.s 16 (.s 17 (.s 19 (.s 21 (.s 24 (.s 25 (.h 6 (.h 8 (.s 9 (.s 12 (.s 13 (.s 18 (.h 20 (.h 22 (.s 23 (.s 26 (.s 27 (.s 28 (.h 29 .nil .no))))) .no) .no))))) .no) .no)))))))))))))))))) mixed (by kernel_rfl) rfl ?_
   have hS := hS.drew
   repeat (first | (refine G_id ?_; first | refine G_nil ?_ | refine G_plain rfl rfl ?_) | (refine X_id ?_; first | (refine X_callq 285 rfl rfl rfl rfl rfl hS (spin_ _ _ _ (by decide)) ?_; rintro _ _ rfl hS) | refine X_yl (Yl_move rfl rfl) rfl rfl ?_ | refine X_yl (Yl_add rfl rfl rfl (w64 (by omega) (by omega))) rfl rfl ?_ | refine X_storeI rfl rfl rfl rfl hS (by omega) (fun _ hS => ?_)) | (refine C_id ?_; first | refine C_region ?_) | (refine E_id ?_; first | refine E_code ?_ | refine E_blk_n ?_) | (refine GO_id ?_; first | refine GO_nil ?_ | refine GO_pure rfl rfl (fun _ => Yl_move rfl rfl) rfl rfl ?_ | refine GO_pure rfl rfl (fun _ => Yl_indexAddr_arr rfl rfl rfl (by omega) (by omega)) rfl rfl ?_ | refine GO_pure rfl rfl (fun _ => Yl_sub rfl rfl rfl (w64 (by omega) (by omega))) rfl rfl ?_ | refine GO_pure rfl rfl (fun _ => Yl_add rfl rfl rfl rfl) rfl rfl ?_ | refine GO_pure rfl rfl (fun _ => Yl_xor rfl rfl rfl) rfl rfl ?_ | refine GO_pure rfl rfl (fun _ => Yl_shr rfl rfl rfl (by omega)) rfl rfl ?_ | refine GO_read (fun w' => w'.cell? _ = some _) rfl rfl (hS.cellI (by omega)) (fun _ hc => Yl_load rfl rfl hc) rfl rfl ?_ | refine GO_hard rfl rfl ?_) | (refine Keep_id ?_; first | refine And.intro (by repeat (first | exact trivial | refine And.intro (.inl (by decide +kernel)) ?_ | refine And.intro (.inr (by first | assumption | exact hS.cell | exact cell_at (by assumption) | exact hS.cellI (by omega) | exact hS.cellIP (by omega) | exact hS.cellsN | exact ((hr.rd hS).cellX (by omega) hx) | exact ((hr2.rd hS).cellX (by omega) hx2) | exact hS.cellB (by omega) | exact hS.cellBA (by omega) | exact (hb.rd hS).cellB' (by omega) | exact (hb2.rd hS).cellB' (by omega) | exact (hg.rd hS).cellI (by omega) | exact (hg2.rd hS).cellI (by omega) | exact ((hr.rd hS).cellF (by first | omega | (dsimp only; omega)) hx) | exact ((hr2.rd hS).cellF (by first | omega | (dsimp only; omega)) hx2) | exact hS.cellO 0 (by omega) | exact hS.cellO 1 (by omega) | exact hS.cellIA (by omega) | exact (hg.rd hS).cellIA (by omega) | exact (hg2.rd hS).cellIA (by omega) | exact cell_at (hc.rd hS).pts | exact hb.rd hS | exact (hr.rd hS).cellsF7 (by first | omega | (dsimp only; omega)) hst4 rfl | exact (hr2.rd hS).cellsF7 (by first | omega | (dsimp only; omega)) hst4 rfl | exact hS.cellO 4 (by omega) | exact hS.cellO 5 (by omega) | exact hS.cellO 6 (by omega) | exact hS.cellO 7 (by omega) | exact hS.cellO 8 (by omega) | exact hS.cellO 9 (by omega) | exact hS.cellO 10 (by omega) | exact hS.cellO 11 (by omega) | exact hS.cellO 12 (by omega) | exact hS.cellO 13 (by omega) | exact hS.cellO 2 (by omega) | exact hS.cellO 3 (by omega))) ?_)) ?_))
   refine E_round (i + 1) ⟨rfl, rfl, rfl, rfl, trivial⟩ ⟨by omega, ?_⟩ (by omega)
   rw [show 0 + (i : Int).toNat * 1 = i by omega, show 0 + ((i : Int) - 16).toNat * 1 = i - 16 by omega, show 0 + ((i : Int) - 15).toNat * 1 = i - 15 by omega, show 0 + ((i : Int) - 7).toNat * 1 = i - 7 by omega, show 0 + ((i : Int) - 2).toNat * 1 = i - 2 by omega, hLe] at hS
   simp only [spreadTo, if_neg h16]
   exact hS
  ·obtain rfl : i = 64 := by omega
   have hlen : LenIs (ints .u32 L) 64 := ⟨by rw [ints_length]; exact hL⟩
   repeat (first | (refine G_id ?_; first | refine G_nil ?_ | refine G_plain rfl rfl ?_) | (refine X_id ?_; first | refine X_yl (Yl_lss_f rfl rfl rfl (by omega)) rfl rfl ?_ | refine X_yl (Yl_loadN rfl rfl hS.cellsN) rfl rfl ?_ | refine X_store rfl rfl rfl rfl hS (fun _ hS _ => ?_)) | (refine C_id ?_; first | refine C_seq ?_ | refine C_region ?_ | refine C_ret ?_ | refine C_exit ?_ | refine C_cond_f rfl ?_) | (refine E_id ?_; first | refine E_code ?_ | refine E_then_exit ?_ | refine E_blk_same ?_ | refine E_ret1 rfl (by first | exact Rv_tmp rfl | exact Rv_cell rfl (run_load1 hS.cell) | exact Rv_cell rfl (run_loadN hS.cellsN)) (Ret.mk ?_)))
   exact ⟨by rw [hLe], hS.drops⟩
end Cr
namespace Cr
open Go
theorem Rd.ofCells {w : World} {b : Nat} {l : List Value} (h : ∀ i v, l[i]? = some v → w.cell? ⟨b, i, none⟩ = some v) (hl : l ≠ []) : Rd w (row (some ⟨b, 0, none⟩) l) := by
 obtain ⟨v0, hv0⟩ : ∃ v, l[0]? = some v := by
  cases l with
  | nil => exact absurd rfl hl
  | cons x r => exact ⟨x, rfl⟩
 have h0 := h 0 v0 hv0
 unfold World.cell? at h0
 split at h0
 ·rename_i c t fz hb
  refine ⟨single b (.cells c t fz), .inr ⟨b, 0, c, t, fz, rfl, rfl, fun i v hv => ?_⟩, fun k o e => ?_⟩
  ·have := h i v hv
   rw [cell_of_row w b i c t fz hb] at this
   simpa using this
  ·obtain ⟨rfl, rfl⟩ := of_single e
   exact hb
 ·cases h0
def roundL : List Int := [1116352408, 1899447441, 3049323471, 3921009573, 961987163, 1508970993, 2453635748, 2870763221, 3624381080, 310598401, 607225278, 1426881987, 1925078388, 2162078206, 2614888103, 3248222580, 3835390401, 4022224774, 264347078, 604807628, 770255983, 1249150122, 1555081692, 1996064986, 2554220882, 2821834349, 2952996808, 3210313671, 3336571891, 3584528711, 113926993, 338241895, 666307205, 773529912, 1294757372, 1396182291, 1695183700, 1986661051, 2177026350, 2456956037, 2730485921, 2820302411, 3259730800, 3345764771, 3516065817, 3600352804, 4094571909, 275423344, 430227734, 506948616, 659060556, 883997877, 958139571, 1322822218, 1537002063, 1747873779, 1955562222, 2024104815, 2227730452, 2361852424, 2428436474, 2756734187, 3204031479, 3329325298]
def firstL : List Int := [1779033703, 3144134277, 1013904242, 2773480762, 1359893119, 2600822924, 528734635, 1541459225]
end Cr
namespace Go.Proofs.YtooeiknmpndcgaaGreatDoor
open Go.ChangeShapes Go.WideShapes Go.ChangeAt Go.RowKit
theorem lawOwn : ownKnob Tryz.prog.godebug = none := by kernel_rfl
theorem lawLaid : laidOutB Tryz.prog = true := by kernel_rfl
theorem post_of_law {H : Type} {enc : TypeId × Value → H} {P : Program} {f : Func} {s : ChangeSpec} {apart fresh handsOn again : Bool} {W W' : World} {args : Array Value} {v : Value} {ds gs : List (DataW H)} {before pa pv : List MemPlace}
    (hW : DataW.Whole enc P f.params.toList s.vars apart W args.toList ds gs before)
    (hres : ∀ (b : Nat) (sp : Nat → Bool) (hd : Bool), DataW.TrodAll enc P W' b sp hd f.resultTypes.toList (v.resultList f.resultTypes.size) (s.fn H (ds ++ gs)).results [])
    (hargs : ∀ sp : Nat → Bool, (∀ p ∈ before, sp p.block = true) → DataW.TrodAll enc P W' 0 sp true f.params.toList args.toList (s.fn H (ds ++ gs)).args pa)
    (hvars : ∀ sp : Nat → Bool, (∀ p ∈ before, sp p.block = true) → DataW.TrodVars enc P W' sp s.vars (s.fn H (ds ++ gs)).vars pv)
    (hps : before = pa ++ pv) (hk : W.keptBut W' (· ∈ before)) (hfz : ∀ a : Addr, a.block < W.heap.size → W'.frozen? a = W.frozen? a)
    (hok : ∀ (j : Nat) (t : TypeId) (r : Value), f.resultTypes[j]? = some t → (v.resultList f.resultTypes.size)[j]? = some r → Value.okWide P W' .any 0 t r) :
    s.post enc P f apart fresh handsOn again W args v W' := by
  have hold : ∀ p ∈ before, (fun b => decide (b < W.heap.size)) p.block = true := fun p hp => by simpa using hW.lt p hp
  have hlt : ∀ p ∈ before, p.block < W.heap.size := hW.lt
  refine ⟨ds, gs, before, [], pa, pv, hW, hres _ _ _, hargs _ hold, hvars _ hold, World.keptBut_mono (fun p hp => ⟨hp, ?_⟩) hk, fun _ => ?_⟩
  · rw [hps, List.mem_append] at hp
    exact Or.inr hp
  · obtain ⟨_, _, _, _, _, hz, hn⟩ := hW
    refine ⟨hok, _, _, ([] ++ pa) ++ pv, ⟨[] ++ pa, pv, trodAll_append (hargs _ (fun _ _ => rfl)) (hres _ _ _), hvars _ (fun _ _ => rfl), rfl, ?_, ?_⟩, ?_⟩
    · intro b off hp
      have hp' := hp
      rw [show ([] ++ pa) ++ pv = before by rw [hps]; rfl] at hp'
      rw [hfz _ (hlt _ hp')]
      exact hz b off hp'
    · intro ha
      have := hn ha
      rw [hps] at this
      simpa using this
    · intro p hp _
      rw [hps]
      simpa using hp
theorem trodAll_stays {H : Type} {enc : TypeId × Value → H} {P : Program} (hl : laidOutB P = true) {W W' : World} (hb : Below W.heap.size W W') {sp : Nat → Bool} : ∀ {ts : List TypeId} {vs : List Value} {ds : List (DataW H)} {ps : List MemPlace}, (∀ t ∈ ts, P.readableRec t = true ∧ t < P.types.size) →
  DataW.TrodAll enc P W 0 (fun _ => true) true ts vs ds ps → (∀ p ∈ ps, p.block < W.heap.size) → (∀ p ∈ ps, sp p.block = true) → DataW.TrodAll enc P W' 0 sp true ts vs ds ps
 | [], [], [], _, _, h, _, _ => h
 | _ :: _, _ :: _, _ :: _, _, hT, ⟨p, q, h1, h2, e⟩, hlt, hs => ⟨p, q,
   WideElems.Trod_stays hl (hT _ (List.mem_cons_self ..)).1 (hT _ (List.mem_cons_self ..)).2 h1 (fun x hx => hb.same (hlt x (by rw [e]; exact List.mem_append_left _ hx))) (fun x hx => hs x (by rw [e]; exact List.mem_append_left _ hx)),
   trodAll_stays hl hb (fun t ht => hT t (List.mem_cons_of_mem _ ht)) h2 (fun x hx => hlt x (by rw [e]; exact List.mem_append_right _ hx)) (fun x hx => hs x (by rw [e]; exact List.mem_append_right _ hx)), e⟩
def tabOf (l : List Value) : Obj → Obj
 | .cells _ t frozen => .cells l.toArray t frozen
 | o => o
end Go.Proofs.YtooeiknmpndcgaaGreatDoor
namespace Cr
open Go
/-! parts of known length -/
class LenO (l : List Value) (n : outParam Nat) : Prop where
 len : l.length = n
instance : LenO [] 0 := ⟨rfl⟩
instance (v : Value) (l : List Value) (n : Nat) [h : LenO l n] : LenO (v :: l) (n + 1) := ⟨by simp [h.len]⟩
instance (l m : List Value) (n k : Nat) [h : LenO l n] [h' : LenO m k] : LenO (l ++ m) (n + k) := ⟨by simp [h.len, h'.len]⟩
instance (n : Nat) : LenO (bv (List.replicate n 0)) n := ⟨by simp⟩
instance (l : List Value) (n : Nat) [h : LenO l n] : LenIs l n := ⟨h.len⟩
class SubO (k n : Nat) (j : outParam Nat) : Prop where
 eq : n = j + k
instance (n : Nat) : SubO 0 n n := ⟨rfl⟩
instance (k n j : Nat) [h : SubO k n j] : SubO (k + 1) (n + 1) j := ⟨by rw [h.eq]; omega⟩
instance nth_part (l m : List Value) (n k j : Nat) (v : Value) [hl : LenO l k] [hs : SubO k n j] [h : Nth m j v] : Nth (l ++ m) n v := ⟨by
 have := hl.len
 rw [hs.eq, List.getElem?_append_right (by omega), show j + k - l.length = j by omega]
 exact h.nth⟩
instance spl_part (l m vs m' : List Value) (n k j : Nat) [hl : LenO l k] [hs : SubO k n j] [h : Spl m j vs m'] : Spl (l ++ m) n vs (l ++ m') := ⟨by
 have e := hl.len
 have := h.spl
 rw [hs.eq]
 refine ⟨by simp; omega, ?_⟩
 rw [← this.2, show j + k = l.length + j by omega, List.take_length_add_append, show l.length + j + vs.length = l.length + (j + vs.length) by omega, List.drop_length_add_append]
 simp⟩
instance spl_front (l m vs : List Value) (k : Nat) [hl : LenO l k] [hv : LenO vs k] : Spl (l ++ m) 0 vs (vs ++ m) := ⟨by
 have e := hl.len
 have e' := hv.len
 refine ⟨by simp; omega, ?_⟩
 simp [show vs.length = l.length by omega]⟩
theorem splice_mid {l m vs : List Value} {k n : Nat} (h : l.length = k) : splice (l ++ m) (k + n) vs = l ++ splice m n vs := by
 subst h
 unfold splice
 rw [List.take_length_add_append, Nat.add_assoc, List.drop_length_add_append]
 simp
theorem splice_all {l vs : List Value} (h : l.length = vs.length) : splice l 0 vs = vs := by
 unfold splice; simp [← h]
/-! bytes -/
def b8 (x : Int) : UInt8 := UInt8.ofNat (x % 256).toNat
theorem b8_nat (x : Int) : ((b8 x).toNat : Int) = x % 256 := by
 have h : (x % 256).toNat < 256 := by omega
 unfold b8
 simp only [UInt8.toNat_ofNat']
 omega
theorem u8_wrap (x : Int) : IntKind.u8.wrap x = ((b8 x).toNat : Int) := by
 rw [b8_nat]
 simp [IntKind.wrap, IntKind.bits, IntKind.signed]
theorem bv_set {R : List UInt8} {i : Nat} {c : UInt8} : (bv R).set i (.int .u8 (c.toNat : Int)) = bv (R.set i c) := by simp [bv, List.map_set]
theorem bv_getD {l : List UInt8} {i : Nat} (h : i < l.length) : (bv l)[i]? = some (.int .u8 ((l.getD i 0).toNat : Int)) := by
 rw [bv_get h]; simp [List.getD_eq_getElem?_getD, h]
theorem bv_rep (n : Nat) : List.replicate n (Value.int .u8 0) = bv (List.replicate n 0) := by simp [bv]
instance lenO_bvset (R : List UInt8) (i : Nat) (c : UInt8) (n : Nat) [h : LenO (bv R) n] : LenO (bv (R.set i c)) n := ⟨by have := h.len; simpa using this⟩
section
variable {P : Program} {o : Oper} {σ : Env} {w : World} {x y : Operand} {t ty : TypeId} {k k' : IntKind} {a b : Int}
theorem Yl_quoE (ho : o.op = .binOp .quo t x y ty) (hx : ev σ x = some (.int .i64 a)) (hy : ev σ y = some (.int .i64 b)) (h0 : 0 ≤ a) (h1 : a ≤ 9223372036854775807) (hb : 0 < b) : Yl P o σ w (.int .i64 (a / b)) :=
 Yl_quo ho hx hy (by omega) (by
  rw [Int.tdiv_eq_ediv_of_nonneg h0]
  have h2 := Int.ediv_nonneg h0 (Int.le_of_lt hb)
  have h3 := Int.ediv_le_self b h0
  exact w64 (by omega) (by omega))
theorem Yl_remE (ho : o.op = .binOp .rem t x y ty) (hx : ev σ x = some (.int k a)) (hy : ev σ y = some (.int k b)) (h0 : 0 ≤ a) (hb : 0 < b) : Yl P o σ w (.int k (a % b)) :=
 Yl_rem ho hx hy (by omega) (Int.tmod_eq_emod_of_nonneg h0)
theorem Yl_convU8 {src dst : TypeId} {i : Int} (ho : o.op = .convert src dst x) (hx : ev σ x = some (.int k i)) {d : TypeDesc} [hs : Und P src d] [hd : Und P dst (.int .u8)] : Yl P o σ w (.int .u8 ((b8 i).toNat : Int)) :=
 Yl_convInt (hs := hs) ho hx (u8_wrap i)
theorem Rd.cellX {a : Option Addr} {cs : List Value} {i' i : Nat} {v : Value} (H : Rd w (row a cs)) (hi : i' = i) (h : cs[i]? = some v) : w.cell? (adr a i') = some v := by subst hi; exact H.cells _ _ h
theorem X_setG {N : Nat} {ds : Md} {K : Env → World → Prop} {b off : Nat} {v : Value} {l l' : List Value} {T : TypeId} {W : World} {F : Nat → Prop} {rs rs' : List Res} (ho : o.op = .store t x y) (hx : ev σ x = some (.pointer (some ⟨b, off, none⟩))) (hy : ev σ y = some v) [hv : Cell1 v] [hc : CellsOf v [v]] [hs : Siz P t 1]
  (hd : o.dst = none) (hS : St W F rs w) [hh : Has rs b (.cells l.toArray T (0, 0))] (hfit : off < l.length) (hl : l.set off v = l') [hu : Upd rs b (.cells l'.toArray T (0, 0)) rs']
  (h : ∀ w', St W F rs' w' → K σ w') : X P o N ds σ w K := by
 have e : splice l off [v] = l' := by
  rw [← hl, set_mid _ _ _ hfit]
  simp [splice]
 have hu' : Upd rs b (.cells (splice l off [v]).toArray T (0, 0)) rs' := by rw [e]; exact hu
 exact X_storeL (vs := [v]) ho hx hy rfl (fun u hu => by simp at hu; subst hu; exact hv.one) hd hS hfit (fun w' h' _ => h w' h')
theorem X_storeB {N : Nat} {ds : Md} {K : Env → World → Prop} {b off : Nat} {c : UInt8} {L : List UInt8} {T : TypeId} {W : World} {F : Nat → Prop} {rs rs' : List Res} (ho : o.op = .store t x y) (hx : ev σ x = some (.pointer (some ⟨b, off, none⟩))) (hy : ev σ y = some (.int .u8 (c.toNat : Int))) [hs : Siz P t 1]
  (hd : o.dst = none) (hS : St W F rs w) [hh : Has rs b (.cells (bv L).toArray T (0, 0))] (hfit : off < L.length) [hu : Upd rs b (.cells (bv (L.set off c)).toArray T (0, 0)) rs']
  (h : ∀ w', St W F rs' w' → K σ w') : X P o N ds σ w K := X_setG (l := bv L) ho hx hy hd hS (by simpa using hfit) bv_set h
theorem Rd.cellB {a : Option Addr} {s : List UInt8} {i : Nat} (H : Rd w (bytes a s)) (h : i < s.length) : w.cell? (adr a i) = some (.int .u8 ((s.getD i 0).toNat : Int)) := H.cells i _ (bv_getD h)
theorem Rd.cellB' {b o i : Nat} {s : List UInt8} (H : Rd w (bytes (some ⟨b, o, none⟩) s)) (h : i < s.length) : w.cell? ⟨b, o + i, none⟩ = some (.int .u8 ((s.getD i 0).toNat : Int)) := H.cellB h
theorem X_storeMB {N : Nat} {ds : Md} {K : Env → World → Prop} {b off k i : Nat} {c : UInt8} {l r : List Value} {L : List UInt8} {T : TypeId} {W : World} {F : Nat → Prop} {rs rs' : List Res} (ho : o.op = .store t x y) (hx : ev σ x = some (.pointer (some ⟨b, off, none⟩))) (hy : ev σ y = some (.int .u8 (c.toNat : Int))) [hs : Siz P t 1]
  (hd : o.dst = none) (hS : St W F rs w) [hh : Has rs b (.cells (l ++ (bv L ++ r)).toArray T (0, 0))] (hoff : off = k + i) [hl : LenO l k] (hfit : i < L.length) [hu : Upd rs b (.cells (l ++ (bv (L.set i c) ++ r)).toArray T (0, 0)) rs']
  (h : ∀ w', St W F rs' w' → K σ w') : X P o N ds σ w K := by
 have e := hl.len
 subst hoff
 refine X_setG (l := l ++ (bv L ++ r)) (l' := l ++ (bv (L.set i c) ++ r)) ho hx hy hd hS (by simp; omega) ?_ h
 rw [List.set_append_right _ _ (by omega), show k + i - l.length = i by omega, List.set_append_left _ _ (by simpa using hfit), bv_set]
theorem X_storeAll {N : Nat} {ds : Md} {K : Env → World → Prop} {b m : Nat} {v : Value} {l vs : List Value} {T : TypeId} {W : World} {F : Nat → Prop} {rs rs' : List Res} (ho : o.op = .store t x y) (hx : ev σ x = some (.pointer (some ⟨b, 0, none⟩))) (hy : ev σ y = some v) [hv : CellsOf v vs] [hs : Siz P t m] [h1 : Ones vs]
  (hd : o.dst = none) (hS : St W F rs w) [hh : Has rs b (.cells l.toArray T (0, 0))] [hm : LenO vs m] [hl : LenO l m] [hu : Upd rs b (.cells vs.toArray T (0, 0)) rs']
  (h : ∀ w', St W F rs' w' → K σ w') : X P o N ds σ w K := by
 have e : splice l 0 vs = vs := splice_all (by rw [hm.len, hl.len])
 have hu' : Upd rs b (.cells (splice l 0 vs).toArray T (0, 0)) rs' := by rw [e]; exact hu
 exact X_storeL ho hx hy hm.len h1.ones hd hS (by rw [hm.len, hl.len]; omega) (fun w' h' _ => h w' h')
end
end Cr
namespace Cr
open Go
theorem St.wide {W : World} {F : Nat → Prop} {rs : List Res} {w : World} (hS : St W noF rs w) : St W F rs w := by
 obtain ⟨h, hs, s⟩ := hS
 exact ⟨h, hs, s.agrees, fun b o e => (s.foot b o e).imp (fun h => h.elim) id, s.size, s.os, s.tape, s.output, fun b h1 _ => s.kept b h1 (fun h => h)⟩
theorem St.plus {W : World} {F : Nat → Prop} {rs rs' rs'' : List Res} {w w' : World} (hS : St W F rs w) (h' : St w noF rs' w') [ha : AppR rs' rs rs''] : St W F rs'' w' := by
 obtain ⟨_, _, _, _, hbk⟩ := hS.call []
 exact hbk (h'.wide)
end Cr
