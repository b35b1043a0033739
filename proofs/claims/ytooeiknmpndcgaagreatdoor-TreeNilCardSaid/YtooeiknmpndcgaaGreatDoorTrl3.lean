/-
  FACTS ON THE TYPES AND FUNCTIONS OF THIS SEAT's TRANSLATION, written by a program off the dump's rows; each is proved by the kernel.
  Layer 1 (block): what each function of package block does to a disk in memory.
  Layer 1 (block): New, Write, Flush.
  Layer 1 (block): Write, Flush.
  'for .. := range f { .. }', f a function: rules for the walk. Over any program.
  slices.Backward: what the function that it hands back does, round by round.
-/
import Derived.Test.YtooeiknmpndcgaaGreatDoorTrl2
import Derived.Test.YtooeiknmpndcgaaGreatDoorRows
namespace Cr
open Go Go.Proofs
theorem Inf.k {P : Program} {t : TypeId} {z : Value} {s b : Nat} (h : (P.info? t).map (fun i => (i.zero, i.size, i.bytes)) = some (some z, s, b) := by kernel_rfl) (h2 : z.cells.size = s := by kernel_rfl) : Inf P t z s b := ⟨h, h2⟩
theorem Str.k {P : Program} {t : TypeId} {l : List Field} {pl : List (Nat × Nat)} (u : P.underlying t = some (.struct l.toArray)) (h : l.map (fun f => (P.info? f.type).map (·.size)) = pl.map (fun x => some x.2) := by kernel_rfl) (h2 : l.map (·.offset) = pl.map (·.1) := by kernel_rfl) : Str P t pl := ⟨⟨l, u, h, h2⟩⟩
def isAg : TypeDesc → Bool
 | .struct _ | .array _ _ => true
 | _ => false
theorem Agg.k {P : Program} {t : TypeId} {d : TypeDesc} (u : P.underlying t = some d) (h : isAg d = true := by rfl) : Agg P t := ⟨fun w => by rw [run_isAgg u w]; cases d <;> first | rfl | cases h⟩
theorem Fld.k {P : Program} {s f off n : Nat} {t : TypeId} {fs : Array Field} {fd : Field} (u : P.underlying s = some (.struct fs)) (h : fs[f]? = some fd := by rfl) (h2 : fd.offset = off := by rfl) (h3 : fd.type = t := by rfl) (h4 : (P.info? t).map (·.size) = some n := by kernel_rfl) : Fld P s f off t n := ⟨⟨fs, fd, u, h, h2, h3, h4⟩⟩
theorem Fun.k {P : Program} {g : FuncId} {fn : Func} (h : P.funcs[g]? = some fn) (hn : (fn.name == "runtime.NumGoroutine") = false := by kernel_rfl) (hb : fn.body.isSome = true := by kernel_rfl) : Fun P g := Fun.mk' h hn hb
instance : Und Tryz.prog 2 (.int .i64) := ⟨Tryz.underlying2⟩
instance : Inf Tryz.prog 2 (.int .i64 0) 1 8 := .k
instance : Und Tryz.prog 3 (.int .i64) := ⟨Tryz.underlying3⟩
instance : Inf Tryz.prog 3 (.int .i64 0) 1 8 := .k
instance : Und Tryz.prog 4 (.bool) := ⟨Tryz.underlying4⟩
instance : Inf Tryz.prog 4 (.bool false) 1 1 := .k
instance : Und Tryz.prog 5 (.int .u8) := ⟨Tryz.underlying5⟩
instance : Inf Tryz.prog 5 (.int .u8 0) 1 1 := .k
instance : Und Tryz.prog 6 (.int .u8) := ⟨Tryz.underlying6⟩
instance : Inf Tryz.prog 6 (.int .u8 0) 1 1 := .k
instance : Agg Tryz.prog 7 := .k Tryz.underlying7
instance : Inf Tryz.prog 7 (.agg #[(.int .i64 0), (.int .i64 0), (.bool false), (.int .u8 0)]) 4 24 := .k
instance : Str Tryz.prog 7 [(0, 1), (1, 1), (2, 1), (3, 1)] := .k Tryz.underlying7
instance : Agg Tryz.prog 8 := .k Tryz.underlying8
instance : Inf Tryz.prog 8 (.agg #[(.int .i64 0), (.int .i64 0), (.bool false), (.int .u8 0)]) 4 24 := .k
instance : Str Tryz.prog 8 [(0, 1), (1, 1), (2, 1), (3, 1)] := .k Tryz.underlying8
instance : Und Tryz.prog 9 (.string) := ⟨Tryz.underlying9⟩
instance : Inf Tryz.prog 9 (.string ⟨#[]⟩) 1 16 := .k
instance : Und Tryz.prog 10 (.string) := ⟨Tryz.underlying10⟩
instance : Inf Tryz.prog 10 (.string ⟨#[]⟩) 1 16 := .k
instance : Und Tryz.prog 11 (.string) := ⟨Tryz.underlying11⟩
instance : Inf Tryz.prog 11 (.string ⟨#[]⟩) 1 16 := .k
instance : Und Tryz.prog 12 (.int .u64) := ⟨Tryz.underlying12⟩
instance : Inf Tryz.prog 12 (.int .u64 0) 1 8 := .k
instance : Agg Tryz.prog 13 := .k Tryz.underlying13
instance : Inf Tryz.prog 13 (.agg #[(.string ⟨#[]⟩), (.int .u64 0)]) 2 24 := .k
instance : Str Tryz.prog 13 [(0, 1), (1, 1)] := .k Tryz.underlying13
instance : Agg Tryz.prog 14 := .k Tryz.underlying14
instance : Inf Tryz.prog 14 (.agg #[(.string ⟨#[]⟩), (.int .u64 0)]) 2 24 := .k
instance : Str Tryz.prog 14 [(0, 1), (1, 1)] := .k Tryz.underlying14
instance : Und Tryz.prog 15 (.pointer 395) := ⟨Tryz.underlying15⟩
instance : Inf Tryz.prog 15 (.pointer none) 1 8 := .k
instance : Und Tryz.prog 16 (.pointer 398) := ⟨Tryz.underlying16⟩
instance : Inf Tryz.prog 16 (.pointer none) 1 8 := .k
instance : Und Tryz.prog 17 (.pointer 405) := ⟨Tryz.underlying17⟩
instance : Inf Tryz.prog 17 (.pointer none) 1 8 := .k
instance : Agg Tryz.prog 18 := .k Tryz.underlying18
instance : Inf Tryz.prog 18 (.agg #[(.pointer none)]) 1 8 := .k
instance : Str Tryz.prog 18 [(0, 1)] := .k Tryz.underlying18
instance : Agg Tryz.prog 19 := .k Tryz.underlying19
instance : Inf Tryz.prog 19 (.agg #[(.pointer none)]) 1 8 := .k
instance : Str Tryz.prog 19 [(0, 1)] := .k Tryz.underlying19
instance : One Tryz.prog 20 := ⟨fun w => run_isAgg Tryz.underlying20 w⟩
instance : Inf Tryz.prog 20 .nilIface 1 16 := .k
instance : Und Tryz.prog 21 (.int .i32) := ⟨Tryz.underlying21⟩
instance : Inf Tryz.prog 21 (.int .i32 0) 1 4 := .k
instance : Und Tryz.prog 22 (.pointer 69) := ⟨Tryz.underlying22⟩
instance : Inf Tryz.prog 22 (.pointer none) 1 8 := .k
instance : Und Tryz.prog 23 (.int .i64) := ⟨Tryz.underlying23⟩
instance : Inf Tryz.prog 23 (.int .i64 0) 1 8 := .k
instance : Und Tryz.prog 26 (.slice 5) := ⟨Tryz.underlying26⟩
instance : Inf Tryz.prog 26 (.slice none 0 0) 1 24 := .k
instance : Und Tryz.prog 27 (.slice 29) := ⟨Tryz.underlying27⟩
instance : Inf Tryz.prog 27 (.slice none 0 0) 1 24 := .k
instance : Agg Tryz.prog 28 := .k Tryz.underlying28
instance : Inf Tryz.prog 28 (.agg #[(.int .i64 0), (.int .i64 0), (.slice none 0 0), (.slice none 0 0)]) 4 64 := .k
instance : Str Tryz.prog 28 [(0, 1), (1, 1), (2, 1), (3, 1)] := .k Tryz.underlying28
instance : Agg Tryz.prog 29 := .k Tryz.underlying29
instance : Inf Tryz.prog 29 (.agg #[(.int .i64 0), (.int .i64 0), (.slice none 0 0), (.slice none 0 0)]) 4 64 := .k
instance : Str Tryz.prog 29 [(0, 1), (1, 1), (2, 1), (3, 1)] := .k Tryz.underlying29
instance : Und Tryz.prog 34 (.slice 9) := ⟨Tryz.underlying34⟩
instance : Inf Tryz.prog 34 (.slice none 0 0) 1 24 := .k
instance : Und Tryz.prog 43 (.pointer 99) := ⟨Tryz.underlying43⟩
instance : Inf Tryz.prog 43 (.pointer none) 1 8 := .k
instance : Und Tryz.prog 44 (.pointer 120) := ⟨Tryz.underlying44⟩
instance : Inf Tryz.prog 44 (.pointer none) 1 8 := .k
instance : Agg Tryz.prog 48 := .k Tryz.underlying48
instance : Inf Tryz.prog 48 (.agg #[(.int .i64 0), (.int .i64 0), (.int .i64 0), (.int .i64 0)]) 4 32 := .k
instance : Str Tryz.prog 48 [(0, 1), (1, 1), (2, 1), (3, 1)] := .k Tryz.underlying48
instance : Agg Tryz.prog 49 := .k Tryz.underlying49
instance : Inf Tryz.prog 49 (.agg #[(.int .i64 0), (.int .i64 0), (.int .i64 0), (.int .i64 0)]) 4 32 := .k
instance : Str Tryz.prog 49 [(0, 1), (1, 1), (2, 1), (3, 1)] := .k Tryz.underlying49
instance : Fld Tryz.prog 49 0 0 3 1 := .k Tryz.underlying49
instance : Fld Tryz.prog 49 1 1 3 1 := .k Tryz.underlying49
instance : Fld Tryz.prog 49 2 2 3 1 := .k Tryz.underlying49
instance : Fld Tryz.prog 49 3 3 3 1 := .k Tryz.underlying49
instance : Agg Tryz.prog 50 := .k Tryz.underlying50
instance : Inf Tryz.prog 50 (.agg #[(.int .i64 0), (.int .i64 0), (.int .i64 0), (.int .i64 0), (.slice none 0 0)]) 5 56 := .k
instance : Str Tryz.prog 50 [(0, 4), (4, 1)] := .k Tryz.underlying50
instance : Agg Tryz.prog 51 := .k Tryz.underlying51
instance : Inf Tryz.prog 51 (.agg #[(.int .i64 0), (.int .i64 0), (.int .i64 0), (.int .i64 0), (.slice none 0 0)]) 5 56 := .k
instance : Str Tryz.prog 51 [(0, 4), (4, 1)] := .k Tryz.underlying51
instance : Fld Tryz.prog 51 0 0 49 4 := .k Tryz.underlying51
instance : Fld Tryz.prog 51 1 4 26 1 := .k Tryz.underlying51
instance : Und Tryz.prog 58 (.slice 123) := ⟨Tryz.underlying58⟩
instance : Inf Tryz.prog 58 (.slice none 0 0) 1 24 := .k
instance : Agg Tryz.prog 68 := .k Tryz.underlying68
instance : Inf Tryz.prog 68 (.agg #[(.pointer none), (.string ⟨#[]⟩)]) 2 24 := .k
instance : Str Tryz.prog 68 [(0, 1), (1, 1)] := .k Tryz.underlying68
instance : Agg Tryz.prog 69 := .k Tryz.underlying69
instance : Inf Tryz.prog 69 (.agg #[(.pointer none), (.string ⟨#[]⟩)]) 2 24 := .k
instance : Str Tryz.prog 69 [(0, 1), (1, 1)] := .k Tryz.underlying69
instance : Und Tryz.prog 74 (.pointer 218) := ⟨Tryz.underlying74⟩
instance : Inf Tryz.prog 74 (.pointer none) 1 8 := .k
instance : Und Tryz.prog 75 (.pointer 238) := ⟨Tryz.underlying75⟩
instance : Inf Tryz.prog 75 (.pointer none) 1 8 := .k
instance : Und Tryz.prog 80 (.slice 34) := ⟨Tryz.underlying80⟩
instance : Inf Tryz.prog 80 (.slice none 0 0) 1 24 := .k
instance : Und Tryz.prog 86 (.pointer 171) := ⟨Tryz.underlying86⟩
instance : Inf Tryz.prog 86 (.pointer none) 1 8 := .k
instance : Agg Tryz.prog 90 := .k Tryz.underlying90
instance : Inf Tryz.prog 90 (.agg #[(.int .i64 0), (.int .i64 0), (.int .i64 0), (.int .i64 0), (.int .i64 0), (.slice none 0 0), (.bool false)]) 7 72 := .k
instance : Str Tryz.prog 90 [(0, 1), (1, 5), (6, 1)] := .k Tryz.underlying90
instance : Agg Tryz.prog 91 := .k Tryz.underlying91
instance : Inf Tryz.prog 91 (.agg #[(.int .i64 0), (.int .i64 0), (.int .i64 0), (.int .i64 0), (.int .i64 0), (.slice none 0 0), (.bool false)]) 7 72 := .k
instance : Str Tryz.prog 91 [(0, 1), (1, 5), (6, 1)] := .k Tryz.underlying91
instance : Fld Tryz.prog 91 0 0 3 1 := .k Tryz.underlying91
instance : Fld Tryz.prog 91 1 1 51 5 := .k Tryz.underlying91
instance : Fld Tryz.prog 91 2 6 4 1 := .k Tryz.underlying91
instance : Agg Tryz.prog 93 := .k Tryz.underlying93
instance : Inf Tryz.prog 93 (.agg #[]) 0 0 := .k
instance : Str Tryz.prog 93 [] := .k Tryz.underlying93
instance : Agg Tryz.prog 94 := .k Tryz.underlying94
instance : Inf Tryz.prog 94 (.agg #[]) 0 0 := .k
instance : Str Tryz.prog 94 [] := .k Tryz.underlying94
instance : Agg Tryz.prog 95 := .k Tryz.underlying95
instance : Inf Tryz.prog 95 (.agg #[]) 0 0 := .k
instance : Str Tryz.prog 95 [] := .k Tryz.underlying95
instance : Agg Tryz.prog 96 := .k Tryz.underlying96
instance : Inf Tryz.prog 96 (.agg #[(.int .i64 0)]) 1 8 := .k
instance : Str Tryz.prog 96 [(0, 0), (0, 0), (0, 1)] := .k Tryz.underlying96
instance : Agg Tryz.prog 97 := .k Tryz.underlying97
instance : Inf Tryz.prog 97 (.agg #[(.int .i64 0)]) 1 8 := .k
instance : Str Tryz.prog 97 [(0, 0), (0, 0), (0, 1)] := .k Tryz.underlying97
instance : Fld Tryz.prog 97 2 0 2 1 := .k Tryz.underlying97
instance : Agg Tryz.prog 98 := .k Tryz.underlying98
instance : Inf Tryz.prog 98 (.agg #[(.pointer none), (.int .i64 0)]) 2 16 := .k
instance : Str Tryz.prog 98 [(0, 1), (1, 1)] := .k Tryz.underlying98
instance : Agg Tryz.prog 99 := .k Tryz.underlying99
instance : Inf Tryz.prog 99 (.agg #[(.pointer none), (.int .i64 0)]) 2 16 := .k
instance : Str Tryz.prog 99 [(0, 1), (1, 1)] := .k Tryz.underlying99
instance : Agg Tryz.prog 100 := .k Tryz.underlying100
instance : Inf Tryz.prog 100 (.agg #[(.int .i64 0), (.int .i64 0), (.int .i64 0), (.int .i64 0), (.int .i64 0), (.slice none 0 0)]) 6 64 := .k
instance : Str Tryz.prog 100 [(0, 1), (1, 5)] := .k Tryz.underlying100
instance : Agg Tryz.prog 101 := .k Tryz.underlying101
instance : Inf Tryz.prog 101 (.agg #[(.int .i64 0), (.int .i64 0), (.int .i64 0), (.int .i64 0), (.int .i64 0), (.slice none 0 0)]) 6 64 := .k
instance : Str Tryz.prog 101 [(0, 1), (1, 5)] := .k Tryz.underlying101
instance : Und Tryz.prog 110 (.slice 114) := ⟨Tryz.underlying110⟩
instance : Inf Tryz.prog 110 (.slice none 0 0) 1 24 := .k
instance : Agg Tryz.prog 113 := .k Tryz.underlying113
instance : Inf Tryz.prog 113 (.agg #[(.string ⟨#[]⟩), (.int .i64 0)]) 2 24 := .k
instance : Str Tryz.prog 113 [(0, 1), (1, 1)] := .k Tryz.underlying113
instance : Agg Tryz.prog 114 := .k Tryz.underlying114
instance : Inf Tryz.prog 114 (.agg #[(.string ⟨#[]⟩), (.int .i64 0)]) 2 24 := .k
instance : Str Tryz.prog 114 [(0, 1), (1, 1)] := .k Tryz.underlying114
instance : Und Tryz.prog 117 (.map 3 51) := ⟨Tryz.underlying117⟩
instance : Inf Tryz.prog 117 (.map none) 1 8 := .k
instance : Und Tryz.prog 118 (.map 3 4) := ⟨Tryz.underlying118⟩
instance : Inf Tryz.prog 118 (.map none) 1 8 := .k
instance : Agg Tryz.prog 119 := .k Tryz.underlying119
instance : Inf Tryz.prog 119 (.agg #[(.pointer none), (.int .i64 0), (.bool false), (.map none), (.map none)]) 5 40 := .k
instance : Str Tryz.prog 119 [(0, 1), (1, 1), (2, 1), (3, 1), (4, 1)] := .k Tryz.underlying119
instance : Agg Tryz.prog 120 := .k Tryz.underlying120
instance : Inf Tryz.prog 120 (.agg #[(.pointer none), (.int .i64 0), (.bool false), (.map none), (.map none)]) 5 40 := .k
instance : Str Tryz.prog 120 [(0, 1), (1, 1), (2, 1), (3, 1), (4, 1)] := .k Tryz.underlying120
instance : Agg Tryz.prog 122 := .k Tryz.underlying122
instance : Inf Tryz.prog 122 (.agg #[(.slice none 0 0), (.int .i64 0), (.int .i64 0), (.int .i64 0), (.int .i64 0), (.slice none 0 0)]) 6 80 := .k
instance : Str Tryz.prog 122 [(0, 1), (1, 5)] := .k Tryz.underlying122
instance : Agg Tryz.prog 123 := .k Tryz.underlying123
instance : Inf Tryz.prog 123 (.agg #[(.slice none 0 0), (.int .i64 0), (.int .i64 0), (.int .i64 0), (.int .i64 0), (.slice none 0 0)]) 6 80 := .k
instance : Str Tryz.prog 123 [(0, 1), (1, 5)] := .k Tryz.underlying123
instance : Und Tryz.prog 141 (.slice 91) := ⟨Tryz.underlying141⟩
instance : Inf Tryz.prog 141 (.slice none 0 0) 1 24 := .k
instance : Und Tryz.prog 151 (.pointer 230) := ⟨Tryz.underlying151⟩
instance : Inf Tryz.prog 151 (.pointer none) 1 8 := .k
instance : Und Tryz.prog 158 (.pointer 160) := ⟨Tryz.underlying158⟩
instance : Inf Tryz.prog 158 (.pointer none) 1 8 := .k
instance : Agg Tryz.prog 159 := .k Tryz.underlying159
instance : Inf Tryz.prog 159 (.agg #[(.slice none 0 0), (.bool false)]) 2 32 := .k
instance : Str Tryz.prog 159 [(0, 1), (1, 1)] := .k Tryz.underlying159
instance : Agg Tryz.prog 160 := .k Tryz.underlying160
instance : Inf Tryz.prog 160 (.agg #[(.slice none 0 0), (.bool false)]) 2 32 := .k
instance : Str Tryz.prog 160 [(0, 1), (1, 1)] := .k Tryz.underlying160
instance : Und Tryz.prog 165 (.slice 3) := ⟨Tryz.underlying165⟩
instance : Inf Tryz.prog 165 (.slice none 0 0) 1 24 := .k
instance : Agg Tryz.prog 166 := .k Tryz.underlying166
instance : Inf Tryz.prog 166 (.agg #[(.int .i64 0), (.int .i64 0), (.int .i64 0), (.int .i64 0), (.slice none 0 0), (.slice none 0 0)]) 6 80 := .k
instance : Str Tryz.prog 166 [(0, 5), (5, 1)] := .k Tryz.underlying166
instance : Agg Tryz.prog 167 := .k Tryz.underlying167
instance : Inf Tryz.prog 167 (.agg #[(.int .i64 0), (.int .i64 0), (.int .i64 0), (.int .i64 0), (.slice none 0 0), (.slice none 0 0)]) 6 80 := .k
instance : Str Tryz.prog 167 [(0, 5), (5, 1)] := .k Tryz.underlying167
instance : Fld Tryz.prog 167 0 0 51 5 := .k Tryz.underlying167
instance : Fld Tryz.prog 167 1 5 165 1 := .k Tryz.underlying167
instance : Und Tryz.prog 169 (.map 3 167) := ⟨Tryz.underlying169⟩
instance : Inf Tryz.prog 169 (.map none) 1 8 := .k
instance : Agg Tryz.prog 170 := .k Tryz.underlying170
instance : Inf Tryz.prog 170 (.agg #[(.pointer none), (.int .i64 0), (.map none)]) 3 24 := .k
instance : Str Tryz.prog 170 [(0, 1), (1, 1), (2, 1)] := .k Tryz.underlying170
instance : Agg Tryz.prog 171 := .k Tryz.underlying171
instance : Inf Tryz.prog 171 (.agg #[(.pointer none), (.int .i64 0), (.map none)]) 3 24 := .k
instance : Str Tryz.prog 171 [(0, 1), (1, 1), (2, 1)] := .k Tryz.underlying171
instance : Fld Tryz.prog 171 0 0 151 1 := .k Tryz.underlying171
instance : Fld Tryz.prog 171 1 1 3 1 := .k Tryz.underlying171
instance : Fld Tryz.prog 171 2 2 169 1 := .k Tryz.underlying171
instance : Und Tryz.prog 176 (.slice 178) := ⟨Tryz.underlying176⟩
instance : Inf Tryz.prog 176 (.slice none 0 0) 1 24 := .k
instance : Agg Tryz.prog 177 := .k Tryz.underlying177
instance : Inf Tryz.prog 177 (.agg #[(.int .i64 0), (.slice none 0 0)]) 2 32 := .k
instance : Str Tryz.prog 177 [(0, 1), (1, 1)] := .k Tryz.underlying177
instance : Agg Tryz.prog 178 := .k Tryz.underlying178
instance : Inf Tryz.prog 178 (.agg #[(.int .i64 0), (.slice none 0 0)]) 2 32 := .k
instance : Str Tryz.prog 178 [(0, 1), (1, 1)] := .k Tryz.underlying178
instance : Fld Tryz.prog 178 0 0 3 1 := .k Tryz.underlying178
instance : Fld Tryz.prog 178 1 1 26 1 := .k Tryz.underlying178
instance : Und Tryz.prog 197 (.pointer 97) := ⟨Tryz.underlying197⟩
instance : Inf Tryz.prog 197 (.pointer none) 1 8 := .k
instance : Und Tryz.prog 199 (.pointer 2) := ⟨Tryz.underlying199⟩
instance : Inf Tryz.prog 199 (.pointer none) 1 8 := .k
instance : Und Tryz.prog 208 (.pointer 212) := ⟨Tryz.underlying208⟩
instance : Inf Tryz.prog 208 (.pointer none) 1 8 := .k
instance : Agg Tryz.prog 209 := .k Tryz.underlying209
instance : Inf Tryz.prog 209 (.agg #[(.slice none 0 0), (.int .i64 0)]) 2 32 := .k
instance : Str Tryz.prog 209 [(0, 1), (1, 1)] := .k Tryz.underlying209
instance : Agg Tryz.prog 210 := .k Tryz.underlying210
instance : Inf Tryz.prog 210 (.agg #[(.slice none 0 0), (.int .i64 0)]) 2 32 := .k
instance : Str Tryz.prog 210 [(0, 1), (1, 1)] := .k Tryz.underlying210
instance : Agg Tryz.prog 211 := .k Tryz.underlying211
instance : Inf Tryz.prog 211 (.agg #[(.slice none 0 0), (.int .i64 0), (.int .i64 0)]) 3 40 := .k
instance : Str Tryz.prog 211 [(0, 2), (2, 1)] := .k Tryz.underlying211
instance : Agg Tryz.prog 212 := .k Tryz.underlying212
instance : Inf Tryz.prog 212 (.agg #[(.slice none 0 0), (.int .i64 0), (.int .i64 0)]) 3 40 := .k
instance : Str Tryz.prog 212 [(0, 2), (2, 1)] := .k Tryz.underlying212
instance : Und Tryz.prog 213 (.slice 298) := ⟨Tryz.underlying213⟩
instance : Inf Tryz.prog 213 (.slice none 0 0) 1 24 := .k
instance : Agg Tryz.prog 214 := .k Tryz.underlying214
instance : Inf Tryz.prog 214 (.agg #[(.bool false), (.bool false), (.int .i64 0)]) 3 16 := .k
instance : Str Tryz.prog 214 [(0, 1), (1, 1), (2, 1)] := .k Tryz.underlying214
instance : Agg Tryz.prog 215 := .k Tryz.underlying215
instance : Inf Tryz.prog 215 (.agg #[(.bool false), (.bool false), (.int .i64 0)]) 3 16 := .k
instance : Str Tryz.prog 215 [(0, 1), (1, 1), (2, 1)] := .k Tryz.underlying215
instance : Fld Tryz.prog 215 0 0 4 1 := .k Tryz.underlying215
instance : Fld Tryz.prog 215 1 1 4 1 := .k Tryz.underlying215
instance : Fld Tryz.prog 215 2 2 3 1 := .k Tryz.underlying215
instance : Und Tryz.prog 216 (.slice 300) := ⟨Tryz.underlying216⟩
instance : Inf Tryz.prog 216 (.slice none 0 0) 1 24 := .k
instance : Agg Tryz.prog 217 := .k Tryz.underlying217
instance : Inf Tryz.prog 217 (.agg #[(.bool false), (.bool false), (.int .i64 0), (.slice none 0 0), (.slice none 0 0), (.int .i64 0), (.int .i64 0)]) 7 80 := .k
instance : Str Tryz.prog 217 [(0, 3), (3, 1), (4, 1), (5, 1), (6, 1)] := .k Tryz.underlying217
instance : Agg Tryz.prog 218 := .k Tryz.underlying218
instance : Inf Tryz.prog 218 (.agg #[(.bool false), (.bool false), (.int .i64 0), (.slice none 0 0), (.slice none 0 0), (.int .i64 0), (.int .i64 0)]) 7 80 := .k
instance : Str Tryz.prog 218 [(0, 3), (3, 1), (4, 1), (5, 1), (6, 1)] := .k Tryz.underlying218
instance : Fld Tryz.prog 218 0 0 215 3 := .k Tryz.underlying218
instance : Fld Tryz.prog 218 1 3 213 1 := .k Tryz.underlying218
instance : Fld Tryz.prog 218 2 4 216 1 := .k Tryz.underlying218
instance : Fld Tryz.prog 218 3 5 97 1 := .k Tryz.underlying218
instance : Fld Tryz.prog 218 4 6 97 1 := .k Tryz.underlying218
instance : Agg Tryz.prog 219 := .k Tryz.underlying219
instance : Inf Tryz.prog 219 (.agg #[]) 0 0 := .k
instance : Str Tryz.prog 219 [] := .k Tryz.underlying219
instance : Und Tryz.prog 220 (.int .u32) := ⟨Tryz.underlying220⟩
instance : Inf Tryz.prog 220 (.int .u32 0) 1 4 := .k
instance : Agg Tryz.prog 221 := .k Tryz.underlying221
instance : Inf Tryz.prog 221 (.agg #[(.int .u32 0)]) 1 4 := .k
instance : Str Tryz.prog 221 [(0, 0), (0, 1)] := .k Tryz.underlying221
instance : Agg Tryz.prog 222 := .k Tryz.underlying222
instance : Inf Tryz.prog 222 (.agg #[(.int .u32 0)]) 1 4 := .k
instance : Str Tryz.prog 222 [(0, 0), (0, 1)] := .k Tryz.underlying222
instance : Fld Tryz.prog 222 1 0 220 1 := .k Tryz.underlying222
instance : Agg Tryz.prog 223 := .k Tryz.underlying223
instance : Inf Tryz.prog 223 (.agg #[(.int .i32 0), (.int .u32 0)]) 2 8 := .k
instance : Str Tryz.prog 223 [(0, 1), (1, 1)] := .k Tryz.underlying223
instance : Agg Tryz.prog 224 := .k Tryz.underlying224
instance : Inf Tryz.prog 224 (.agg #[(.int .i32 0), (.int .u32 0)]) 2 8 := .k
instance : Str Tryz.prog 224 [(0, 1), (1, 1)] := .k Tryz.underlying224
instance : Fld Tryz.prog 224 0 0 21 1 := .k Tryz.underlying224
instance : Agg Tryz.prog 225 := .k Tryz.underlying225
instance : Inf Tryz.prog 225 (.agg #[(.int .i32 0), (.int .u32 0)]) 2 8 := .k
instance : Str Tryz.prog 225 [(0, 0), (0, 2)] := .k Tryz.underlying225
instance : Agg Tryz.prog 226 := .k Tryz.underlying226
instance : Inf Tryz.prog 226 (.agg #[(.int .i32 0), (.int .u32 0)]) 2 8 := .k
instance : Str Tryz.prog 226 [(0, 0), (0, 2)] := .k Tryz.underlying226
instance : Fld Tryz.prog 226 1 0 224 2 := .k Tryz.underlying226
instance : Agg Tryz.prog 227 := .k Tryz.underlying227
instance : Inf Tryz.prog 227 (.agg #[(.int .u32 0), (.int .i32 0), (.int .u32 0)]) 3 12 := .k
instance : Str Tryz.prog 227 [(0, 0), (0, 1), (1, 2)] := .k Tryz.underlying227
instance : Agg Tryz.prog 228 := .k Tryz.underlying228
instance : Inf Tryz.prog 228 (.agg #[(.int .u32 0), (.int .i32 0), (.int .u32 0)]) 3 12 := .k
instance : Str Tryz.prog 228 [(0, 0), (0, 1), (1, 2)] := .k Tryz.underlying228
instance : Fld Tryz.prog 228 1 0 222 1 := .k Tryz.underlying228
instance : Fld Tryz.prog 228 2 1 226 2 := .k Tryz.underlying228
instance : Agg Tryz.prog 229 := .k Tryz.underlying229
instance : Inf Tryz.prog 229 (.agg #[(.pointer none), (.int .u32 0), (.int .i32 0), (.int .u32 0), (.int .i64 0), (.int .i64 0), (.bool false)]) 7 48 := .k
instance : Str Tryz.prog 229 [(0, 1), (1, 3), (4, 1), (5, 1), (6, 1)] := .k Tryz.underlying229
instance : Agg Tryz.prog 230 := .k Tryz.underlying230
instance : Inf Tryz.prog 230 (.agg #[(.pointer none), (.int .u32 0), (.int .i32 0), (.int .u32 0), (.int .i64 0), (.int .i64 0), (.bool false)]) 7 48 := .k
instance : Str Tryz.prog 230 [(0, 1), (1, 3), (4, 1), (5, 1), (6, 1)] := .k Tryz.underlying230
instance : Fld Tryz.prog 230 0 0 74 1 := .k Tryz.underlying230
instance : Fld Tryz.prog 230 1 1 228 3 := .k Tryz.underlying230
instance : Fld Tryz.prog 230 2 4 3 1 := .k Tryz.underlying230
instance : Fld Tryz.prog 230 3 5 3 1 := .k Tryz.underlying230
instance : Fld Tryz.prog 230 4 6 4 1 := .k Tryz.underlying230
instance : Agg Tryz.prog 235 := .k Tryz.underlying235
instance : Inf Tryz.prog 235 (.agg #[(.int .i64 0), (.int .i64 0), (.int .i64 0), (.int .i64 0)]) 4 32 := .k
instance : Str Tryz.prog 235 [(0, 1), (1, 1), (2, 1), (3, 1)] := .k Tryz.underlying235
instance : Und Tryz.prog 236 (.slice 408) := ⟨Tryz.underlying236⟩
instance : Inf Tryz.prog 236 (.slice none 0 0) 1 24 := .k
instance : Agg Tryz.prog 237 := .k Tryz.underlying237
instance : Inf Tryz.prog 237 (.agg #[(.int .i64 0), (.int .i64 0), (.int .i64 0), (.int .i64 0), (.slice none 0 0), (.int .i64 0)]) 6 64 := .k
instance : Str Tryz.prog 237 [(0, 4), (4, 1), (5, 1)] := .k Tryz.underlying237
instance : Agg Tryz.prog 238 := .k Tryz.underlying238
instance : Inf Tryz.prog 238 (.agg #[(.int .i64 0), (.int .i64 0), (.int .i64 0), (.int .i64 0), (.slice none 0 0), (.int .i64 0)]) 6 64 := .k
instance : Str Tryz.prog 238 [(0, 4), (4, 1), (5, 1)] := .k Tryz.underlying238
instance : Und Tryz.prog 249 (.pointer 251) := ⟨Tryz.underlying249⟩
instance : Inf Tryz.prog 249 (.pointer none) 1 8 := .k
instance : Agg Tryz.prog 250 := .k Tryz.underlying250
instance : Inf Tryz.prog 250 (.agg #[(.pointer none), (.int .i64 0)]) 2 16 := .k
instance : Str Tryz.prog 250 [(0, 1), (1, 1)] := .k Tryz.underlying250
instance : Agg Tryz.prog 251 := .k Tryz.underlying251
instance : Inf Tryz.prog 251 (.agg #[(.pointer none), (.int .i64 0)]) 2 16 := .k
instance : Str Tryz.prog 251 [(0, 1), (1, 1)] := .k Tryz.underlying251
instance : Fld Tryz.prog 251 0 0 74 1 := .k Tryz.underlying251
instance : Fld Tryz.prog 251 1 1 23 1 := .k Tryz.underlying251
instance : Und Tryz.prog 252 (.array 32 5) := ⟨Tryz.underlying252⟩
instance : Inf Tryz.prog 252 (.agg (List.replicate 32 (.int .u8 0)).toArray) 32 32 := .k
instance : Und Tryz.prog 263 (.int .u64) := ⟨Tryz.underlying263⟩
instance : Inf Tryz.prog 263 (.int .u64 0) 1 8 := .k
instance : Und Tryz.prog 270 (.pointer 228) := ⟨Tryz.underlying270⟩
instance : Inf Tryz.prog 270 (.pointer none) 1 8 := .k
instance : Und Tryz.prog 276 (.slice 26) := ⟨Tryz.underlying276⟩
instance : Inf Tryz.prog 276 (.slice none 0 0) 1 24 := .k
instance : Und Tryz.prog 278 (.int .u64) := ⟨Tryz.underlying278⟩
instance : Inf Tryz.prog 278 (.int .u64 0) 1 8 := .k
instance : Und Tryz.prog 284 (.pointer 210) := ⟨Tryz.underlying284⟩
instance : Inf Tryz.prog 284 (.pointer none) 1 8 := .k
instance : One Tryz.prog 286 := ⟨fun w => run_isAgg Tryz.underlying286 w⟩
instance : Inf Tryz.prog 286 .nilIface 1 16 := .k
instance : One Tryz.prog 287 := ⟨fun w => run_isAgg Tryz.underlying287 w⟩
instance : Inf Tryz.prog 287 .nilIface 1 16 := .k
instance : Und Tryz.prog 290 (.pointer 222) := ⟨Tryz.underlying290⟩
instance : Inf Tryz.prog 290 (.pointer none) 1 8 := .k
instance : Und Tryz.prog 292 (.pointer 220) := ⟨Tryz.underlying292⟩
instance : Inf Tryz.prog 292 (.pointer none) 1 8 := .k
instance : Und Tryz.prog 297 (.array 64 5) := ⟨Tryz.underlying297⟩
instance : Inf Tryz.prog 297 (.agg (List.replicate 64 (.int .u8 0)).toArray) 64 64 := .k
instance : Und Tryz.prog 298 (.array 64 5) := ⟨Tryz.underlying298⟩
instance : Inf Tryz.prog 298 (.agg (List.replicate 64 (.int .u8 0)).toArray) 64 64 := .k
instance : Agg Tryz.prog 300 := .k Tryz.underlying300
instance : Inf Tryz.prog 300 (.agg ((.int .i64 0) :: (List.replicate 64 (.int .u8 0))).toArray) 65 72 := .k
instance : Str Tryz.prog 300 [(0, 1), (1, 64)] := .k Tryz.underlying300
instance : Fld Tryz.prog 300 0 0 3 1 := .k Tryz.underlying300
instance : Fld Tryz.prog 300 1 1 298 64 := .k Tryz.underlying300
instance : Und Tryz.prog 304 (.pointer 308) := ⟨Tryz.underlying304⟩
instance : Inf Tryz.prog 304 (.pointer none) 1 8 := .k
instance : Und Tryz.prog 305 (.array 8 220) := ⟨Tryz.underlying305⟩
instance : Inf Tryz.prog 305 (.agg #[(.int .u32 0), (.int .u32 0), (.int .u32 0), (.int .u32 0), (.int .u32 0), (.int .u32 0), (.int .u32 0), (.int .u32 0)]) 8 32 := .k
instance : Und Tryz.prog 306 (.array 8 220) := ⟨Tryz.underlying306⟩
instance : Inf Tryz.prog 306 (.agg #[(.int .u32 0), (.int .u32 0), (.int .u32 0), (.int .u32 0), (.int .u32 0), (.int .u32 0), (.int .u32 0), (.int .u32 0)]) 8 32 := .k
instance : Agg Tryz.prog 308 := .k Tryz.underlying308
instance : Inf Tryz.prog 308 (.agg ((.int .u32 0) :: (.int .u32 0) :: (.int .u32 0) :: (.int .u32 0) :: (.int .u32 0) :: (.int .u32 0) :: (.int .u32 0) :: (.int .u32 0) :: (List.replicate 64 (.int .u8 0) ++ ([(.int .i64 0)]))).toArray) 73 104 := .k
instance : Str Tryz.prog 308 [(0, 8), (8, 64), (72, 1)] := .k Tryz.underlying308
instance : Fld Tryz.prog 308 0 0 306 8 := .k Tryz.underlying308
instance : Fld Tryz.prog 308 1 8 297 64 := .k Tryz.underlying308
instance : Fld Tryz.prog 308 2 72 3 1 := .k Tryz.underlying308
instance : Und Tryz.prog 309 (.array 4 5) := ⟨Tryz.underlying309⟩
instance : Inf Tryz.prog 309 (.agg #[(.int .u8 0), (.int .u8 0), (.int .u8 0), (.int .u8 0)]) 4 4 := .k
instance : Und Tryz.prog 324 (.pointer 226) := ⟨Tryz.underlying324⟩
instance : Inf Tryz.prog 324 (.pointer none) 1 8 := .k
instance : Und Tryz.prog 329 (.array 24 5) := ⟨Tryz.underlying329⟩
instance : Inf Tryz.prog 329 (.agg (List.replicate 24 (.int .u8 0)).toArray) 24 24 := .k
instance : Und Tryz.prog 334 (.pointer 215) := ⟨Tryz.underlying334⟩
instance : Inf Tryz.prog 334 (.pointer none) 1 8 := .k
instance : Und Tryz.prog 336 (.int .i64) := ⟨Tryz.underlying336⟩
instance : Inf Tryz.prog 336 (.int .i64 0) 1 8 := .k
instance : Und Tryz.prog 343 (.int .i64) := ⟨Tryz.underlying343⟩
instance : Inf Tryz.prog 343 (.int .i64 0) 1 8 := .k
instance : Und Tryz.prog 346 (.pointer 377) := ⟨Tryz.underlying346⟩
instance : Inf Tryz.prog 346 (.pointer none) 1 8 := .k
instance : Und Tryz.prog 349 (.pointer 224) := ⟨Tryz.underlying349⟩
instance : Inf Tryz.prog 349 (.pointer none) 1 8 := .k
instance : Und Tryz.prog 351 (.pointer 21) := ⟨Tryz.underlying351⟩
instance : Inf Tryz.prog 351 (.pointer none) 1 8 := .k
instance : Und Tryz.prog 357 (.pointer 306) := ⟨Tryz.underlying357⟩
instance : Inf Tryz.prog 357 (.pointer none) 1 8 := .k
instance : Und Tryz.prog 359 (.array 20 278) := ⟨Tryz.underlying359⟩
instance : Inf Tryz.prog 359 (.agg (List.replicate 20 (.int .u64 0)).toArray) 20 160 := .k
instance : Und Tryz.prog 361 (.int .u64) := ⟨Tryz.underlying361⟩
instance : Inf Tryz.prog 361 (.int .u64 0) 1 8 := .k
instance : Und Tryz.prog 365 (.pointer 3) := ⟨Tryz.underlying365⟩
instance : Inf Tryz.prog 365 (.pointer none) 1 8 := .k
instance : Agg Tryz.prog 368 := .k Tryz.underlying368
instance : Inf Tryz.prog 368 (.agg #[(.int .u8 0), (.int .u8 0)]) 2 2 := .k
instance : Str Tryz.prog 368 [(0, 1), (1, 1)] := .k Tryz.underlying368
instance : Agg Tryz.prog 369 := .k Tryz.underlying369
instance : Inf Tryz.prog 369 (.agg #[(.int .u8 0), (.int .u8 0)]) 2 2 := .k
instance : Str Tryz.prog 369 [(0, 1), (1, 1)] := .k Tryz.underlying369
instance : Und Tryz.prog 370 (.array 16 369) := ⟨Tryz.underlying370⟩
instance : Inf Tryz.prog 370 (.agg (List.replicate 32 (.int .u8 0)).toArray) 32 32 := .k
instance : Agg Tryz.prog 376 := .k Tryz.underlying376
instance : Inf Tryz.prog 376 (.agg #[(.string ⟨#[]⟩), (.string ⟨#[]⟩), .nilIface]) 3 48 := .k
instance : Str Tryz.prog 376 [(0, 1), (1, 1), (2, 1)] := .k Tryz.underlying376
instance : Agg Tryz.prog 377 := .k Tryz.underlying377
instance : Inf Tryz.prog 377 (.agg #[(.string ⟨#[]⟩), (.string ⟨#[]⟩), .nilIface]) 3 48 := .k
instance : Str Tryz.prog 377 [(0, 1), (1, 1), (2, 1)] := .k Tryz.underlying377
instance : Und Tryz.prog 381 (.array 64 220) := ⟨Tryz.underlying381⟩
instance : Inf Tryz.prog 381 (.agg (List.replicate 64 (.int .u32 0)).toArray) 64 256 := .k
instance : Und Tryz.prog 385 (.pointer 361) := ⟨Tryz.underlying385⟩
instance : Inf Tryz.prog 385 (.pointer none) 1 8 := .k
instance : Und Tryz.prog 389 (.pointer 5) := ⟨Tryz.underlying389⟩
instance : Inf Tryz.prog 389 (.pointer none) 1 8 := .k
instance : Und Tryz.prog 390 (.pointer 392) := ⟨Tryz.underlying390⟩
instance : Inf Tryz.prog 390 (.pointer none) 1 8 := .k
instance : Agg Tryz.prog 391 := .k Tryz.underlying391
instance : Inf Tryz.prog 391 (.agg #[(.string ⟨#[]⟩)]) 1 16 := .k
instance : Str Tryz.prog 391 [(0, 1)] := .k Tryz.underlying391
instance : Agg Tryz.prog 392 := .k Tryz.underlying392
instance : Inf Tryz.prog 392 (.agg #[(.string ⟨#[]⟩)]) 1 16 := .k
instance : Str Tryz.prog 392 [(0, 1)] := .k Tryz.underlying392
instance : Agg Tryz.prog 394 := .k Tryz.underlying394
instance : Inf Tryz.prog 394 (.agg #[(.pointer none), (.pointer none), (.pointer none), (.string ⟨#[]⟩)]) 4 40 := .k
instance : Str Tryz.prog 394 [(0, 1), (1, 1), (2, 1), (3, 1)] := .k Tryz.underlying394
instance : Agg Tryz.prog 395 := .k Tryz.underlying395
instance : Inf Tryz.prog 395 (.agg #[(.pointer none), (.pointer none), (.pointer none), (.string ⟨#[]⟩)]) 4 40 := .k
instance : Str Tryz.prog 395 [(0, 1), (1, 1), (2, 1), (3, 1)] := .k Tryz.underlying395
instance : Und Tryz.prog 396 (.array 0 16) := ⟨Tryz.underlying396⟩
instance : Inf Tryz.prog 396 (.agg #[]) 0 0 := .k
instance : Agg Tryz.prog 397 := .k Tryz.underlying397
instance : Inf Tryz.prog 397 (.agg #[]) 0 0 := .k
instance : Str Tryz.prog 397 [(0, 0)] := .k Tryz.underlying397
instance : Agg Tryz.prog 398 := .k Tryz.underlying398
instance : Inf Tryz.prog 398 (.agg #[]) 0 0 := .k
instance : Str Tryz.prog 398 [(0, 0)] := .k Tryz.underlying398
instance : Und Tryz.prog 399 (.int .u8) := ⟨Tryz.underlying399⟩
instance : Inf Tryz.prog 399 (.int .u8 0) 1 1 := .k
instance : Und Tryz.prog 400 (.int .u8) := ⟨Tryz.underlying400⟩
instance : Inf Tryz.prog 400 (.int .u8 0) 1 1 := .k
instance : Und Tryz.prog 402 (.int .i32) := ⟨Tryz.underlying402⟩
instance : Inf Tryz.prog 402 (.int .i32 0) 1 4 := .k
instance : Und Tryz.prog 403 (.int .i32) := ⟨Tryz.underlying403⟩
instance : Inf Tryz.prog 403 (.int .i32 0) 1 4 := .k
instance : Agg Tryz.prog 404 := .k Tryz.underlying404
instance : Inf Tryz.prog 404 (.agg #[(.int .u64 0), (.int .u64 0), (.int .u32 0), (.int .u8 0), (.int .u8 0), (.int .u8 0), (.int .u8 0), .nilFunc, (.pointer none), (.int .i32 0), (.int .i32 0)]) 11 48 := .k
instance : Str Tryz.prog 404 [(0, 1), (1, 1), (2, 1), (3, 1), (4, 1), (5, 1), (6, 1), (7, 1), (8, 1), (9, 1), (10, 1)] := .k Tryz.underlying404
instance : Agg Tryz.prog 405 := .k Tryz.underlying405
instance : Inf Tryz.prog 405 (.agg #[(.int .u64 0), (.int .u64 0), (.int .u32 0), (.int .u8 0), (.int .u8 0), (.int .u8 0), (.int .u8 0), .nilFunc, (.pointer none), (.int .i32 0), (.int .i32 0)]) 11 48 := .k
instance : Str Tryz.prog 405 [(0, 1), (1, 1), (2, 1), (3, 1), (4, 1), (5, 1), (6, 1), (7, 1), (8, 1), (9, 1), (10, 1)] := .k Tryz.underlying405
instance : Agg Tryz.prog 407 := .k Tryz.underlying407
instance : Inf Tryz.prog 407 (.agg #[(.slice none 0 0), (.int .i64 0), (.int .i64 0), (.int .i64 0), (.int .i64 0), (.slice none 0 0), (.int .i64 0)]) 7 88 := .k
instance : Str Tryz.prog 407 [(0, 1), (1, 4), (5, 1), (6, 1)] := .k Tryz.underlying407
instance : Agg Tryz.prog 408 := .k Tryz.underlying408
instance : Inf Tryz.prog 408 (.agg #[(.slice none 0 0), (.int .i64 0), (.int .i64 0), (.int .i64 0), (.int .i64 0), (.slice none 0 0), (.int .i64 0)]) 7 88 := .k
instance : Str Tryz.prog 408 [(0, 1), (1, 4), (5, 1), (6, 1)] := .k Tryz.underlying408
instance : Fun Tryz.prog 5 := .k Tryz.func5
instance : Fun Tryz.prog 6 := .k Tryz.func6
instance : Fun Tryz.prog 8 := .k Tryz.func8
instance : Fun Tryz.prog 10 := .k Tryz.func10
instance : Fun Tryz.prog 11 := .k Tryz.func11
instance : Fun Tryz.prog 12 := .k Tryz.func12
instance : Fun Tryz.prog 15 := .k Tryz.func15
instance : Fun Tryz.prog 16 := .k Tryz.func16
instance : Fun Tryz.prog 17 := .k Tryz.func17
instance : Fun Tryz.prog 18 := .k Tryz.func18
instance : Fun Tryz.prog 19 := .k Tryz.func19
instance : Fun Tryz.prog 20 := .k Tryz.func20
instance : Fun Tryz.prog 21 := .k Tryz.func21
instance : Fun Tryz.prog 22 := .k Tryz.func22
instance : Fun Tryz.prog 23 := .k Tryz.func23
instance : Fun Tryz.prog 24 := .k Tryz.func24
instance : Fun Tryz.prog 25 := .k Tryz.func25
instance : Fun Tryz.prog 26 := .k Tryz.func26
instance : Fun Tryz.prog 27 := .k Tryz.func27
instance : Fun Tryz.prog 28 := .k Tryz.func28
instance : Fun Tryz.prog 29 := .k Tryz.func29
instance : Fun Tryz.prog 30 := .k Tryz.func30
instance : Fun Tryz.prog 31 := .k Tryz.func31
instance : Fun Tryz.prog 32 := .k Tryz.func32
instance : Fun Tryz.prog 34 := .k Tryz.func34
instance : Fun Tryz.prog 35 := .k Tryz.func35
instance : Fun Tryz.prog 36 := .k Tryz.func36
instance : Fun Tryz.prog 37 := .k Tryz.func37
instance : Fun Tryz.prog 38 := .k Tryz.func38
instance : Fun Tryz.prog 39 := .k Tryz.func39
instance : Fun Tryz.prog 41 := .k Tryz.func41
instance : Fun Tryz.prog 42 := .k Tryz.func42
instance : Fun Tryz.prog 43 := .k Tryz.func43
instance : Fun Tryz.prog 44 := .k Tryz.func44
instance : Fun Tryz.prog 45 := .k Tryz.func45
instance : Fun Tryz.prog 46 := .k Tryz.func46
instance : Fun Tryz.prog 47 := .k Tryz.func47
instance : Fun Tryz.prog 48 := .k Tryz.func48
instance : Fun Tryz.prog 49 := .k Tryz.func49
instance : Fun Tryz.prog 50 := .k Tryz.func50
instance : Fun Tryz.prog 51 := .k Tryz.func51
instance : Fun Tryz.prog 52 := .k Tryz.func52
instance : Fun Tryz.prog 53 := .k Tryz.func53
instance : Fun Tryz.prog 54 := .k Tryz.func54
instance : Fun Tryz.prog 55 := .k Tryz.func55
instance : Fun Tryz.prog 57 := .k Tryz.func57
instance : Fun Tryz.prog 58 := .k Tryz.func58
instance : Fun Tryz.prog 59 := .k Tryz.func59
instance : Fun Tryz.prog 60 := .k Tryz.func60
instance : Fun Tryz.prog 61 := .k Tryz.func61
instance : Fun Tryz.prog 62 := .k Tryz.func62
instance : Fun Tryz.prog 63 := .k Tryz.func63
instance : Fun Tryz.prog 64 := .k Tryz.func64
instance : Fun Tryz.prog 70 := .k Tryz.func70
instance : Fun Tryz.prog 72 := .k Tryz.func72
instance : Fun Tryz.prog 74 := .k Tryz.func74
instance : Fun Tryz.prog 75 := .k Tryz.func75
instance : Fun Tryz.prog 76 := .k Tryz.func76
instance : Fun Tryz.prog 77 := .k Tryz.func77
instance : Fun Tryz.prog 78 := .k Tryz.func78
instance : Fun Tryz.prog 79 := .k Tryz.func79
instance : Fun Tryz.prog 80 := .k Tryz.func80
instance : Fun Tryz.prog 81 := .k Tryz.func81
instance : Fun Tryz.prog 82 := .k Tryz.func82
instance : Fun Tryz.prog 83 := .k Tryz.func83
instance : Fun Tryz.prog 84 := .k Tryz.func84
instance : Fun Tryz.prog 85 := .k Tryz.func85
instance : Fun Tryz.prog 87 := .k Tryz.func87
instance : Fun Tryz.prog 88 := .k Tryz.func88
instance : Fun Tryz.prog 89 := .k Tryz.func89
instance : Fun Tryz.prog 90 := .k Tryz.func90
instance : Fun Tryz.prog 91 := .k Tryz.func91
instance : Fun Tryz.prog 92 := .k Tryz.func92
instance : Fun Tryz.prog 93 := .k Tryz.func93
instance : Fun Tryz.prog 94 := .k Tryz.func94
instance : Fun Tryz.prog 95 := .k Tryz.func95
instance : Fun Tryz.prog 96 := .k Tryz.func96
instance : Fun Tryz.prog 97 := .k Tryz.func97
instance : Fun Tryz.prog 98 := .k Tryz.func98
instance : Fun Tryz.prog 99 := .k Tryz.func99
instance : Fun Tryz.prog 100 := .k Tryz.func100
instance : Fun Tryz.prog 101 := .k Tryz.func101
instance : Fun Tryz.prog 102 := .k Tryz.func102
instance : Fun Tryz.prog 103 := .k Tryz.func103
instance : Fun Tryz.prog 104 := .k Tryz.func104
instance : Fun Tryz.prog 105 := .k Tryz.func105
instance : Fun Tryz.prog 106 := .k Tryz.func106
instance : Fun Tryz.prog 107 := .k Tryz.func107
instance : Fun Tryz.prog 108 := .k Tryz.func108
instance : ELoad Tryz.prog 109 .i64 := ⟨fun hc => run_call_load Tryz.func109 (by kernel_rfl) (by kernel_rfl) (by kernel_rfl) .i64 (by kernel_rfl) hc⟩
instance : Fun Tryz.prog 110 := .k Tryz.func110
instance : Fun Tryz.prog 111 := .k Tryz.func111
instance : Fun Tryz.prog 112 := .k Tryz.func112
instance : Fun Tryz.prog 113 := .k Tryz.func113
instance : Fun Tryz.prog 114 := .k Tryz.func114
instance : Fun Tryz.prog 115 := .k Tryz.func115
instance : Fun Tryz.prog 116 := .k Tryz.func116
instance : Fun Tryz.prog 117 := .k Tryz.func117
instance : EAdd Tryz.prog 121 .i64 := ⟨fun hc hz hs => run_call_add Tryz.func121 (by kernel_rfl) (by kernel_rfl) (by kernel_rfl) .i64 (by kernel_rfl) hc hz hs⟩
instance : Fun Tryz.prog 122 := .k Tryz.func122
instance : Fun Tryz.prog 123 := .k Tryz.func123
instance : Fun Tryz.prog 124 := .k Tryz.func124
instance : Fun Tryz.prog 125 := .k Tryz.func125
instance : Fun Tryz.prog 126 := .k Tryz.func126
instance : Fun Tryz.prog 127 := .k Tryz.func127
instance : Fun Tryz.prog 128 := .k Tryz.func128
instance : Fun Tryz.prog 129 := .k Tryz.func129
instance : Fun Tryz.prog 130 := .k Tryz.func130
instance : Fun Tryz.prog 131 := .k Tryz.func131
instance : Fun Tryz.prog 132 := .k Tryz.func132
instance : Fun Tryz.prog 133 := .k Tryz.func133
instance : Fun Tryz.prog 135 := .k Tryz.func135
instance : Fun Tryz.prog 136 := .k Tryz.func136
instance : Fun Tryz.prog 138 := .k Tryz.func138
instance : Fun Tryz.prog 139 := .k Tryz.func139
instance : Fun Tryz.prog 140 := .k Tryz.func140
instance : Fun Tryz.prog 141 := .k Tryz.func141
instance : Fun Tryz.prog 142 := .k Tryz.func142
instance : Fun Tryz.prog 143 := .k Tryz.func143
instance : Fun Tryz.prog 144 := .k Tryz.func144
instance : Fun Tryz.prog 145 := .k Tryz.func145
instance : Fun Tryz.prog 146 := .k Tryz.func146
instance : Fun Tryz.prog 147 := .k Tryz.func147
instance : Fun Tryz.prog 148 := .k Tryz.func148
instance : Fun Tryz.prog 149 := .k Tryz.func149
instance : Fun Tryz.prog 150 := .k Tryz.func150
instance : Fun Tryz.prog 151 := .k Tryz.func151
instance : Fun Tryz.prog 152 := .k Tryz.func152
instance : Fun Tryz.prog 153 := .k Tryz.func153
instance : Fun Tryz.prog 154 := .k Tryz.func154
instance : Fun Tryz.prog 155 := .k Tryz.func155
instance : Fun Tryz.prog 156 := .k Tryz.func156
instance : Fun Tryz.prog 159 := .k Tryz.func159
instance : Fun Tryz.prog 161 := .k Tryz.func161
instance : Fun Tryz.prog 162 := .k Tryz.func162
instance : Fun Tryz.prog 163 := .k Tryz.func163
instance : Fun Tryz.prog 164 := .k Tryz.func164
instance : Fun Tryz.prog 165 := .k Tryz.func165
instance : Fun Tryz.prog 166 := .k Tryz.func166
instance : Fun Tryz.prog 167 := .k Tryz.func167
instance : Fun Tryz.prog 168 := .k Tryz.func168
instance : Fun Tryz.prog 169 := .k Tryz.func169
instance : Fun Tryz.prog 170 := .k Tryz.func170
instance : Fun Tryz.prog 171 := .k Tryz.func171
instance : Fun Tryz.prog 172 := .k Tryz.func172
instance : Fun Tryz.prog 173 := .k Tryz.func173
instance : Fun Tryz.prog 174 := .k Tryz.func174
instance : Fun Tryz.prog 175 := .k Tryz.func175
instance : Fun Tryz.prog 176 := .k Tryz.func176
instance : Fun Tryz.prog 177 := .k Tryz.func177
instance : Fun Tryz.prog 178 := .k Tryz.func178
instance : Fun Tryz.prog 179 := .k Tryz.func179
instance : Fun Tryz.prog 180 := .k Tryz.func180
instance : Fun Tryz.prog 181 := .k Tryz.func181
instance : Fun Tryz.prog 182 := .k Tryz.func182
instance : Fun Tryz.prog 183 := .k Tryz.func183
instance : Fun Tryz.prog 184 := .k Tryz.func184
instance : Fun Tryz.prog 186 := .k Tryz.func186
instance : Fun Tryz.prog 187 := .k Tryz.func187
instance : Fun Tryz.prog 190 := .k Tryz.func190
instance : Fun Tryz.prog 191 := .k Tryz.func191
instance : ELoad Tryz.prog 192 .u32 := ⟨fun hc => run_call_load Tryz.func192 (by kernel_rfl) (by kernel_rfl) (by kernel_rfl) .u32 (by kernel_rfl) hc⟩
instance : Fun Tryz.prog 193 := .k Tryz.func193
instance : Fun Tryz.prog 194 := .k Tryz.func194
instance : Fun Tryz.prog 195 := .k Tryz.func195
instance : Fun Tryz.prog 196 := .k Tryz.func196
instance : Fun Tryz.prog 197 := .k Tryz.func197
instance : Fun Tryz.prog 198 := .k Tryz.func198
instance : Fun Tryz.prog 199 := .k Tryz.func199
instance : Fun Tryz.prog 200 := .k Tryz.func200
instance : Fun Tryz.prog 201 := .k Tryz.func201
instance : Fun Tryz.prog 202 := .k Tryz.func202
instance : Fun Tryz.prog 203 := .k Tryz.func203
instance : Fun Tryz.prog 204 := .k Tryz.func204
instance : Fun Tryz.prog 205 := .k Tryz.func205
instance : Fun Tryz.prog 206 := .k Tryz.func206
instance : Fun Tryz.prog 207 := .k Tryz.func207
instance : Fun Tryz.prog 208 := .k Tryz.func208
instance : Fun Tryz.prog 214 := .k Tryz.func214
instance : Fun Tryz.prog 216 := .k Tryz.func216
instance : Fun Tryz.prog 218 := .k Tryz.func218
instance : Fun Tryz.prog 219 := .k Tryz.func219
instance : EStore Tryz.prog 220 := ⟨fun hc hz => run_call_store Tryz.func220 (by kernel_rfl) (by kernel_rfl) (by kernel_rfl) (by kernel_rfl) hc hz⟩
instance : Fun Tryz.prog 221 := .k Tryz.func221
instance : Fun Tryz.prog 222 := .k Tryz.func222
instance : Fun Tryz.prog 223 := .k Tryz.func223
instance : Fun Tryz.prog 224 := .k Tryz.func224
instance : Fun Tryz.prog 225 := .k Tryz.func225
instance : Fun Tryz.prog 226 := .k Tryz.func226
instance : Fun Tryz.prog 243 := .k Tryz.func243
instance : EMark0 Tryz.prog 252 := ⟨fun w => run_call_mark0 Tryz.func252 (by kernel_rfl) (by kernel_rfl) (by kernel_rfl) .disable (by kernel_rfl) w⟩
instance : ECas Tryz.prog 253 .i32 := ⟨fun hc hz => run_call_cas_hit Tryz.func253 (by kernel_rfl) (by kernel_rfl) (by kernel_rfl) .i32 (by kernel_rfl) hc hz⟩
instance : EMark0 Tryz.prog 254 := ⟨fun w => run_call_mark0 Tryz.func254 (by kernel_rfl) (by kernel_rfl) (by kernel_rfl) .enable (by kernel_rfl) w⟩
instance : EMark Tryz.prog 255 := ⟨fun a w => run_call_marked Tryz.func255 (by kernel_rfl) (by kernel_rfl) (by kernel_rfl) .acquire (by kernel_rfl) a w⟩
instance : EMark Tryz.prog 257 := ⟨fun a w => run_call_marked Tryz.func257 (by kernel_rfl) (by kernel_rfl) (by kernel_rfl) .releaseMerge (by kernel_rfl) a w⟩
instance : EAdd Tryz.prog 258 .i32 := ⟨fun hc hz hs => run_call_add Tryz.func258 (by kernel_rfl) (by kernel_rfl) (by kernel_rfl) .i32 (by kernel_rfl) hc hz hs⟩
instance : Fun Tryz.prog 260 := .k Tryz.func260
instance : Fun Tryz.prog 283 := .k Tryz.func283
instance : Fun Tryz.prog 284 := .k Tryz.func284
instance : Fun Tryz.prog 285 := .k Tryz.func285
theorem mixed : Tryz.prog.follows .mixedOrders = true := by kernel_rfl
end Cr
namespace Cr
open Go Go.Proofs
set_option maxRecDepth 100000

structure DiskM where
 off : Bool
 armed : Bool
 left : Int
 laid : List (List UInt8)
 line : List (Int × List UInt8)
 writes : Int
 flushes : Int
structure DiskM.ok (D : DiskM) : Prop where
 laid64 : ∀ s ∈ D.laid, s.length = 64
 line64 : ∀ x ∈ D.line, x.2.length = 64 ∧ 0 ≤ x.1 ∧ x.1 < D.laid.length
 some_ : 1 ≤ D.laid.length
 most : D.laid.length ≤ 4096
 left0 : 0 ≤ D.left
 left1 : D.left ≤ 9223372036854775807
def laidCells (l : List (List UInt8)) : List Value := l.flatMap bv
def lineCells (l : List (Int × List UInt8)) : List Value := l.flatMap fun x => .int .i64 x.1 :: bv x.2
def disk (p : Nat) (D : DiskM) : Res := fun h => D.ok ∧ ∃ al cl ai ci, D.laid.length ≤ cl ∧ D.line.length ≤ ci ∧
 Sep [pts p (.cells #[.bool D.off, .bool D.armed, .int .i64 D.left, .slice al D.laid.length cl, .slice ai D.line.length ci, .int .i64 D.writes, .int .i64 D.flushes] 218),
  own 298 64 al cl (laidCells D.laid), own 300 65 ai ci (lineCells D.line)] h

theorem St.shutR {W : World} {F : Nat → Prop} {r : Res} {rs rs' : List Res} {w : World} (hS : St W F (rs' ++ rs) w) (hr : ∀ h, Sep rs' h → r h) : St W F (r :: rs) w :=
 hS.imp fun h hh => by
  obtain ⟨h1, h2, a, b, c, d⟩ := Sep.append hh
  exact ⟨h1, h2, hr _ a, b, c, d⟩
/-! ### On, Sectors, has, use -/
theorem Rd.disk {w : World} {p : Nat} {D : DiskM} (h : Rd w (disk p D)) : D.ok ∧ ∃ al cl ai ci, D.laid.length ≤ cl ∧ D.line.length ≤ ci ∧
  w.heap[p]? = some (.cells #[.bool D.off, .bool D.armed, .int .i64 D.left, .slice al D.laid.length cl, .slice ai D.line.length ci, .int .i64 D.writes, .int .i64 D.flushes] 218) ∧
  Rd w (row al (laidCells D.laid)) ∧ Rd w (row ai (lineCells D.line)) := by
 obtain ⟨f, ⟨hok, al, cl, ai, ci, h1, h2, hs⟩, ha⟩ := h
 have hr := Rd.sep ⟨f, hs, ha⟩
 exact ⟨hok, al, cl, ai, ci, h1, h2, (hr _ (by simp)).pts, (hr _ (List.mem_cons_of_mem _ (List.mem_cons_self ..))).own_row, (hr _ (List.mem_cons_of_mem _ (List.mem_cons_of_mem _ (List.mem_cons_self ..)))).own_row⟩
theorem on_ (p : Nat) (D : DiskM) (W : World) (hd : Rd W (disk p D)) :
  Calls Tryz.prog 123 #[.pointer (some ⟨p, 0, none⟩)] W (Ret fun v w => v = .bool (!D.off) ∧ W = w) := by
 obtain ⟨_, al, cl, ai, ci, _, _, hc, _, _⟩ := hd.disk
 have hS := St.start W
 refine calls_C Tryz.func123 rfl Tryz.ntmps123 rfl ?_
 repeat (first | (refine G_id ?_; first | refine G_nil ?_ | refine G_plain rfl rfl ?_ | refine G_yes rfl rfl rfl rfl ?_) | (refine X_id ?_; first | refine X_yl (Yl_move rfl rfl) rfl rfl ?_ | refine X_yl (Yl_assign rfl rfl) rfl rfl ?_ | refine X_yl (Yl_nilCheck rfl rfl) rfl rfl ?_ | refine X_yl (Yl_fieldAddr0 rfl rfl rfl) rfl rfl ?_ | refine X_yl (Yl_pick_t rfl rfl rfl) rfl rfl ?_ | refine X_yl (Yl_not_b rfl rfl) rfl rfl ?_ | refine X_yl (Yl_neqNil_some rfl rfl rfl) rfl rfl ?_ | refine X_yl (Yl_load rfl rfl (cell_at (by assumption))) rfl rfl ?_) | (refine C_id ?_; first | refine C_seq ?_ | refine C_region ?_ | refine C_ret ?_) | (refine E_id ?_; first | refine E_code ?_ | refine E_ret1 rfl (Rv_tmp rfl) (Ret.mk ?_)))
 exact ⟨rfl, rfl⟩
theorem sectors_ (p : Nat) (D : DiskM) (W : World) (hd : Rd W (disk p D)) :
  Calls Tryz.prog 124 #[.pointer (some ⟨p, 0, none⟩)] W (Ret fun v w => v = .int .i64 (D.laid.length : Nat) ∧ W = w) := by
 obtain ⟨_, al, cl, ai, ci, _, _, hc, _, _⟩ := hd.disk
 have hS := St.start W
 refine calls_C Tryz.func124 rfl Tryz.ntmps124 rfl ?_
 repeat (first | (refine G_id ?_; first | refine G_nil ?_ | refine G_plain rfl rfl ?_) | (refine X_id ?_; first | refine X_yl (Yl_move rfl rfl) rfl rfl ?_ | refine X_yl (Yl_assign rfl rfl) rfl rfl ?_ | refine X_yl (Yl_nilCheck rfl rfl) rfl rfl ?_ | refine X_yl (Yl_fieldAddr0 rfl rfl rfl) rfl rfl ?_ | refine X_yl (Yl_len rfl rfl) rfl rfl ?_ | refine X_yl (Yl_eqlNil_some rfl rfl rfl) rfl rfl ?_ | refine X_yl (Yl_load rfl rfl (cell_at (by assumption))) rfl rfl ?_) | (refine C_id ?_; first | refine C_seq ?_ | refine C_region ?_ | refine C_ret ?_ | refine C_skip ?_ | refine C_cond_f rfl ?_) | (refine E_id ?_; first | refine E_code ?_ | refine E_ret1 rfl (Rv_tmp rfl) (Ret.mk ?_)))
 exact ⟨rfl, rfl⟩
def inDisk (D : DiskM) (no : Int) : Bool := decide (0 ≤ no ∧ no < D.laid.length)
theorem has_ (p : Nat) (D : DiskM) (no : Int) (W : World) (hd : Rd W (disk p D)) :
  Calls Tryz.prog 196 #[.pointer (some ⟨p, 0, none⟩), .int .i64 no] W (Ret fun v w => v = .bool (inDisk D no) ∧ W = w) := by
 by_cases h : 0 ≤ no
 ·refine calls_C Tryz.func196 rfl Tryz.ntmps196 rfl ?_
  repeat (first | (refine G_id ?_; first | refine G_nil ?_ | refine G_plain rfl rfl ?_ | refine G_yes rfl rfl rfl rfl ?_) | (refine X_id ?_; first | refine X_yl (Yl_move rfl rfl) rfl rfl ?_ | refine X_yl (Yl_assign rfl rfl) rfl rfl ?_ | refine X_yl (Yl_geq_t rfl rfl rfl (by omega)) rfl rfl ?_) | (refine C_id ?_; first | refine C_seq ?_ | refine C_region ?_) | (refine E_id ?_; first | refine E_code ?_))
  refine X_callg _ rfl rfl rfl rfl rfl (sectors_ p D W hd) ?_
  rintro _ _ ⟨rfl, rfl⟩
  repeat (first | (refine G_id ?_; first | refine G_nil ?_ | refine G_plain rfl rfl ?_ | refine G_yes rfl rfl rfl rfl ?_) | (refine X_id ?_; first | refine X_yl (Yl_assign rfl rfl) rfl rfl ?_ | refine X_yl (Yl_pick_t rfl rfl rfl) rfl rfl ?_ | refine X_yl (Yl_lss rfl rfl rfl) rfl rfl ?_) | (refine C_id ?_; first | refine C_ret ?_) | (refine E_id ?_; first | refine E_code ?_ | refine E_ret1 rfl (Rv_tmp rfl) (Ret.mk ?_)))
  exact ⟨by simp [inDisk, h], rfl⟩
 ·refine calls_C Tryz.func196 rfl Tryz.ntmps196 rfl ?_
  repeat (first | (refine G_id ?_; first | refine G_nil ?_ | refine G_plain rfl rfl ?_ | refine G_no rfl rfl rfl rfl rfl rfl ?_) | (refine X_id ?_; first | refine X_yl (Yl_move rfl rfl) rfl rfl ?_ | refine X_yl (Yl_assign rfl rfl) rfl rfl ?_ | refine X_yl (Yl_pick_f rfl rfl rfl) rfl rfl ?_ | refine X_yl (Yl_geq_f rfl rfl rfl (by omega)) rfl rfl ?_) | (refine C_id ?_; first | refine C_seq ?_ | refine C_region ?_ | refine C_ret ?_) | (refine E_id ?_; first | refine E_code ?_ | refine E_ret1 rfl (Rv_tmp rfl) (Ret.mk ?_)))
  exact ⟨by simp [inDisk, h], rfl⟩

/-! ### power -/
def useB (off armed : Bool) (left : Int) : Bool := !off && (!armed || decide (¬ left = 0))
def useOff (off armed : Bool) (left : Int) : Bool := off || (armed && decide (left = 0))
def useLeft (off armed : Bool) (left : Int) : Int := if off = false ∧ armed = true ∧ ¬ left = 0 then left - 1 else left
theorem use_ (p : Nat) (off armed : Bool) (left : Int) (r : List Value) (T : TypeId) (W : World) (F : Nat → Prop) (h0 : 0 ≤ left) (h1 : left ≤ 9223372036854775807)
  (hS : St W F [pts p (.cells (.bool off :: .bool armed :: .int .i64 left :: r).toArray T)] W) :
  Calls Tryz.prog 204 #[.pointer (some ⟨p, 0, none⟩)] W (Ret fun v w => v = .bool (useB off armed left) ∧
   St W F [pts p (.cells (.bool (useOff off armed left) :: .bool armed :: .int .i64 (useLeft off armed left) :: r).toArray T)] w) := by
 cases off
 ·cases armed
  ·refine calls_C Tryz.func204 rfl Tryz.ntmps204 rfl ?_
   repeat (first | (refine G_id ?_; first | refine G_nil ?_ | refine G_plain rfl rfl ?_) | (refine X_id ?_; first | refine X_yl (Yl_move rfl rfl) rfl rfl ?_ | refine X_yl (Yl_assign rfl rfl) rfl rfl ?_ | refine X_yl (Yl_nilCheck rfl rfl) rfl rfl ?_ | refine X_yl (Yl_fieldAddr0 rfl rfl rfl) rfl rfl ?_ | refine X_yl (Yl_not_f rfl rfl) rfl rfl ?_ | refine X_yl (Yl_load rfl rfl hS.cell) rfl rfl ?_) | (refine C_id ?_; first | refine C_seq ?_ | refine C_region ?_ | refine C_block ?_ | refine C_ret ?_ | refine C_cond_t rfl ?_ | refine C_cond_f rfl ?_) | (refine E_id ?_; first | refine E_code ?_ | refine E_then_ret ?_ | refine E_blk_ret ?_ | refine E_ret1 rfl (Rv_tmp rfl) (Ret.mk ?_)))
   exact ⟨rfl, hS⟩
  ·by_cases h : left = 0
   ·subst h
    refine calls_C Tryz.func204 rfl Tryz.ntmps204 rfl ?_
    repeat (first | (refine G_id ?_; first | refine G_nil ?_ | refine G_plain rfl rfl ?_) | (refine X_id ?_; first | refine X_yl (Yl_move rfl rfl) rfl rfl ?_ | refine X_yl (Yl_assign rfl rfl) rfl rfl ?_ | refine X_yl (Yl_nilCheck rfl rfl) rfl rfl ?_ | refine X_yl (Yl_fieldAddr0 rfl rfl rfl) rfl rfl ?_ | refine X_yl (Yl_not_t rfl rfl) rfl rfl ?_ | refine X_yl (Yl_eql_t rfl rfl rfl (by omega)) rfl rfl ?_ | refine X_yl (Yl_load rfl rfl hS.cell) rfl rfl ?_ | refine X_store rfl rfl rfl rfl hS (fun _ hS _ => ?_)) | (refine C_id ?_; first | refine C_seq ?_ | refine C_region ?_ | refine C_block ?_ | refine C_ret ?_ | refine C_cond_t rfl ?_ | refine C_cond_f rfl ?_) | (refine E_id ?_; first | refine E_code ?_ | refine E_then_ret ?_ | refine E_blk_ret ?_ | refine E_ret1 rfl (Rv_tmp rfl) (Ret.mk ?_)))
    exact ⟨rfl, hS⟩
   ·refine calls_C Tryz.func204 rfl Tryz.ntmps204 rfl ?_
    repeat (first | (refine G_id ?_; first | refine G_nil ?_ | refine G_plain rfl rfl ?_) | (refine X_id ?_; first | refine X_yl (Yl_move rfl rfl) rfl rfl ?_ | refine X_yl (Yl_assign rfl rfl) rfl rfl ?_ | refine X_yl (Yl_nilCheck rfl rfl) rfl rfl ?_ | refine X_yl (Yl_fieldAddr0 rfl rfl rfl) rfl rfl ?_ | refine X_yl (Yl_not_t rfl rfl) rfl rfl ?_ | refine X_yl (Yl_eql_f rfl rfl rfl (by omega)) rfl rfl ?_ | refine X_yl (Yl_sub rfl rfl rfl (w64 (by omega) (by omega))) rfl rfl ?_ | refine X_yl (Yl_load rfl rfl hS.cell) rfl rfl ?_ | refine X_store rfl rfl rfl rfl hS (fun _ hS _ => ?_)) | (refine C_id ?_; first | refine C_seq ?_ | refine C_region ?_ | refine C_block ?_ | refine C_ret ?_ | refine C_skip ?_ | refine C_cond_f rfl ?_) | (refine E_id ?_; first | refine E_code ?_ | refine E_blk_n ?_ | refine E_ret1 rfl (Rv_tmp rfl) (Ret.mk ?_)))
    exact ⟨by simp [useB, h], by simpa [useOff, useLeft, h] using hS⟩
 ·refine calls_C Tryz.func204 rfl Tryz.ntmps204 rfl ?_
  repeat (first | (refine G_id ?_; first | refine G_nil ?_ | refine G_plain rfl rfl ?_) | (refine X_id ?_; first | refine X_yl (Yl_move rfl rfl) rfl rfl ?_ | refine X_yl (Yl_assign rfl rfl) rfl rfl ?_ | refine X_yl (Yl_nilCheck rfl rfl) rfl rfl ?_ | refine X_yl (Yl_fieldAddr0 rfl rfl rfl) rfl rfl ?_ | refine X_yl (Yl_load rfl rfl hS.cell) rfl rfl ?_) | (refine C_id ?_; first | refine C_seq ?_ | refine C_region ?_ | refine C_block ?_ | refine C_ret ?_ | refine C_cond_t rfl ?_) | (refine E_id ?_; first | refine E_code ?_ | refine E_then_ret ?_ | refine E_blk_ret ?_ | refine E_ret1 rfl (Rv_tmp rfl) (Ret.mk ?_)))
  exact ⟨rfl, hS⟩
end Cr
namespace Cr
open Go Go.Proofs
set_option maxRecDepth 100000

/-! ### New -/
def zero64 : List UInt8 := List.replicate 64 0
def newDisk (n : Nat) : DiskM := { off := false, armed := false, left := 0, laid := List.replicate n zero64, line := [], writes := 0, flushes := 0 }
theorem newDisk_ok {n : Nat} (h : 1 ≤ n) (h' : n ≤ 4096) : (newDisk n).ok := by
 refine ⟨fun s hs => ?_, fun x hx => by simp [newDisk] at hx, by simpa [newDisk] using h, by simpa [newDisk] using h', by simp [newDisk], by simp [newDisk]⟩
 simp [newDisk] at hs; rw [hs.2]; simp [zero64]
theorem laidCells_replicate (n : Nat) : laidCells (List.replicate n zero64) = List.replicate (n * 64) (.int .u8 0) := by
 induction n with
 | zero => rfl
 | succ n ih =>
  have e : bv zero64 = List.replicate 64 (.int .u8 0) := by simp [bv, zero64]
  have : laidCells (List.replicate (n + 1) zero64) = bv zero64 ++ laidCells (List.replicate n zero64) := by simp [laidCells, List.replicate_succ]
  rw [this, ih, e, List.replicate_append_replicate]
  congr 1; omega
theorem madeCells_zeros (m n : Nat) : madeCells (List.replicate m (Value.int .u8 0)).toArray n = (List.replicate n (if m = 0 then default else Value.int .u8 0)).toArray := by
 apply Array.ext
 ·simp [madeCells]
 ·intro i h1 h2
  simp only [madeCells, Array.getElem_map, Array.getElem_range, List.size_toArray, List.length_replicate]
  by_cases hm : m = 0
  ·subst hm; simp
  ·have : i % m < m := Nat.mod_lt _ (by omega)
   simp [hm, this]
theorem new_ (n : Nat) (W : World) (h1 : 1 ≤ n) (h2 : n ≤ 4096) : Calls Tryz.prog 80 #[.int .i64 (n : Int)] W (Ret fun v w => ∃ p, v = .tuple #[.pointer (some ⟨p, 0, none⟩), .int .i64 0] ∧ St W noF [disk p (newDisk n)] w) := by
 have hS := St.start W
 refine calls_C Tryz.func80 rfl Tryz.ntmps80 rfl ?_
 repeat (first | (refine G_id ?_; first | refine G_nil ?_ | refine G_plain rfl rfl ?_ | refine G_yes rfl rfl rfl rfl ?_) | (refine X_id ?_; first | refine X_yl (Yl_move rfl rfl) rfl rfl ?_ | refine X_yl (Yl_assign rfl rfl) rfl rfl ?_ | refine X_yl (Yl_pick_f rfl rfl rfl) rfl rfl ?_ | refine X_yl (Yl_lss_f rfl rfl rfl (by omega)) rfl rfl ?_ | refine X_yl (Yl_gtr_f rfl rfl rfl (by omega)) rfl rfl ?_) | (refine C_id ?_; first | refine C_seq ?_ | refine C_region ?_ | refine C_skip ?_ | refine C_cond_f rfl ?_) | (refine E_id ?_; first | refine E_code ?_))
 refine X_make rfl rfl rfl (by omega) (by omega) (by omega) (by omega) rfl rfl hS (fun al w hS _ => ?_)
 repeat (first | (refine G_id ?_; first | refine G_nil ?_ | refine G_plain rfl rfl ?_) | (refine X_id ?_; first | refine X_yl (Yl_assign rfl rfl) rfl rfl ?_ | refine X_yl (Yl_build rfl rfl rfl) rfl rfl ?_ | refine X_box rfl rfl rfl rfl hS (fun _ _ hS _ => ?_)) | (refine C_id ?_; first | refine C_ret ?_) | (refine E_id ?_; first | refine E_code ?_ | refine E_ret2 rfl (Rv_tmp rfl) (Rv_tmp rfl) (Ret.mk ?_)))
 refine ⟨_, rfl, ?_⟩
 have e : madeCells (Value.agg (List.replicate 64 (Value.int .u8 0)).toArray).cells ((n : Int).toNat * 64) = (laidCells (newDisk n).laid).toArray := by
  show madeCells (List.replicate 64 (Value.int .u8 0)).toArray _ = _
  rw [madeCells_zeros, newDisk, laidCells_replicate]; simp
 rw [e] at hS
 have hl : (laidCells (newDisk n).laid).length = n * 64 := by rw [newDisk, laidCells_replicate]; simp
 have hS := ((hS.second (own_of_pts (c := n) (cs := laidCells (newDisk n).laid) hl (by simp only [maxLen]; omega) (by simp))).own_none 300 65 none).sel [false, true, true]
 refine St.shutR (rs' := [_, _, _]) (rs := []) hS fun h hh => ⟨newDisk_ok h1 h2, some ⟨al, 0, none⟩, n, none, 0, by simp [newDisk], by simp [newDisk], ?_⟩
 have el : (newDisk n).laid.length = n := by simp [newDisk]
 rw [el]
 exact hh

/-! ### slices.Clone at bytes -/
theorem clone_ (a : Option Addr) (n c : Nat) (s : List UInt8) (W : World) (hs : Rd W (bytes a s)) (hn : s.length = n) (hlim : n ≤ 1073741824) :
  Calls Tryz.prog 198 #[.slice a n c] W (Ret fun v w => ∃ a' c', v = .slice a' n c' ∧ (a' = none ↔ a = none) ∧ n ≤ c' ∧ St W noF [own 5 1 a' c' (bv s)] w) := by
 have hS := St.start W
 cases a with
 | none =>
  have h0 : bv s = [] := hs.none_nil
  obtain rfl : n = 0 := by rw [← hn, ← bv_length s, h0]; rfl
  refine calls_C Tryz.func198 rfl Tryz.ntmps198 rfl ?_
  repeat (first | (refine G_id ?_; first | refine G_nil ?_ | refine G_plain rfl rfl ?_) | (refine X_id ?_; first | refine X_yl (Yl_move rfl rfl) rfl rfl ?_ | refine X_yl (Yl_assign rfl rfl) rfl rfl ?_ | refine X_yl (Yl_eqlNilSlice rfl rfl rfl) rfl rfl ?_) | (refine C_id ?_; first | refine C_seq ?_ | refine C_region ?_ | refine C_ret ?_ | refine C_cond_t rfl ?_) | (refine E_id ?_; first | refine E_code ?_ | refine E_then_ret ?_ | refine E_ret1 rfl (Rv_tmp rfl) (Ret.mk ?_)))
  refine ⟨none, 0, rfl, by simp, by omega, ?_⟩
  rw [h0]
  exact hS.own_none _ _ _
 | some ad =>
  refine calls_C Tryz.func198 rfl Tryz.ntmps198 rfl ?_
  repeat (first | (refine G_id ?_; first | refine G_nil ?_ | refine G_plain rfl rfl ?_) | (refine X_id ?_; first | refine X_yl (Yl_move rfl rfl) rfl rfl ?_ | refine X_yl (Yl_assign rfl rfl) rfl rfl ?_ | refine X_yl (Yl_eqlNilSlice rfl rfl rfl) rfl rfl ?_ | refine X_buildSlice rfl rfl rfl rfl rfl rfl rfl rfl hS (fun _ _ hS _ => ?_)) | (refine C_id ?_; first | refine C_seq ?_ | refine C_region ?_ | refine C_skip ?_ | refine C_cond_f rfl ?_) | (refine E_id ?_; first | refine E_code ?_))
  rename_i b w hb
  have hs := hs.below hb
  repeat (first | fail)
  refine X_append rfl rfl rfl rfl rfl hS rfl (by omega) hs (by simp [hn]) bv_one (by omega) (by simp only [maxLen]; omega) (fun a' c' w hS hc hnil => ?_)
  repeat (first | (refine G_id ?_; first | refine G_nil ?_ | refine G_plain rfl rfl ?_) | (refine X_id ?_; first | refine X_yl (Yl_assign rfl rfl) rfl rfl ?_) | (refine C_id ?_; first | refine C_ret ?_) | (refine E_id ?_; first | refine E_code ?_ | refine E_ret1 rfl (Rv_tmp rfl) (Ret.mk ?_)))
  refine ⟨a', c', by rw [Nat.zero_add], by rw [hnil]; simp, by omega, hS⟩
end Cr
namespace Cr
open Go Go.Proofs
set_option maxRecDepth 100000
set_option maxHeartbeats 4000000

theorem add64_ (b off : Nat) (x y : Int) (l l' : List Value) (T : TypeId) (W : World) (F : Nat → Prop) [hn : Nth l off (.int .i64 x)] [hs : Spl l off [.int .i64 (IntKind.i64.wrap (x + y))] l'] (hS : St W F [pts b (.cells l.toArray T)] W) :
  Calls Tryz.prog 74 #[.pointer (some ⟨b, off, none⟩), .int .i64 y] W (Ret fun v w => v = .int .i64 (IntKind.i64.wrap (x + y)) ∧ St W F [pts b (.cells l'.toArray T)] w) := by
 refine calls_C Tryz.func74 rfl Tryz.ntmps74 rfl ?_
 repeat (first | (refine G_id ?_; first | refine G_nil ?_ | refine G_plain rfl rfl ?_) | (refine X_id ?_; first | refine X_yl (Yl_move rfl rfl) rfl rfl ?_ | refine X_yl (Yl_assign rfl rfl) rfl rfl ?_ | refine X_yl (Yl_nilCheck rfl rfl) rfl rfl ?_ | refine X_yl (Yl_fieldAddr rfl rfl rfl) rfl rfl ?_ | refine X_eadd rfl rfl rfl rfl rfl rfl hS (fun _ hS => ?_)) | (refine C_id ?_; first | refine C_seq ?_ | refine C_region ?_ | refine C_ret ?_) | (refine E_id ?_; first | refine E_code ?_ | refine E_ret1 rfl (Rv_tmp rfl) (Ret.mk ?_)))
 exact ⟨rfl, hS⟩

def DiskM.used (D : DiskM) : DiskM := { D with off := useOff D.off D.armed D.left, left := useLeft D.off D.armed D.left }
def DiskM.write (D : DiskM) (no : Int) (b : List UInt8) : Int × DiskM :=
 if D.off then (9, D) else if inDisk D no = false ∨ b.length ≠ 64 then (1, D) else if useB D.off D.armed D.left = false then (9, D.used)
 else (0, { D.used with line := D.line ++ [(no, b)], writes := IntKind.i64.wrap (D.writes + 1) })
theorem DiskM.write_use {D : DiskM} {no : Int} {b : List UInt8} (h : D.off = false) (hin : inDisk D no = true) (hb : b.length = 64) (hu : useB D.off D.armed D.left = false) : D.write no b = (9, D.used) := by
 unfold DiskM.write
 rw [if_neg (by simp [h]), if_neg (by simp [hin, hb]), if_pos hu]
theorem DiskM.write_yes {D : DiskM} {no : Int} {b : List UInt8} (h : D.off = false) (hin : inDisk D no = true) (hb : b.length = 64) (hu : useB D.off D.armed D.left = true) : D.write no b = (0, { D.used with line := D.line ++ [(no, b)], writes := IntKind.i64.wrap (D.writes + 1) }) := by
 unfold DiskM.write
 rw [if_neg (by simp [h]), if_neg (by simp [hin, hb]), if_neg (by simp [hu])]
theorem DiskM.used_ok {D : DiskM} (h : D.ok) : D.used.ok := by
 obtain ⟨h1, h2, h3, h4, h5, h6⟩ := h
 refine ⟨h1, h2, h3, h4, ?_, ?_⟩ <;> simp only [DiskM.used, useLeft] <;> split <;> omega
theorem DiskM.line_ok {D : DiskM} (h : D.ok) {no : Int} {b : List UInt8} {wr : Int} (hn : inDisk D no = true) (hb : b.length = 64) : ({ D with line := D.line ++ [(no, b)], writes := wr } : DiskM).ok := by
 obtain ⟨h1, h2, h3, h4, h5, h6⟩ := h
 refine ⟨h1, fun x hx => ?_, h3, h4, h5, h6⟩
 simp only [List.mem_append, List.mem_singleton] at hx
 rcases hx with hx | rfl
 ·exact h2 x hx
 ·have : 0 ≤ no ∧ no < D.laid.length := by simpa [inDisk] using hn
  exact ⟨hb, this.1, this.2⟩
theorem St.openDisk {W : World} {F : Nat → Prop} {p : Nat} {D : DiskM} {rs : List Res} {w : World} (hS : St W F (disk p D :: rs) w) : D.ok ∧ ∃ al cl ai ci, D.laid.length ≤ cl ∧ D.line.length ≤ ci ∧
  St W F (pts p (.cells #[.bool D.off, .bool D.armed, .int .i64 D.left, .slice al D.laid.length cl, .slice ai D.line.length ci, .int .i64 D.writes, .int .i64 D.flushes] 218) ::
   own 298 64 al cl (laidCells D.laid) :: own 300 65 ai ci (lineCells D.line) :: rs) w := by
 obtain ⟨h, ⟨h1, h2, ⟨hok, al, cl, ai, ci, c1, c2, hs⟩, hr, hd, hu⟩, s⟩ := hS
 exact ⟨hok, al, cl, ai, ci, c1, c2, h, Sep.append_mk (rs := [_, _, _]) hs hr hd hu, s⟩
theorem St.shutDisk {W : World} {F : Nat → Prop} {p : Nat} {D : DiskM} {rs : List Res} {w : World} {al ai : Option Addr} {cl ci : Nat} (hok : D.ok) (c1 : D.laid.length ≤ cl) (c2 : D.line.length ≤ ci)
  (hS : St W F (pts p (.cells #[.bool D.off, .bool D.armed, .int .i64 D.left, .slice al D.laid.length cl, .slice ai D.line.length ci, .int .i64 D.writes, .int .i64 D.flushes] 218) ::
   own 298 64 al cl (laidCells D.laid) :: own 300 65 ai ci (lineCells D.line) :: rs) w) : St W F (disk p D :: rs) w :=
 St.shutR (rs' := [_, _, _]) (rs := rs) hS fun _ hh => ⟨hok, al, cl, ai, ci, c1, c2, hh⟩
theorem lineCells_append (l m : List (Int × List UInt8)) : lineCells (l ++ m) = lineCells l ++ lineCells m := by simp [lineCells]
theorem lineCells_length {l : List (Int × List UInt8)} (h : ∀ x ∈ l, x.2.length = 64) : (lineCells l).length = l.length * 65 := by
 induction l with
 | nil => rfl
 | cons x l ih =>
  have := ih fun y hy => h y (List.mem_cons_of_mem _ hy)
  have h0 := h x (List.mem_cons_self ..)
  simp only [lineCells, List.flatMap_cons, List.length_append, List.length_cons, bv_length, h0] at this ⊢
  omega
theorem laidCells_length {l : List (List UInt8)} (h : ∀ x ∈ l, x.length = 64) : (laidCells l).length = l.length * 64 := by
 induction l with
 | nil => rfl
 | cons x l ih =>
  have := ih fun y hy => h y (List.mem_cons_of_mem _ hy)
  have h0 := h x (List.mem_cons_self ..)
  simp only [laidCells, List.flatMap_cons, List.length_append, List.length_cons, bv_length, h0] at this ⊢
  omega

theorem one_int {k : IntKind} {n : Int} {l : List Value} (h : ∀ u ∈ l, u.oneCell' = true) : ∀ u ∈ Value.int k n :: l, u.oneCell' = true := fun u hu => by
 rcases List.mem_cons.mp hu with rfl | hu
 ·rfl
 ·exact h u hu
theorem write_ (p : Nat) (D : DiskM) (no : Int) (a : Option Addr) (n c : Nat) (b : List UInt8) (W : World) (F : Nat → Prop) (hS : St W F [disk p D] W) (hb : Ro W F (bytes a b)) (hn : b.length = n) (hline : D.line.length < 1073741824) :
  Calls Tryz.prog 177 #[.pointer (some ⟨p, 0, none⟩), .int .i64 no, .slice a n c] W (Ret fun v w => v = .int .i64 (D.write no b).1 ∧ St W F [disk p (D.write no b).2] w) := by
 have hd := hS.rd (List.mem_cons_self ..)
 cases hoff : D.off
 ·have hon := on_ p D W hd
  rw [hoff] at hon
  cases hin : inDisk D no
  ·have hhas := has_ p D no W hd
   rw [hin] at hhas
   refine calls_C Tryz.func177 rfl Tryz.ntmps177 rfl ?_
   repeat (first | (refine G_id ?_; first | refine G_nil ?_ | refine G_plain rfl rfl ?_ | refine G_no rfl rfl rfl rfl rfl rfl ?_) | (refine X_id ?_; first | (refine X_callg 123 rfl rfl rfl rfl rfl hon ?_; rintro _ _ ⟨rfl, rfl⟩) | (refine X_callg 196 rfl rfl rfl rfl rfl hhas ?_; rintro _ _ ⟨rfl, rfl⟩) | refine X_yl (Yl_move rfl rfl) rfl rfl ?_ | refine X_yl (Yl_assign rfl rfl) rfl rfl ?_ | refine X_yl (Yl_pick_t rfl rfl rfl) rfl rfl ?_ | refine X_yl (Yl_not_t rfl rfl) rfl rfl ?_ | refine X_yl (Yl_not_f rfl rfl) rfl rfl ?_) | (refine C_id ?_; first | refine C_seq ?_ | refine C_region ?_ | refine C_block ?_ | refine C_ret ?_ | refine C_cond_t rfl ?_ | refine C_cond_f rfl ?_) | (refine E_id ?_; first | refine E_code ?_ | refine E_then_ret ?_ | refine E_blk_ret ?_ | refine E_ret1 rfl (Rv_tmp rfl) (Ret.mk ?_)))
   refine ⟨by simp [DiskM.write, hoff, hin], by simpa [DiskM.write, hoff, hin] using hS⟩
  ·have hhas := has_ p D no W hd
   rw [hin] at hhas
   by_cases hb64 : b.length = 64
   ·have hn64 : n = 64 := by omega
    subst hn64
    obtain ⟨hok, al, cl, ai, ci, c1, c2, hS⟩ := hS.openDisk
    have hbr := hb.start
    obtain ⟨bb, bo, rfl⟩ := hbr.base (fun e => by rw [← bv_length, e] at hb64; cases hb64)
    have hcells := hbr.cellsAt rfl
    have hlc : LenIs (bv b) 64 := ⟨by simp [hb64]⟩
    cases huse : useB D.off D.armed D.left
    ·refine calls_C Tryz.func177 rfl Tryz.ntmps177 rfl ?_
     repeat (first | (refine G_id ?_; first | refine G_nil ?_ | refine G_plain rfl rfl ?_ | refine G_yes rfl rfl rfl rfl ?_) | (refine X_id ?_; first | (refine X_callg 123 rfl rfl rfl rfl rfl hon ?_; rintro _ _ ⟨rfl, rfl⟩) | (refine X_callg 196 rfl rfl rfl rfl rfl hhas ?_; rintro _ _ ⟨rfl, rfl⟩) | refine X_yl (Yl_move rfl rfl) rfl rfl ?_ | refine X_yl (Yl_assign rfl rfl) rfl rfl ?_ | refine X_yl (Yl_nilCheck rfl rfl) rfl rfl ?_ | refine X_yl (Yl_fieldAddr0 rfl rfl rfl) rfl rfl ?_ | refine X_yl (Yl_pick_f rfl rfl rfl) rfl rfl ?_ | refine X_yl (Yl_not_t rfl rfl) rfl rfl ?_ | refine X_yl (Yl_len rfl rfl) rfl rfl ?_ | refine X_yl (Yl_neq_f rfl rfl rfl (by omega)) rfl rfl ?_) | (refine C_id ?_; first | refine C_seq ?_ | refine C_region ?_ | refine C_block ?_ | refine C_cond_f rfl ?_) | (refine E_id ?_; first | refine E_code ?_))
     obtain ⟨_, hc, hr, hw, hbk⟩ := hS.call [true, false, false]
     refine X_callg _ rfl rfl rfl rfl rfl (use_ p D.off D.armed D.left _ _ _ _ hok.left0 hok.left1 hc) ?_
     rintro _ w ⟨rfl, hS⟩
     replace hS := hbk hS
     clear hc hr hw hbk
     rw [huse]
     repeat (first | (refine G_id ?_; first | refine G_nil ?_ | refine G_plain rfl rfl ?_) | (refine X_id ?_; first | refine X_yl (Yl_assign rfl rfl) rfl rfl ?_ | refine X_yl (Yl_not_f rfl rfl) rfl rfl ?_) | (refine C_id ?_; first | refine C_seq ?_ | refine C_region ?_ | refine C_ret ?_ | refine C_cond_t rfl ?_) | (refine E_id ?_; first | refine E_code ?_ | refine E_then_ret ?_ | refine E_blk_ret ?_ | refine E_ret1 rfl (Rv_tmp rfl) (Ret.mk ?_)))
     rw [DiskM.write_use hoff hin hb64 huse]
     exact ⟨rfl, St.shutDisk (DiskM.used_ok hok) c1 c2 hS⟩
    ·refine calls_C Tryz.func177 rfl Tryz.ntmps177 rfl ?_
     repeat (first | (refine G_id ?_; first | refine G_nil ?_ | refine G_plain rfl rfl ?_ | refine G_yes rfl rfl rfl rfl ?_) | (refine X_id ?_; first | (refine X_callg 123 rfl rfl rfl rfl rfl hon ?_; rintro _ _ ⟨rfl, rfl⟩) | (refine X_callg 196 rfl rfl rfl rfl rfl hhas ?_; rintro _ _ ⟨rfl, rfl⟩) | refine X_yl (Yl_move rfl rfl) rfl rfl ?_ | refine X_yl (Yl_assign rfl rfl) rfl rfl ?_ | refine X_yl (Yl_nilCheck rfl rfl) rfl rfl ?_ | refine X_yl (Yl_fieldAddr0 rfl rfl rfl) rfl rfl ?_ | refine X_yl (Yl_pick_f rfl rfl rfl) rfl rfl ?_ | refine X_yl (Yl_not_t rfl rfl) rfl rfl ?_ | refine X_yl (Yl_len rfl rfl) rfl rfl ?_ | refine X_yl (Yl_neq_f rfl rfl rfl (by omega)) rfl rfl ?_) | (refine C_id ?_; first | refine C_seq ?_ | refine C_region ?_ | refine C_block ?_ | refine C_cond_f rfl ?_) | (refine E_id ?_; first | refine E_code ?_))
     obtain ⟨_, hc, hr, hw, hbk⟩ := hS.call [true, false, false]
     refine X_callg _ rfl rfl rfl rfl rfl (use_ p D.off D.armed D.left _ _ _ _ hok.left0 hok.left1 hc) ?_
     rintro _ w ⟨rfl, hS⟩
     replace hS := hbk hS
     clear hc hr hw hbk
     rw [huse]
     repeat (first | (refine G_id ?_; first | refine G_nil ?_ | refine G_plain rfl rfl ?_) | (refine X_id ?_; first | refine X_yl (Yl_assign rfl rfl) rfl rfl ?_ | refine X_yl (Yl_not_t rfl rfl) rfl rfl ?_) | (refine C_id ?_; first | refine C_seq ?_ | refine C_skip ?_ | refine C_cond_f rfl ?_) | (refine E_id ?_; first | refine E_code ?_ | refine E_blk_n ?_))
     have hcells : CellsAt w.drew ⟨bb, bo, none⟩ (bv b) := (hb.rd hS).cellsAt rfl
     refine C_ord (.s 0 (.s 1 (.s 2 (.s 3 (.s 4 (.s 5 (.s 6 (.s 7 (.s 8 (.s 9 (.h 10 (.h 11 (.s 12 (.s 13 (.h 14 .nil .no))) .no) .no))))))))))) mixed (by kernel_rfl) rfl ?_
     have hS := hS.drew
     repeat (first | (refine X_id ?_; first | refine X_buildSlice rfl rfl rfl rfl rfl rfl rfl rfl hS (fun _ _ hS _ => ?_)) | (refine GO_id ?_; first | refine GO_pure rfl rfl (fun _ => Yl_move rfl rfl) rfl rfl ?_ | refine GO_pure rfl rfl (fun _ => Yl_nilCheck rfl rfl) rfl rfl ?_ | refine GO_pure rfl rfl (fun _ => Yl_fieldAddr0 rfl rfl rfl) rfl rfl ?_ | refine GO_pure rfl rfl (fun _ => Yl_build rfl rfl rfl) rfl rfl ?_ | refine GO_pure rfl rfl (fun _ => Yl_arrayAt rfl rfl (by omega)) rfl rfl ?_ | refine GO_read (fun w' => w'.cell? _ = some _) rfl rfl hS.cell (fun _ hc => Yl_load rfl rfl hc) rfl rfl ?_ | refine GO_read (fun w' => CellsAt w' _ _) rfl rfl (by assumption) (fun _ hc => Yl_loadAgg rfl rfl hc (by simp; omega)) rfl rfl ?_ | refine GO_hard rfl rfl ?_) | (refine Keep_id ?_; first | refine And.intro (by repeat (first | exact trivial | refine And.intro (.inl (by decide +kernel)) ?_ | refine And.intro (.inr (by first | assumption | exact hS.cell | exact cell_at (by assumption) | exact hS.cellI (by omega) | exact hS.cellIP (by omega) | exact hS.cellsN | exact ((hr.rd hS).cellX (by omega) hx) | exact ((hr2.rd hS).cellX (by omega) hx2) | exact hS.cellB (by omega) | exact hS.cellBA (by omega) | exact (hb.rd hS).cellB' (by omega) | exact (hb2.rd hS).cellB' (by omega) | exact (hg.rd hS).cellI (by omega) | exact (hg2.rd hS).cellI (by omega) | exact ((hr.rd hS).cellF (by first | omega | (dsimp only; omega)) hx) | exact ((hr2.rd hS).cellF (by first | omega | (dsimp only; omega)) hx2) | exact hS.cellO 0 (by omega) | exact hS.cellO 1 (by omega) | exact hS.cellIA (by omega) | exact (hg.rd hS).cellIA (by omega) | exact (hg2.rd hS).cellIA (by omega) | exact cell_at (hc.rd hS).pts | exact hb.rd hS | exact (hr.rd hS).cellsF7 (by first | omega | (dsimp only; omega)) hst4 rfl | exact (hr2.rd hS).cellsF7 (by first | omega | (dsimp only; omega)) hst4 rfl | exact hS.cellO 4 (by omega) | exact hS.cellO 5 (by omega) | exact hS.cellO 6 (by omega) | exact hS.cellO 7 (by omega) | exact hS.cellO 8 (by omega) | exact hS.cellO 9 (by omega) | exact hS.cellO 10 (by omega) | exact hS.cellO 11 (by omega) | exact hS.cellO 12 (by omega) | exact hS.cellO 13 (by omega) | exact hS.cellO 2 (by omega) | exact hS.cellO 3 (by omega))) ?_)) ?_))
     refine X_append rfl rfl rfl rfl rfl hS (lineCells_length fun x hx => (hok.line64 x hx).1) c2 (hS.rd (List.mem_cons_self ..)).own_row (by simp [hb64]) (one_int bv_one) (by omega) (by simp only [maxLen]; omega) (fun a' c' w hS hc hnil => ?_)
     repeat (first | (refine G_id ?_; first | refine G_plain rfl rfl ?_) | (refine X_id ?_; first | refine X_yl (Yl_move rfl rfl) rfl rfl ?_ | refine X_yl (Yl_nilCheck rfl rfl) rfl rfl ?_ | refine X_yl (Yl_fieldAddr0 rfl rfl rfl) rfl rfl ?_ | refine X_store rfl rfl rfl rfl hS (fun _ hS _ => ?_)) | (refine C_id ?_; first | refine C_seq ?_ | refine C_region ?_) | (refine E_id ?_; first | refine E_code ?_) | (refine GO_id ?_; first | refine GO_nil ?_ | refine GO_pure rfl rfl (fun _ => Yl_nilCheck rfl rfl) rfl rfl ?_ | refine GO_pure rfl rfl (fun _ => Yl_fieldAddr0 rfl rfl rfl) rfl rfl ?_ | refine GO_hard rfl rfl ?_) | (refine Keep_id ?_; first | refine And.intro (by repeat (first | exact trivial | refine And.intro (.inl (by decide +kernel)) ?_ | refine And.intro (.inr (by first | assumption | exact hS.cell | exact cell_at (by assumption) | exact hS.cellI (by omega) | exact hS.cellIP (by omega) | exact hS.cellsN | exact ((hr.rd hS).cellX (by omega) hx) | exact ((hr2.rd hS).cellX (by omega) hx2) | exact hS.cellB (by omega) | exact hS.cellBA (by omega) | exact (hb.rd hS).cellB' (by omega) | exact (hb2.rd hS).cellB' (by omega) | exact (hg.rd hS).cellI (by omega) | exact (hg2.rd hS).cellI (by omega) | exact ((hr.rd hS).cellF (by first | omega | (dsimp only; omega)) hx) | exact ((hr2.rd hS).cellF (by first | omega | (dsimp only; omega)) hx2) | exact hS.cellO 0 (by omega) | exact hS.cellO 1 (by omega) | exact hS.cellIA (by omega) | exact (hg.rd hS).cellIA (by omega) | exact (hg2.rd hS).cellIA (by omega) | exact cell_at (hc.rd hS).pts | exact hb.rd hS | exact (hr.rd hS).cellsF7 (by first | omega | (dsimp only; omega)) hst4 rfl | exact (hr2.rd hS).cellsF7 (by first | omega | (dsimp only; omega)) hst4 rfl | exact hS.cellO 4 (by omega) | exact hS.cellO 5 (by omega) | exact hS.cellO 6 (by omega) | exact hS.cellO 7 (by omega) | exact hS.cellO 8 (by omega) | exact hS.cellO 9 (by omega) | exact hS.cellO 10 (by omega) | exact hS.cellO 11 (by omega) | exact hS.cellO 12 (by omega) | exact hS.cellO 13 (by omega) | exact hS.cellO 2 (by omega) | exact hS.cellO 3 (by omega))) ?_)) ?_))
     obtain ⟨_, hc, hr, hw, hbk⟩ := hS.call [false, false, true, false]
     refine X_callg _ rfl rfl rfl rfl rfl (add64_ p 5 D.writes 1 _ _ _ _ _ hc) ?_
     rintro _ w ⟨rfl, hS⟩
     replace hS := hbk hS
     clear hc hr hw hbk
     repeat (first | (refine G_id ?_; first | refine G_nil ?_ | refine G_plain rfl rfl ?_) | (refine X_id ?_; first | refine X_yl (Yl_assign rfl rfl) rfl rfl ?_) | (refine C_id ?_; first | refine C_seq ?_ | refine C_region ?_ | refine C_ret ?_) | (refine E_id ?_; first | refine E_code ?_ | refine E_ret1 rfl (Rv_tmp rfl) (Ret.mk ?_)))
     rw [DiskM.write_yes hoff hin hb64 huse]
     have hok' := DiskM.line_ok (wr := IntKind.i64.wrap (D.writes + 1)) (DiskM.used_ok hok) (no := no) (b := b) hin hb64
     refine ⟨rfl, St.shutDisk (al := al) (ai := a') hok' c1 (show (D.line ++ [(no, b)]).length ≤ c' by simpa using hc) ?_⟩
     have hS := hS.pick [0, 2, 0]
     show St W F [pts p (.cells #[_, _, _, _, .slice a' ((D.line ++ [(no, b)]).length : Nat) c', _, _] 218), _, own _ _ _ _ (lineCells (D.line ++ [(no, b)]))] w
     rw [lineCells_append, List.length_append]
     simpa [lineCells, DiskM.used] using hS
   ·refine calls_C Tryz.func177 rfl Tryz.ntmps177 rfl ?_
    repeat (first | (refine G_id ?_; first | refine G_nil ?_ | refine G_plain rfl rfl ?_ | refine G_yes rfl rfl rfl rfl ?_) | (refine X_id ?_; first | (refine X_callg 123 rfl rfl rfl rfl rfl hon ?_; rintro _ _ ⟨rfl, rfl⟩) | (refine X_callg 196 rfl rfl rfl rfl rfl hhas ?_; rintro _ _ ⟨rfl, rfl⟩) | refine X_yl (Yl_move rfl rfl) rfl rfl ?_ | refine X_yl (Yl_assign rfl rfl) rfl rfl ?_ | refine X_yl (Yl_pick_f rfl rfl rfl) rfl rfl ?_ | refine X_yl (Yl_not_t rfl rfl) rfl rfl ?_ | refine X_yl (Yl_len rfl rfl) rfl rfl ?_ | refine X_yl (Yl_neq_t rfl rfl rfl (by omega)) rfl rfl ?_) | (refine C_id ?_; first | refine C_seq ?_ | refine C_region ?_ | refine C_block ?_ | refine C_ret ?_ | refine C_cond_t rfl ?_ | refine C_cond_f rfl ?_) | (refine E_id ?_; first | refine E_code ?_ | refine E_then_ret ?_ | refine E_blk_ret ?_ | refine E_ret1 rfl (Rv_tmp rfl) (Ret.mk ?_)))
    refine ⟨by simp [DiskM.write, hoff, hin, hb64], by simpa [DiskM.write, hoff, hin, hb64] using hS⟩
 ·have hon := on_ p D W hd
  rw [hoff] at hon
  refine calls_C Tryz.func177 rfl Tryz.ntmps177 rfl ?_
  repeat (first | (refine G_id ?_; first | refine G_nil ?_ | refine G_plain rfl rfl ?_) | (refine X_id ?_; first | (refine X_callg 123 rfl rfl rfl rfl rfl hon ?_; rintro _ _ ⟨rfl, rfl⟩) | refine X_yl (Yl_move rfl rfl) rfl rfl ?_ | refine X_yl (Yl_assign rfl rfl) rfl rfl ?_ | refine X_yl (Yl_not_f rfl rfl) rfl rfl ?_) | (refine C_id ?_; first | refine C_seq ?_ | refine C_region ?_ | refine C_block ?_ | refine C_ret ?_ | refine C_cond_t rfl ?_) | (refine E_id ?_; first | refine E_code ?_ | refine E_then_ret ?_ | refine E_blk_ret ?_ | refine E_ret1 rfl (Rv_tmp rfl) (Ret.mk ?_)))
  exact ⟨by simp [DiskM.write, hoff], by simpa [DiskM.write, hoff] using hS⟩
end Cr
namespace Cr
open Go

theorem setBlock_put {w : World} {b : Nat} {o o' : Obj} (h : w.heap[b]? = some o) : SetBlock w { w with heap := w.heap.setIfInBounds b o' } b o' := by
 have hlt := lt_of_get h
 refine ⟨by simp, ?_, fun k hk => ?_, rfl, rfl, rfl⟩
 ·simp [hlt]
 ·simp [Ne.symm hk]

section
variable {P : Program} {Q : Exit → Act → World → Prop} {N : Nat} {ds : Md} {σ : Env} {w : World}
theorem Yl_makeFunc {o : Oper} {fn : Fn} {xs ys : List Operand} {first captured : List Value} (ho : o.op = .makeFunc fn xs.toArray ys.toArray) (hx : evs σ xs = some first) (hy : evs σ ys = some captured) : Yl P o σ w (.func fn first.toArray captured.toArray) := ⟨fun N ds a ha => by
 simp [execOp, ho, Instr.makeFunc, ha.evals hx, ha.evals hy]⟩
theorem run_load1 {t : TypeId} {ad : Addr} {v : Value} [h : One P t] (hc : w.cell? ad = some v) : (loadVar t ad).run P w = .ok v w := by
 simp [loadVar, h.one, load, Sem.run, hc]
theorem run_loadN {t : TypeId} {a : Addr} {cs : List Value} {n : Nat} [h : Agg P t] [hs : Siz P t n] (hc : CellsN w a n cs) : (loadVar t a).run P w = .ok (.agg cs.toArray) w := by
 obtain ⟨hc, rfl⟩ := hc
 exact run_loadAgg hc
theorem E_code2 {Q : Exit → Act → World → Prop} {y : Code} {ds' : Md} (hF : Fc ds' = Fc ds) (h : C P y Q N ds σ w) : E (Exit.then (y.wpIn (Fc ds') 0 P Q) Q) .normal N ds σ w := ⟨fun a ha => by rw [hF]; exact h.run a ha⟩
def recd (fn : FuncId) (tm : Array Value) (ps : Array Tmp) (assign body : Code) (r : Nat) (st : LoopState) (jump : Option Code) : Loop :=
 { state := st, pending := jump, fn, tmps := tm, params := ps, assign, body, defers := r }
def mark (r : Nat) : Deferred := { target := .collected r, args := #[] }
theorem G_yield {ops : Array Oper} {rest : List Oper} {o : Oper} {f : Operand} {xs : List Operand} {vs : List Value} {ts : Array TypeId} {l d : Nat} {r : Loop} {R : Value → World → Prop} (hgd : o.guard = none) (ho : o.op = .call { callee := .value f, args := xs.toArray, argTypes := ts }) (hf : ev σ f = some (.func (.yield l) #[] #[])) (hv : evs σ xs = some vs)
  (hd : o.dst = some d) (hN : Nat.blt d N = true) (hl : w.heap[l]? = some (.loop r)) (hsz : vs.length = r.params.size)
  (hr : RoundIn Fence.wide 0 P l r.fn ((r.params.zip vs.toArray).foldl (fun tmps (t, a) => tmps.setIfInBounds t a) r.tmps) r.assign r.body w (Ret R)) (h : ∀ v w', R v w' → G P ops Q rest N ds ((d, v) :: σ) w') : G P ops Q (o :: rest) N ds σ w := ⟨fun a ha =>
 wpListIn_plain hgd fun K hK => by
  have hsem : o.semAt (Fc ds).round a.eval = execOp a.eval o := Oper.semAt_eq _ _ _ fun c hc => by rw [ho] at hc; cases hc
  refine ⟨fun _ _ => trivial, ?_⟩
  rw [hsem]
  have hexec : (execOp a.eval o).run P w = .ok (.round l r.fn ((r.params.zip vs.toArray).foldl (fun tmps (t, a) => tmps.setIfInBounds t a) r.tmps) r.assign r.body) w := by
   simp [execOp, ho, resolve, ha.eval hf, Deferred.ofValue, invoke, ha.evals hv, Instr.yield, Instr.getLoop, getObj, Sem.run, hl, hsz]
  rw [hexec]
  refine ⟨Fc_depth ds, ?_⟩
  obtain ⟨hF, hr⟩ := hr
  refine ⟨trivial, fun c cs hroom => ?_⟩
  obtain ⟨e, w', hR, hs⟩ := hr c cs (fun _ h => by simp [Fence.wide] at h)
  obtain ⟨v, rfl, hR⟩ := hR
  refine ⟨.returned v, w', ?_, hs⟩
  have := (h v w' hR).run _ (ha.put (lt_of_blt hN) v)
  rw [← hd] at this
  exact hK _ _ this⟩
theorem Fr.round {tm : Array Value} (hsz : tm.size = N) (h : ∀ n v, look σ n = some v → tm[n]? = some v) (l : Nat) : Fr σ N ⟨[], some l⟩ { tmps := tm, defers := [] } := ⟨hsz, rfl, h⟩
def QA (P : Program) (l : Nat) (body : Code) (R : Ending → World → Prop) : Exit → Act → World → Prop :=
 Exit.then (fun a1 w1 => ∃ w2, (Instr.beginRound l).run P w1 = .ok () w2 ∧ body.wpIn (Fc ⟨[], some l⟩) 0 P (roundPost P l R) a1 w2) (fun _ _ _ => False)
theorem round_C {l : Nat} {f : FuncId} {tm : Array Value} {assign body : Code} {R : Ending → World → Prop} (hF : Fr σ N ⟨[], some l⟩ { tmps := tm, defers := [] }) (h : C P assign (QA P l body R) N ⟨[], some l⟩ σ w) :
  RoundIn Fence.wide 0 P l f tm assign body w R := roundIn_of_wpIn (F := Fence.wide) trivial (h.run _ hF)
theorem C_eq {A A' : Code} {Q : Exit → Act → World → Prop} (e : A = A') (h : C P A' Q N ds σ w) : C P A Q N ds σ w := e ▸ h
theorem E_begin {l : Nat} {fn : FuncId} {tm : Array Value} {ps : Array Tmp} {A B : Code} {rr : Nat} {j : Option Code} {body : Code} {R : Ending → World → Prop} (hl : w.heap[l]? = some (.loop (recd fn tm ps A B rr .ready j))) (h : ∀ w2, SetBlock w w2 l (.loop (recd fn tm ps A B rr .busy j)) → C P body (roundPost P l R) N ⟨[], some l⟩ σ w2) :
  E (QA P l body R) .normal N ⟨[], some l⟩ σ w := ⟨fun a ha => ⟨{ w with heap := w.heap.setIfInBounds l (.loop (recd fn tm ps A B rr .busy j)) }, by
 simp [Instr.beginRound, Instr.getLoop, getObj, setObj, Sem.run, hl, recd], (h _ (setBlock_put hl)).run a ha⟩⟩
theorem run_endRound {l : Nat} {fn : FuncId} {tm : Array Value} {ps : Array Tmp} {A B : Code} {rr : Nat} {st : LoopState} {j0 : Option Code} {j : Option Code} (hl : w.heap[l]? = some (.loop (recd fn tm ps A B rr st j0))) :
  (Instr.endRound l j).run P w = .ok (.bool j.isNone) { w with heap := w.heap.setIfInBounds l (.loop (recd fn tm ps A B rr (if j.isNone then .ready else .done) j)) } := by
 simp [Instr.endRound, Instr.getLoop, getObj, setObj, Sem.run, hl, recd]
theorem E_round_n {l : Nat} {fn : FuncId} {tm : Array Value} {ps : Array Tmp} {A B : Code} {rr : Nat} {st : LoopState} {j0 : Option Code} {R : Ending → World → Prop} {m : Md} (hl : w.heap[l]? = some (.loop (recd fn tm ps A B rr st j0))) (h : ∀ w', SetBlock w w' l (.loop (recd fn tm ps A B rr .ready none)) → R (.returned (.bool true)) w') : E (roundPost P l R) .normal N m σ w :=
 ⟨fun _ _ => ⟨_, _, run_endRound (j := none) hl, h _ (setBlock_put hl)⟩⟩
theorem E_round_ret {l : Nat} {fn : FuncId} {tm : Array Value} {ps : Array Tmp} {A B : Code} {rr : Nat} {st : LoopState} {j0 : Option Code} {R : Ending → World → Prop} {m : Md} (hl : w.heap[l]? = some (.loop (recd fn tm ps A B rr st j0))) (h : ∀ w', SetBlock w w' l (.loop (recd fn tm ps A B rr .done (some .ret))) → R (.returned (.bool false)) w') : E (roundPost P l R) .ret N m σ w :=
 ⟨fun _ _ => ⟨_, _, run_endRound (j := some .ret) hl, h _ (setBlock_put hl)⟩⟩
theorem C_rangeFunc {W : World} {F : Nat → Prop} {rs : List Res} {g : Operand} {ps : Array Tmp} {assign body : Code} {gid : FuncId} {first captured : List Value} (J : Nat → Nat → Option Code → World → Prop)
  (hro : ds.ro = none) (hg : ev σ g = some (.func (.func gid) first.toArray captured.toArray)) [hfun : Fun P gid] (hS : St W F rs w)
  (hcall : ∀ A B, A = assign → B = body → ∀ fn tm l r w1, tm.size = N → (∀ n v, look σ n = some v → tm[n]? = some v) → St W F (pts l (.loop (recd fn tm ps A B r .ready none)) :: pts r (.deferred (some [])) :: rs) w1 →
   CallsIn Fence.wide 0 P gid (first ++ (.func (.yield l) #[] #[] :: captured)).toArray w1 (Ret fun _ w3 => ∃ st jump, st ≠ .busy ∧ w3.heap[l]? = some (.loop (recd fn tm ps A B r st jump)) ∧
    ∀ w4, SetBlock w3 w4 l (.loop (recd fn tm ps A B r .exhausted jump)) → J l r jump w4))
  (hnone : ∀ l r w4, J l r none w4 → E Q .normal N ⟨mark r :: ds.ds, none⟩ σ w4)
  (hsome : ∀ l r c w4, J l r (some c) w4 → C P c Q N ⟨mark r :: ds.ds, none⟩ σ w4) : C P (.rangeFunc g ps assign body) Q N ds σ w := ⟨fun a ha => by
 rw [Fc_none hro]
 refine wpIn_rangeFunc fun fn _ => ?_
 have s1 := hS.alloc (.deferred (some []))
 have s2 := s1.alloc (.loop (recd fn a.tmps ps assign body w.heap.size .ready none))
 simp only [World.size_alloc] at s2
 obtain ⟨w1, hw1⟩ : ∃ w1, w1 = (w.alloc (.deferred (some []))).alloc (.loop (recd fn a.tmps ps assign body w.heap.size .ready none)) := ⟨_, rfl⟩
 rw [← hw1] at s2
 refine ⟨w.heap.size + 1, [mark w.heap.size], w1, { target := .fn (.func gid) captured.toArray, args := first.toArray ++ #[.func (.yield (w.heap.size + 1)) #[] #[]] }, w1, gid,
  (first ++ (.func (.yield (w.heap.size + 1)) #[] #[] :: captured)).toArray, w1, ?_, ?_, fun _ _ => trivial, ?_, fun h => by simp [Fence.wide] at h, ?_⟩
 ·rw [hw1]
  simp [Instr.enterLoop, Fence.wide, recd, mark, newObj, Sem.run]
 ·simp only [resolve, ha.eval hg, List.map_toArray, List.map_cons, List.map_nil]
  rfl
 ·have := hfun.run (first ++ (.func (.yield (w.heap.size + 1)) #[] #[] :: captured)).toArray w1
  simp only [invoke]
  simpa using this
 ·obtain ⟨_, hc⟩ := hcall _ _ rfl rfl fn a.tmps (w.heap.size + 1) w.heap.size _ ha.size ha.at_ s2
  refine ⟨trivial, fun cs hr => ?_⟩
  obtain ⟨e, w3, fr, ⟨v, he, st, jump, hst, hl, hJ⟩, hs, hfn, hlv⟩ := hc cs hr
  subst he
  refine ⟨.returned v, w3, fr, ⟨jump, { w3 with heap := w3.heap.setIfInBounds (w.heap.size + 1) (.loop (recd fn a.tmps ps assign body w.heap.size .exhausted jump)) }, ?_, ?_⟩, hs, hfn, hlv⟩
  ·simp [Instr.endLoop, Instr.getLoop, getObj, setObj, Sem.run, hl, recd, hst]
  ·have hJ' := hJ _ (setBlock_put hl)
   have ha' : Fr σ N ⟨mark w.heap.size :: ds.ds, none⟩ { a with defers := [mark w.heap.size] ++ a.defers } := ⟨ha.size, by simp [ha.defers], ha.at_⟩
   cases jump with
   | none => exact (hnone _ _ _ hJ').run _ ha'
   | some c => exact (hsome _ _ c _ hJ').run _ ha'⟩
theorem E_mark {fn : Func} {R : Ending → World → Prop} {r : Nat} {dl : List Deferred} {e : Exit} (he : e = .ret ∨ e = .normal) (hr : w.heap[r]? = some (.deferred (some []))) (h : ∀ w', SetBlock w w' r (.deferred none) → E (BP P fn R) e N ⟨dl, none⟩ σ w') : E (BP P fn R) e N ⟨mark r :: dl, none⟩ σ w := ⟨fun a ha => by
 have h1 := h _ (setBlock_put hr)
 have h2 := h1.run { a with defers := dl } ⟨ha.size, rfl, ha.at_⟩
 have hd : a.defers = mark r :: dl := ha.defers
 have hk : (Instr.takeDeferred r).run P w = .ok [] { w with heap := w.heap.setIfInBounds r (.deferred none) } := by
  simp [Instr.takeDeferred, getObj, setObj, Sem.run, hr]
 rcases he with rfl | rfl
 ·show LeavesInM _ _ _ _ a.tmps R a.defers .returning w
  rw [hd]
  exact ⟨by simp, .inl ⟨r, _, rfl, hk, h2⟩⟩
 ·show LeavesInM _ _ _ _ a.tmps R a.defers .returning w
  rw [hd]
  exact ⟨by simp, .inl ⟨r, _, rfl, hk, h2⟩⟩⟩
end
end Cr
namespace Cr
open Go Go.Proofs
set_option maxRecDepth 100000

theorem backward_waiting (l bx n c : Nat) (a : Option Addr) (cs : List Value) (w : World) (T : TypeId) (hn : n ≤ 4611686018427387904) (hcs : cs.length = n * 65) (Inv : Nat → World → Prop) (Stop : World → Prop)
  (hbx : ∀ k w, Inv k w → w.heap[bx]? = some (.cells #[.slice a n c] T)) (hrow : ∀ k w, Inv k w → Rd w (row a cs)) (hl : ∀ k w, Inv k w → ∃ r : Loop, r.params.size = 2 ∧ w.heap[l]? = some (.loop r) ∧ (k ≠ 0 →
   RoundIn Fence.wide 0 Tryz.prog l r.fn ((r.params.zip #[.int .i64 ((k - 1 : Nat) : Int), .agg ((cs.drop ((k - 1) * 65)).take 65).toArray]).foldl (fun tmps (t, a) => tmps.setIfInBounds t a) r.tmps) r.assign r.body w
    (Ret fun v w' => (v = .bool true ∧ Inv (k - 1) w') ∨ (v = .bool false ∧ Stop w')))) (h0 : Inv n w) :
  CallsIn Fence.wide 0 Tryz.prog 222 #[.func (.yield l) #[] #[], .pointer (some ⟨bx, 0, none⟩)] w (Ret fun _ w' => Inv 0 w' ∨ Stop w') := by
 refine callsIn_wide.2 ?_
 have hb := hbx _ _ h0
 refine calls_C Tryz.func222 rfl Tryz.ntmps222 rfl ?_
 repeat (first | (refine G_id ?_; first | refine G_nil ?_ | refine G_plain rfl rfl ?_) | (refine X_id ?_; first | refine X_yl (Yl_assign rfl rfl) rfl rfl ?_ | refine X_yl (Yl_len rfl rfl) rfl rfl ?_ | refine X_yl (Yl_sub rfl rfl rfl (w64 (by omega) (by omega))) rfl rfl ?_ | refine X_yl (Yl_load rfl rfl (cell_at (by assumption))) rfl rfl ?_) | (refine C_id ?_; first | refine C_seq ?_ | refine C_region ?_ | refine C_block ?_) | (refine E_id ?_; first | refine E_code ?_))
 refine C_loop (α := Nat) (fun k => [(0, .func (.yield l) #[] #[]), (1, .pointer (some ⟨bx, 0, none⟩)), (3, .int .i64 ((k : Int) - 1))]) (fun k w => k ≤ n ∧ Inv k w) (fun k => k) n ⟨rfl, rfl, rfl, trivial⟩ ⟨Nat.le_refl _, h0⟩ ?_
 clear hb h0
 rintro k w ⟨hk, hi⟩
 have hb := hbx _ _ hi
 by_cases h0 : k = 0
 ·subst h0
  repeat (first | (refine G_id ?_; first | refine G_nil ?_ | refine G_plain rfl rfl ?_) | (refine X_id ?_; first | refine X_yl (Yl_move rfl rfl) rfl rfl ?_ | refine X_yl (Yl_geq_f rfl rfl rfl (by omega)) rfl rfl ?_) | (refine C_id ?_; first | refine C_seq ?_ | refine C_region ?_ | refine C_exit ?_ | refine C_cond_f rfl ?_) | (refine E_id ?_; first | refine E_code ?_ | refine E_then_exit ?_ | refine E_blk_same ?_ | refine E_end0 rfl (Ret.mk ?_)))
  exact .inl hi
 ·obtain ⟨r, hp, hlr, hr⟩ := hl _ _ hi
  have hr := hr h0
  have hcs0 : cs ≠ [] := by intro e; rw [e] at hcs; simp at hcs; omega
  have ha := (hrow _ _ hi).base hcs0
  have hseg := (hrow _ _ hi).seg ((k - 1) * 65) 65
  have e1 : ((k : Int) - 1).toNat = k - 1 := by omega
  have e2 : ((k - 1 : Nat) : Int) = (k : Int) - 1 := by omega
  rw [e2] at hr
  repeat (first | (refine G_id ?_; first | refine G_nil ?_ | refine G_plain rfl rfl ?_) | (refine X_id ?_; first | refine X_yl (Yl_move rfl rfl) rfl rfl ?_ | refine X_yl (Yl_geq_t rfl rfl rfl (by omega)) rfl rfl ?_ | refine X_yl (Yl_indexAddr rfl rfl rfl (by omega) (by omega) (by first | assumption | exact ⟨_, _, rfl⟩)) rfl rfl ?_ | refine X_yl (Yl_load rfl rfl (cell_at (by assumption))) rfl rfl ?_) | (refine C_id ?_; first | refine C_seq ?_ | refine C_region ?_ | refine C_block ?_ | refine C_skip ?_ | refine C_cond_t rfl ?_) | (refine E_id ?_; first | refine E_code ?_))
  rw [e1]
  refine X_yl (Yl_loadAgg rfl rfl hseg (by simp; omega)) rfl rfl ?_
  refine G_yield rfl rfl rfl rfl rfl rfl hlr (by rw [hp]; rfl) hr ?_
  rintro v w' (⟨rfl, hi'⟩ | ⟨rfl, hs⟩)
  ·repeat (first | (refine G_id ?_; first | refine G_nil ?_ | refine G_plain rfl rfl ?_) | (refine X_id ?_; first | refine X_yl (Yl_move rfl rfl) rfl rfl ?_ | refine X_yl (Yl_assign rfl rfl) rfl rfl ?_ | refine X_yl (Yl_not_t rfl rfl) rfl rfl ?_ | refine X_yl (Yl_sub rfl rfl rfl (w64 (by omega) (by omega))) rfl rfl ?_) | (refine C_id ?_; first | refine C_region ?_ | refine C_skip ?_ | refine C_cond_f rfl ?_) | (refine E_id ?_; first | refine E_code ?_ | refine E_blk_n ?_))
   refine E_round (k - 1) ⟨rfl, rfl, ?_, trivial⟩ ⟨by omega, hi'⟩ (by omega)
   rw [e2]; rfl
  ·repeat (first | (refine G_id ?_; first | refine G_nil ?_ | refine G_plain rfl rfl ?_) | (refine X_id ?_; first | refine X_yl (Yl_not_f rfl rfl) rfl rfl ?_) | (refine C_id ?_; first | refine C_ret ?_ | refine C_cond_t rfl ?_) | (refine E_id ?_; first | refine E_code ?_ | refine E_then_ret ?_ | refine E_blk_ret ?_ | refine E_ret0 rfl (Ret.mk ?_)))
   exact .inr hs
end Cr
