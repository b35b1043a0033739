/-
  FACTS ON THE TYPES AND FUNCTIONS OF THIS SEAT's TRANSLATION,written by a program off the dump's rows; each is proved by the kernel.
  'for .. := range f { .. }',f a function: rules for the walk. Over any program.
  Bits,strings of bytes. Over any program.
  Layer 2 (digest): what each function of package digest computes.
  The two tables of package digest,as the program's text lays them.
  A law's wrap,for every law alike: what is as it was reads as it did.
  Lists of cells in parts; bytes in a block; quotients. Over any program.
  Calls that make memory. Over any program.
  Conversions between bytes and strings,strings' comparison,copy,append of zeros. Over any program.
  Operations on strings: sums,lengths,pieces,bytes of a string. Over any program.
  Layer 2 (digest): mix.
-/
import Derived.Test.YtjpjbgkjfdhjjaaGreatDoorBsl2
import Derived.Test.YtjpjbgkjfdhjjaaGreatDoorRows
import Derived.Test.YtjpjbgkjfdhjjaaGreatDoorCards
import Derived.Test.YtjpjbgkjfdhjjaaGreatDoorTie
import Derived.WalkKit
import Derived.ProofKit
import Derived.OpenShut
import Derived.Deep.DeepHandedRow
import Derived.Lib.LaidTab
import Derived.Stop.LaidErr
import Derived.Carry
import Derived.Laws.BytesString
import Derived.Laws.Strings
import Derived.Laws.CopyRow
import Derived.Lib.ConvBytes
import Derived.Laws.Concat
namespace Cr
open Go Go.Proofs
set_option maxHeartbeats 64000000
theorem Inf.k {P : Program} {t : TypeId} {z : Value} {s b : Nat} (h : (P.info? t).map (fun i => (i.zero,i.size,i.bytes)) = some (some z,s,b) := by kernel_rfl) (h2 : z.cells.size = s := by kernel_rfl) : Inf P t z s b := ⟨h,h2⟩
theorem Str.k {P : Program} {t : TypeId} {l : List Field} {pl : List (Nat × Nat)} (u : P.underlying t = some (.struct l.toArray)) (h : l.map (fun f => (P.info? f.type).map (·.size)) = pl.map (fun x => some x.2) := by kernel_rfl) (h2 : l.map (·.offset) = pl.map (·.1) := by kernel_rfl) : Str P t pl := ⟨⟨l,u,h,h2⟩⟩
def isAg : TypeDesc → Bool
 | .struct _ | .array _ _ => true
 | _ => false
theorem Agg.k {P : Program} {t : TypeId} {d : TypeDesc} (u : P.underlying t = some d) (h : isAg d = true := by rfl) : Agg P t := ⟨fun w => by rw [Zc5 u w]; cases d <;> first | rfl | cases h⟩
theorem Fld.k {P : Program} {s f off n : Nat} {t : TypeId} {fs : Array Field} {fd : Field} (u : P.underlying s = some (.struct fs)) (h : fs[f]? = some fd := by rfl) (h2 : fd.offset = off := by rfl) (h3 : fd.type = t := by rfl) (h4 : (P.info? t).map (·.size) = some n := by kernel_rfl) : Fld P s f off t n := ⟨⟨fs,fd,u,h,h2,h3,h4⟩⟩
theorem Fun.k {P : Program} {g : FuncId} {fn : Func} (h : P.funcs[g]? = some fn) (hn : (fn.name == "runtime.NumGoroutine") = false := by kernel_rfl) (hb : fn.body.isSome = true := by kernel_rfl) : Fun P g := Fun.mk' h hn hb
instance : Und Tryz.prog 3 (.int .i64) := ⟨Tryz.underlying3⟩
instance : Inf Tryz.prog 3 (.int .i64 0) 1 8 := .k
instance : Und Tryz.prog 4 (.bool) := ⟨Tryz.underlying4⟩
instance : Inf Tryz.prog 4 (.bool false) 1 1 := .k
instance : Und Tryz.prog 5 (.int .u8) := ⟨Tryz.underlying5⟩
instance : Inf Tryz.prog 5 (.int .u8 0) 1 1 := .k
instance : Und Tryz.prog 9 (.string) := ⟨Tryz.underlying9⟩
instance : Inf Tryz.prog 9 (.string ⟨#[]⟩) 1 16 := .k
instance : Und Tryz.prog 21 (.int .i32) := ⟨Tryz.underlying21⟩
instance : Und Tryz.prog 22 (.slice 5) := ⟨Tryz.underlying22⟩
instance : Inf Tryz.prog 22 (.slice none 0 0) 1 24 := .k
instance : Und Tryz.prog 23 (.pointer 168) := ⟨Tryz.underlying23⟩
instance : Und Tryz.prog 24 (.pointer 173) := ⟨Tryz.underlying24⟩
instance : Und Tryz.prog 28 (.int .i64) := ⟨Tryz.underlying28⟩
instance : Inf Tryz.prog 28 (.int .i64 0) 1 8 := .k
instance : Und Tryz.prog 35 (.slice 9) := ⟨Tryz.underlying35⟩
instance : Und Tryz.prog 43 (.int .u64) := ⟨Tryz.underlying43⟩
instance : Inf Tryz.prog 43 (.int .u64 0) 1 8 := .k
instance : Agg Tryz.prog 51 := .k Tryz.underlying51
instance : Inf Tryz.prog 51 (.agg #[(.int .i64 0),(.int .i64 0),(.int .i64 0),(.int .i64 0)]) 4 32 := .k
instance : Str Tryz.prog 51 [(0,1),(1,1),(2,1),(3,1)] := .k Tryz.underlying51
instance : Fld Tryz.prog 51 0 0 3 1 := .k Tryz.underlying51
instance : Fld Tryz.prog 51 1 1 3 1 := .k Tryz.underlying51
instance : Fld Tryz.prog 51 2 2 3 1 := .k Tryz.underlying51
instance : Fld Tryz.prog 51 3 3 3 1 := .k Tryz.underlying51
instance : Agg Tryz.prog 53 := .k Tryz.underlying53
instance : Inf Tryz.prog 53 (.agg #[(.int .i64 0),(.int .i64 0),(.int .i64 0),(.int .i64 0),(.slice none 0 0)]) 5 56 := .k
instance : Str Tryz.prog 53 [(0,4),(4,1)] := .k Tryz.underlying53
instance : Fld Tryz.prog 53 0 0 51 4 := .k Tryz.underlying53
instance : Fld Tryz.prog 53 1 4 22 1 := .k Tryz.underlying53
instance : Und Tryz.prog 54 (.array 32 5) := ⟨Tryz.underlying54⟩
instance : Inf Tryz.prog 54 (.agg (List.replicate 32 (.int .u8 0)).toArray) 32 32 := .k
instance : Und Tryz.prog 57 (.array 8 3) := ⟨Tryz.underlying57⟩
instance : Inf Tryz.prog 57 (.agg #[(.int .i64 0),(.int .i64 0),(.int .i64 0),(.int .i64 0),(.int .i64 0),(.int .i64 0),(.int .i64 0),(.int .i64 0)]) 8 64 := .k
instance : Und Tryz.prog 58 (.array 64 3) := ⟨Tryz.underlying58⟩
instance : Inf Tryz.prog 58 (.agg (List.replicate 64 (.int .i64 0)).toArray) 64 512 := .k
instance : Agg Tryz.prog 60 := .k Tryz.underlying60
instance : Inf Tryz.prog 60 (.agg (List.replicate 72 (.int .i64 0)).toArray) 72 576 := .k
instance : Fld Tryz.prog 60 0 0 57 8 := .k Tryz.underlying60
instance : Fld Tryz.prog 60 1 8 58 64 := .k Tryz.underlying60
instance : Und Tryz.prog 63 (.slice 22) := ⟨Tryz.underlying63⟩
instance : Und Tryz.prog 65 (.pointer 136) := ⟨Tryz.underlying65⟩
instance : Und Tryz.prog 68 (.pointer 149) := ⟨Tryz.underlying68⟩
instance : Inf Tryz.prog 68 (.pointer none) 1 8 := .k
instance : Und Tryz.prog 71 (.pointer 161) := ⟨Tryz.underlying71⟩
instance : Agg Tryz.prog 86 := .k Tryz.underlying86
instance : Inf Tryz.prog 86 (.agg #[(.int .i64 0),(.int .i64 0),(.int .i64 0),(.int .i64 0),(.int .i64 0),(.slice none 0 0)]) 6 64 := .k
instance : Str Tryz.prog 86 [(0,1),(1,5)] := .k Tryz.underlying86
instance : Fld Tryz.prog 86 0 0 3 1 := .k Tryz.underlying86
instance : Fld Tryz.prog 86 1 1 53 5 := .k Tryz.underlying86
instance : Und Tryz.prog 89 (.slice 93) := ⟨Tryz.underlying89⟩
instance : Agg Tryz.prog 93 := .k Tryz.underlying93
instance : Inf Tryz.prog 93 (.agg #[(.string ⟨#[]⟩),(.int .i64 0)]) 2 24 := .k
instance : Str Tryz.prog 93 [(0,1),(1,1)] := .k Tryz.underlying93
instance : Fld Tryz.prog 93 0 0 9 1 := .k Tryz.underlying93
instance : Fld Tryz.prog 93 1 1 3 1 := .k Tryz.underlying93
instance : Und Tryz.prog 94 (.slice 3) := ⟨Tryz.underlying94⟩
instance : Inf Tryz.prog 94 (.slice none 0 0) 1 24 := .k
instance : Und Tryz.prog 125 (.int .u64) := ⟨Tryz.underlying125⟩
instance : Und Tryz.prog 126 (.slice 285) := ⟨Tryz.underlying126⟩
instance : Fld Tryz.prog 128 0 0 4 1 := .k Tryz.underlying128
instance : Fld Tryz.prog 128 1 1 4 1 := .k Tryz.underlying128
instance : Fld Tryz.prog 128 2 2 3 1 := .k Tryz.underlying128
instance : Und Tryz.prog 129 (.slice 287) := ⟨Tryz.underlying129⟩
instance : Inf Tryz.prog 129 (.slice none 0 0) 1 24 := .k
instance : Fld Tryz.prog 134 2 0 2 1 := .k Tryz.underlying134
instance : Inf Tryz.prog 136 (.agg #[(.bool false),(.bool false),(.int .i64 0),(.slice none 0 0),(.slice none 0 0),(.int .i64 0),(.int .i64 0)]) 7 80 := .k
instance : Str Tryz.prog 136 [(0,3),(3,1),(4,1),(5,1),(6,1)] := .k Tryz.underlying136
instance : Fld Tryz.prog 136 0 0 128 3 := .k Tryz.underlying136
instance : Fld Tryz.prog 136 1 3 126 1 := .k Tryz.underlying136
instance : Fld Tryz.prog 136 2 4 129 1 := .k Tryz.underlying136
instance : Fld Tryz.prog 136 3 5 134 1 := .k Tryz.underlying136
instance : Fld Tryz.prog 136 4 6 134 1 := .k Tryz.underlying136
instance : Und Tryz.prog 139 (.int .u32) := ⟨Tryz.underlying139⟩
instance : Inf Tryz.prog 139 (.int .u32 0) 1 4 := .k
instance : Fld Tryz.prog 141 1 0 139 1 := .k Tryz.underlying141
instance : Inf Tryz.prog 143 (.agg #[(.int .i32 0),(.int .u32 0)]) 2 8 := .k
instance : Fld Tryz.prog 143 0 0 21 1 := .k Tryz.underlying143
instance : Fld Tryz.prog 145 1 0 143 2 := .k Tryz.underlying145
instance : Fld Tryz.prog 147 1 0 141 1 := .k Tryz.underlying147
instance : Fld Tryz.prog 147 2 1 145 2 := .k Tryz.underlying147
instance : Inf Tryz.prog 149 (.agg #[(.pointer none),(.int .u32 0),(.int .i32 0),(.int .u32 0),(.int .i64 0),(.int .i64 0),(.bool false)]) 7 48 := .k
instance : Str Tryz.prog 149 [(0,1),(1,3),(4,1),(5,1),(6,1)] := .k Tryz.underlying149
instance : Fld Tryz.prog 149 0 0 65 1 := .k Tryz.underlying149
instance : Fld Tryz.prog 149 1 1 147 3 := .k Tryz.underlying149
instance : Fld Tryz.prog 149 2 4 3 1 := .k Tryz.underlying149
instance : Fld Tryz.prog 149 3 5 3 1 := .k Tryz.underlying149
instance : Fld Tryz.prog 149 4 6 4 1 := .k Tryz.underlying149
instance : Agg Tryz.prog 158 := .k Tryz.underlying158
instance : Inf Tryz.prog 158 (.agg #[(.int .i64 0),(.slice none 0 0)]) 2 32 := .k
instance : Str Tryz.prog 158 [(0,1),(1,1)] := .k Tryz.underlying158
instance : Fld Tryz.prog 158 0 0 3 1 := .k Tryz.underlying158
instance : Fld Tryz.prog 158 1 1 22 1 := .k Tryz.underlying158
instance : Und Tryz.prog 159 (.map 3 241) := ⟨Tryz.underlying159⟩
instance : Inf Tryz.prog 159 (.map none) 1 8 := .k
instance : Inf Tryz.prog 161 (.agg #[(.pointer none),(.int .i64 0),(.map none)]) 3 24 := .k
instance : Str Tryz.prog 161 [(0,1),(1,1),(2,1)] := .k Tryz.underlying161
instance : Fld Tryz.prog 161 0 0 68 1 := .k Tryz.underlying161
instance : Fld Tryz.prog 161 1 1 3 1 := .k Tryz.underlying161
instance : Fld Tryz.prog 161 2 2 159 1 := .k Tryz.underlying161
instance : Agg Tryz.prog 165 := .k Tryz.underlying165
instance : Inf Tryz.prog 165 (.agg #[(.int .i64 0),(.int .i64 0),(.int .i64 0),(.int .i64 0),(.int .i64 0),(.slice none 0 0),(.bool false)]) 7 72 := .k
instance : Str Tryz.prog 165 [(0,1),(1,5),(6,1)] := .k Tryz.underlying165
instance : Fld Tryz.prog 165 0 0 3 1 := .k Tryz.underlying165
instance : Fld Tryz.prog 165 1 1 53 5 := .k Tryz.underlying165
instance : Fld Tryz.prog 165 2 6 4 1 := .k Tryz.underlying165
instance : Inf Tryz.prog 168 (.agg #[(.pointer none),(.int .i64 0)]) 2 16 := .k
instance : Str Tryz.prog 168 [(0,1),(1,1)] := .k Tryz.underlying168
instance : Fld Tryz.prog 168 0 0 71 1 := .k Tryz.underlying168
instance : Fld Tryz.prog 168 1 1 134 1 := .k Tryz.underlying168
instance : Und Tryz.prog 170 (.map 3 53) := ⟨Tryz.underlying170⟩
instance : Und Tryz.prog 171 (.map 3 4) := ⟨Tryz.underlying171⟩
instance : Inf Tryz.prog 173 (.agg #[(.pointer none),(.int .i64 0),(.bool false),(.map none),(.map none)]) 5 40 := .k
instance : Str Tryz.prog 173 [(0,1),(1,1),(2,1),(3,1),(4,1)] := .k Tryz.underlying173
instance : Fld Tryz.prog 173 0 0 23 1 := .k Tryz.underlying173
instance : Fld Tryz.prog 173 3 3 170 1 := .k Tryz.underlying173
instance : Fld Tryz.prog 173 4 4 171 1 := .k Tryz.underlying173
instance : Inf Tryz.prog 174 (.agg #[(.int .i64 0),(.int .i64 0),(.int .i64 0),(.int .i64 0)]) 4 32 := .k
instance : Str Tryz.prog 174 [(0,1),(1,1),(2,1),(3,1)] := .k Tryz.underlying174
instance : Inf Tryz.prog 177 (.agg #[(.int .i64 0),(.int .i64 0),(.int .i64 0),(.int .i64 0),(.slice none 0 0),(.int .i64 0)]) 6 64 := .k
instance : Str Tryz.prog 177 [(0,4),(4,1),(5,1)] := .k Tryz.underlying177
instance : Und Tryz.prog 204 (.slice 206) := ⟨Tryz.underlying204⟩
instance : Inf Tryz.prog 204 (.slice none 0 0) 1 24 := .k
instance : Agg Tryz.prog 206 := .k Tryz.underlying206
instance : Inf Tryz.prog 206 (.agg #[(.int .i64 0),(.int .i64 0),(.slice none 0 0),(.slice none 0 0)]) 4 64 := .k
instance : Str Tryz.prog 206 [(0,1),(1,1),(2,1),(3,1)] := .k Tryz.underlying206
instance : Fld Tryz.prog 206 0 0 3 1 := .k Tryz.underlying206
instance : Fld Tryz.prog 206 1 1 3 1 := .k Tryz.underlying206
instance : Fld Tryz.prog 206 2 2 22 1 := .k Tryz.underlying206
instance : Fld Tryz.prog 206 3 3 204 1 := .k Tryz.underlying206
instance : Und Tryz.prog 211 (.pointer 216) := ⟨Tryz.underlying211⟩
instance : Und Tryz.prog 213 (.array 8 139) := ⟨Tryz.underlying213⟩
instance : Inf Tryz.prog 213 (.agg #[(.int .u32 0),(.int .u32 0),(.int .u32 0),(.int .u32 0),(.int .u32 0),(.int .u32 0),(.int .u32 0),(.int .u32 0)]) 8 32 := .k
instance : Und Tryz.prog 214 (.array 64 5) := ⟨Tryz.underlying214⟩
instance : Agg Tryz.prog 216 := .k Tryz.underlying216
instance : Inf Tryz.prog 216 (.agg ((.int .u32 0) :: (.int .u32 0) :: (.int .u32 0) :: (.int .u32 0) :: (.int .u32 0) :: (.int .u32 0) :: (.int .u32 0) :: (.int .u32 0) :: (List.replicate 64 (.int .u8 0) ++ ([(.int .i64 0)]))).toArray) 73 104 := .k
instance : Str Tryz.prog 216 [(0,8),(8,64),(72,1)] := .k Tryz.underlying216
instance : Fld Tryz.prog 216 0 0 213 8 := .k Tryz.underlying216
instance : Fld Tryz.prog 216 1 8 214 64 := .k Tryz.underlying216
instance : Fld Tryz.prog 216 2 72 3 1 := .k Tryz.underlying216
instance : Und Tryz.prog 217 (.array 4 5) := ⟨Tryz.underlying217⟩
instance : Inf Tryz.prog 217 (.agg #[(.int .u8 0),(.int .u8 0),(.int .u8 0),(.int .u8 0)]) 4 4 := .k
instance : Und Tryz.prog 221 (.array 2 3) := ⟨Tryz.underlying221⟩
instance : Inf Tryz.prog 221 (.agg #[(.int .i64 0),(.int .i64 0)]) 2 16 := .k
instance : Und Tryz.prog 222 (.slice 43) := ⟨Tryz.underlying222⟩
instance : Und Tryz.prog 227 (.slice 158) := ⟨Tryz.underlying227⟩
instance : Inf Tryz.prog 227 (.slice none 0 0) 1 24 := .k
instance : Inf Tryz.prog 232 (.agg #[(.pointer none),(.int .i64 0)]) 2 16 := .k
instance : Str Tryz.prog 232 [(0,1),(1,1)] := .k Tryz.underlying232
instance : Fld Tryz.prog 232 0 0 65 1 := .k Tryz.underlying232
instance : Fld Tryz.prog 232 1 1 28 1 := .k Tryz.underlying232
instance : Agg Tryz.prog 241 := .k Tryz.underlying241
instance : Inf Tryz.prog 241 (.agg #[(.int .i64 0),(.int .i64 0),(.int .i64 0),(.int .i64 0),(.slice none 0 0),(.slice none 0 0)]) 6 80 := .k
instance : Str Tryz.prog 241 [(0,5),(5,1)] := .k Tryz.underlying241
instance : Fld Tryz.prog 241 0 0 53 5 := .k Tryz.underlying241
instance : Fld Tryz.prog 241 1 5 94 1 := .k Tryz.underlying241
instance : Und Tryz.prog 243 (.slice 165) := ⟨Tryz.underlying243⟩
instance : Inf Tryz.prog 273 (.agg #[(.slice none 0 0),(.bool false)]) 2 32 := .k
instance : Str Tryz.prog 273 [(0,1),(1,1)] := .k Tryz.underlying273
instance : Fld Tryz.prog 273 0 0 22 1 := .k Tryz.underlying273
instance : Fld Tryz.prog 273 1 1 4 1 := .k Tryz.underlying273
instance : Und Tryz.prog 285 (.array 64 5) := ⟨Tryz.underlying285⟩
instance : Inf Tryz.prog 285 (.agg (List.replicate 64 (.int .u8 0)).toArray) 64 64 := .k
instance : Agg Tryz.prog 287 := .k Tryz.underlying287
instance : Inf Tryz.prog 287 (.agg ((.int .i64 0) :: (List.replicate 64 (.int .u8 0))).toArray) 65 72 := .k
instance : Str Tryz.prog 287 [(0,1),(1,64)] := .k Tryz.underlying287
instance : Fld Tryz.prog 287 0 0 3 1 := .k Tryz.underlying287
instance : Fld Tryz.prog 287 1 1 285 64 := .k Tryz.underlying287
instance : Inf Tryz.prog 326 (.agg #[(.slice none 0 0),(.int .i64 0)]) 2 32 := .k
instance : Str Tryz.prog 326 [(0,1),(1,1)] := .k Tryz.underlying326
instance : Fld Tryz.prog 326 0 0 22 1 := .k Tryz.underlying326
instance : Fld Tryz.prog 326 1 1 3 1 := .k Tryz.underlying326
instance : Inf Tryz.prog 328 (.agg #[(.slice none 0 0),(.int .i64 0),(.int .i64 0)]) 3 40 := .k
instance : Str Tryz.prog 328 [(0,2),(2,1)] := .k Tryz.underlying328
instance : Fld Tryz.prog 328 0 0 326 2 := .k Tryz.underlying328
instance : Fld Tryz.prog 328 1 2 28 1 := .k Tryz.underlying328
instance : Und Tryz.prog 335 (.array 64 139) := ⟨Tryz.underlying335⟩
instance : Inf Tryz.prog 335 (.agg (List.replicate 64 (.int .u32 0)).toArray) 64 256 := .k
instance : Und Tryz.prog 339 (.pointer 143) := ⟨Tryz.underlying339⟩
instance : Fun Tryz.prog 5 := .k Tryz.func5
instance : Fun Tryz.prog 6 := .k Tryz.func6
instance : Fun Tryz.prog 8 := .k Tryz.func8
instance : Fun Tryz.prog 9 := .k Tryz.func9
instance : Fun Tryz.prog 11 := .k Tryz.func11
instance : Fun Tryz.prog 13 := .k Tryz.func13
instance : Fun Tryz.prog 15 := .k Tryz.func15
instance : Fun Tryz.prog 16 := .k Tryz.func16
instance : Fun Tryz.prog 17 := .k Tryz.func17
instance : Fun Tryz.prog 18 := .k Tryz.func18
instance : Fun Tryz.prog 19 := .k Tryz.func19
instance : Fun Tryz.prog 20 := .k Tryz.func20
instance : Fun Tryz.prog 21 := .k Tryz.func21
instance : Fun Tryz.prog 22 := .k Tryz.func22
instance : Fun Tryz.prog 23 := .k Tryz.func23
instance : Fun Tryz.prog 24 := .k Tryz.func24
instance : Fun Tryz.prog 25 := .k Tryz.func25
instance : Fun Tryz.prog 26 := .k Tryz.func26
instance : Fun Tryz.prog 27 := .k Tryz.func27
instance : Fun Tryz.prog 28 := .k Tryz.func28
instance : Fun Tryz.prog 29 := .k Tryz.func29
instance : Fun Tryz.prog 30 := .k Tryz.func30
instance : Fun Tryz.prog 31 := .k Tryz.func31
instance : Fun Tryz.prog 32 := .k Tryz.func32
instance : Fun Tryz.prog 34 := .k Tryz.func34
instance : Fun Tryz.prog 35 := .k Tryz.func35
instance : Fun Tryz.prog 36 := .k Tryz.func36
instance : Fun Tryz.prog 40 := .k Tryz.func40
instance : Fun Tryz.prog 45 := .k Tryz.func45
instance : Fun Tryz.prog 46 := .k Tryz.func46
instance : Fun Tryz.prog 47 := .k Tryz.func47
instance : Fun Tryz.prog 48 := .k Tryz.func48
instance : Fun Tryz.prog 49 := .k Tryz.func49
instance : Fun Tryz.prog 50 := .k Tryz.func50
instance : Fun Tryz.prog 51 := .k Tryz.func51
instance : Fun Tryz.prog 52 := .k Tryz.func52
instance : Fun Tryz.prog 53 := .k Tryz.func53
instance : Fun Tryz.prog 54 := .k Tryz.func54
instance : Fun Tryz.prog 55 := .k Tryz.func55
instance : Fun Tryz.prog 56 := .k Tryz.func56
instance : Fun Tryz.prog 57 := .k Tryz.func57
instance : Fun Tryz.prog 58 := .k Tryz.func58
instance : Fun Tryz.prog 59 := .k Tryz.func59
instance : Fun Tryz.prog 60 := .k Tryz.func60
instance : Fun Tryz.prog 61 := .k Tryz.func61
instance : Fun Tryz.prog 62 := .k Tryz.func62
instance : Fun Tryz.prog 63 := .k Tryz.func63
instance : Fun Tryz.prog 64 := .k Tryz.func64
instance : Fun Tryz.prog 65 := .k Tryz.func65
instance : Fun Tryz.prog 66 := .k Tryz.func66
instance : Fun Tryz.prog 67 := .k Tryz.func67
instance : Fun Tryz.prog 68 := .k Tryz.func68
instance : Fun Tryz.prog 69 := .k Tryz.func69
instance : Fun Tryz.prog 70 := .k Tryz.func70
instance : Fun Tryz.prog 71 := .k Tryz.func71
instance : Fun Tryz.prog 72 := .k Tryz.func72
instance : Fun Tryz.prog 73 := .k Tryz.func73
instance : Fun Tryz.prog 74 := .k Tryz.func74
instance : Fun Tryz.prog 75 := .k Tryz.func75
instance : Fun Tryz.prog 76 := .k Tryz.func76
instance : Fun Tryz.prog 77 := .k Tryz.func77
instance : Fun Tryz.prog 78 := .k Tryz.func78
instance : Fun Tryz.prog 88 := .k Tryz.func88
instance : Fun Tryz.prog 89 := .k Tryz.func89
instance : Fun Tryz.prog 90 := .k Tryz.func90
instance : Fun Tryz.prog 91 := .k Tryz.func91
instance : Fun Tryz.prog 92 := .k Tryz.func92
instance : Fun Tryz.prog 93 := .k Tryz.func93
instance : Fun Tryz.prog 94 := .k Tryz.func94
instance : Fun Tryz.prog 95 := .k Tryz.func95
instance : Fun Tryz.prog 96 := .k Tryz.func96
instance : Fun Tryz.prog 97 := .k Tryz.func97
instance : Fun Tryz.prog 98 := .k Tryz.func98
instance : Fun Tryz.prog 99 := .k Tryz.func99
instance : Fun Tryz.prog 100 := .k Tryz.func100
instance : Fun Tryz.prog 101 := .k Tryz.func101
instance : Fun Tryz.prog 102 := .k Tryz.func102
instance : Fun Tryz.prog 103 := .k Tryz.func103
instance : Fun Tryz.prog 104 := .k Tryz.func104
instance : Fun Tryz.prog 105 := .k Tryz.func105
instance : Fun Tryz.prog 106 := .k Tryz.func106
instance : Fun Tryz.prog 107 := .k Tryz.func107
instance : Fun Tryz.prog 108 := .k Tryz.func108
instance : Fun Tryz.prog 109 := .k Tryz.func109
instance : Fun Tryz.prog 110 := .k Tryz.func110
instance : Fun Tryz.prog 111 := .k Tryz.func111
instance : Fun Tryz.prog 112 := .k Tryz.func112
instance : Fun Tryz.prog 113 := .k Tryz.func113
instance : Fun Tryz.prog 114 := .k Tryz.func114
instance : Fun Tryz.prog 115 := .k Tryz.func115
instance : Fun Tryz.prog 116 := .k Tryz.func116
instance : Fun Tryz.prog 117 := .k Tryz.func117
instance : Fun Tryz.prog 118 := .k Tryz.func118
instance : Fun Tryz.prog 119 := .k Tryz.func119
instance : Fun Tryz.prog 120 := .k Tryz.func120
instance : Fun Tryz.prog 121 := .k Tryz.func121
instance : Fun Tryz.prog 122 := .k Tryz.func122
instance : Fun Tryz.prog 123 := .k Tryz.func123
instance : Fun Tryz.prog 124 := .k Tryz.func124
instance : Fun Tryz.prog 125 := .k Tryz.func125
instance : Fun Tryz.prog 126 := .k Tryz.func126
instance : Fun Tryz.prog 127 := .k Tryz.func127
instance : Fun Tryz.prog 128 := .k Tryz.func128
instance : Fun Tryz.prog 129 := .k Tryz.func129
instance : Fun Tryz.prog 130 := .k Tryz.func130
instance : Fun Tryz.prog 131 := .k Tryz.func131
instance : Fun Tryz.prog 132 := .k Tryz.func132
instance : Fun Tryz.prog 133 := .k Tryz.func133
instance : ELoad Tryz.prog 134 .i64 := ⟨fun hc => run_call_load Tryz.func134 (by kernel_rfl) (by kernel_rfl) (by kernel_rfl) .i64 (by kernel_rfl) hc⟩
instance : Fun Tryz.prog 135 := .k Tryz.func135
instance : Fun Tryz.prog 137 := .k Tryz.func137
instance : Fun Tryz.prog 138 := .k Tryz.func138
instance : Fun Tryz.prog 139 := .k Tryz.func139
instance : Fun Tryz.prog 145 := .k Tryz.func145
instance : Fun Tryz.prog 149 := .k Tryz.func149
instance : Fun Tryz.prog 150 := .k Tryz.func150
instance : Fun Tryz.prog 151 := .k Tryz.func151
instance : Fun Tryz.prog 152 := .k Tryz.func152
instance : Fun Tryz.prog 153 := .k Tryz.func153
instance : Fun Tryz.prog 154 := .k Tryz.func154
instance : ELoad Tryz.prog 155 .u32 := ⟨fun hc => run_call_load Tryz.func155 (by kernel_rfl) (by kernel_rfl) (by kernel_rfl) .u32 (by kernel_rfl) hc⟩
instance : Fun Tryz.prog 156 := .k Tryz.func156
instance : Fun Tryz.prog 157 := .k Tryz.func157
instance : Fun Tryz.prog 158 := .k Tryz.func158
instance : Fun Tryz.prog 159 := .k Tryz.func159
instance : Fun Tryz.prog 160 := .k Tryz.func160
instance : Fun Tryz.prog 161 := .k Tryz.func161
instance : Fun Tryz.prog 162 := .k Tryz.func162
instance : Fun Tryz.prog 163 := .k Tryz.func163
instance : Fun Tryz.prog 164 := .k Tryz.func164
instance : Fun Tryz.prog 165 := .k Tryz.func165
instance : Fun Tryz.prog 166 := .k Tryz.func166
instance : Fun Tryz.prog 167 := .k Tryz.func167
instance : Fun Tryz.prog 168 := .k Tryz.func168
instance : Fun Tryz.prog 169 := .k Tryz.func169
instance : Fun Tryz.prog 170 := .k Tryz.func170
instance : Fun Tryz.prog 171 := .k Tryz.func171
instance : Fun Tryz.prog 173 := .k Tryz.func173
instance : Fun Tryz.prog 174 := .k Tryz.func174
instance : Fun Tryz.prog 175 := .k Tryz.func175
instance : Fun Tryz.prog 176 := .k Tryz.func176
instance : Fun Tryz.prog 178 := .k Tryz.func178
instance : Fun Tryz.prog 179 := .k Tryz.func179
instance : Fun Tryz.prog 191 := .k Tryz.func191
instance : Fun Tryz.prog 192 := .k Tryz.func192
instance : Fun Tryz.prog 193 := .k Tryz.func193
instance : Fun Tryz.prog 194 := .k Tryz.func194
instance : Fun Tryz.prog 195 := .k Tryz.func195
instance : EStore Tryz.prog 196 := ⟨fun hc hz => run_call_store Tryz.func196 (by kernel_rfl) (by kernel_rfl) (by kernel_rfl) (by kernel_rfl) hc hz⟩
instance : Fun Tryz.prog 197 := .k Tryz.func197
instance : Fun Tryz.prog 198 := .k Tryz.func198
instance : Fun Tryz.prog 199 := .k Tryz.func199
instance : Fun Tryz.prog 200 := .k Tryz.func200
instance : Fun Tryz.prog 201 := .k Tryz.func201
instance : Fun Tryz.prog 202 := .k Tryz.func202
instance : Fun Tryz.prog 203 := .k Tryz.func203
instance : Fun Tryz.prog 204 := .k Tryz.func204
instance : Fun Tryz.prog 205 := .k Tryz.func205
instance : Fun Tryz.prog 206 := .k Tryz.func206
instance : Fun Tryz.prog 207 := .k Tryz.func207
instance : Fun Tryz.prog 212 := .k Tryz.func212
instance : Fun Tryz.prog 220 := .k Tryz.func220
instance : Fun Tryz.prog 221 := .k Tryz.func221
instance : Fun Tryz.prog 222 := .k Tryz.func222
instance : EMark0 Tryz.prog 223 := ⟨fun w => run_call_mark0 Tryz.func223 (by kernel_rfl) (by kernel_rfl) (by kernel_rfl) .disable (by kernel_rfl) w⟩
instance : ECas Tryz.prog 224 .i32 := ⟨fun hc hz => run_call_cas_hit Tryz.func224 (by kernel_rfl) (by kernel_rfl) (by kernel_rfl) .i32 (by kernel_rfl) hc hz⟩
instance : EMark0 Tryz.prog 225 := ⟨fun w => run_call_mark0 Tryz.func225 (by kernel_rfl) (by kernel_rfl) (by kernel_rfl) .enable (by kernel_rfl) w⟩
instance : EMark Tryz.prog 226 := ⟨fun a w => run_call_marked Tryz.func226 (by kernel_rfl) (by kernel_rfl) (by kernel_rfl) .acquire (by kernel_rfl) a w⟩
instance : EMark Tryz.prog 228 := ⟨fun a w => run_call_marked Tryz.func228 (by kernel_rfl) (by kernel_rfl) (by kernel_rfl) .releaseMerge (by kernel_rfl) a w⟩
instance : EAdd Tryz.prog 229 .i32 := ⟨fun hc hz hs => run_call_add Tryz.func229 (by kernel_rfl) (by kernel_rfl) (by kernel_rfl) .i32 (by kernel_rfl) hc hz hs⟩
instance : EAdd Tryz.prog 231 .i64 := ⟨fun hc hz hs => run_call_add Tryz.func231 (by kernel_rfl) (by kernel_rfl) (by kernel_rfl) .i64 (by kernel_rfl) hc hz hs⟩
instance : Fun Tryz.prog 233 := .k Tryz.func233
instance : Fun Tryz.prog 241 := .k Tryz.func241
instance : Fun Tryz.prog 242 := .k Tryz.func242
instance : Fun Tryz.prog 243 := .k Tryz.func243
instance : Fun Tryz.prog 244 := .k Tryz.func244
instance : Fun Tryz.prog 245 := .k Tryz.func245
instance : Fun Tryz.prog 246 := .k Tryz.func246
instance : Fun Tryz.prog 273 := .k Tryz.func273
instance : Fun Tryz.prog 274 := .k Tryz.func274
theorem mixed : Tryz.prog.follows .mixedOrders = true := by kernel_rfl
end Cr
namespace Cr
open Go
set_option maxHeartbeats 64000000

theorem Za6 {w : World} {b : Nat} {o o' : Obj} (h : w.heap[b]? = some o) : SetBlock w { w with heap := w.heap.setIfInBounds b o' } b o' := by
 have hlt := Zb6 h
 refine ⟨by simp,?_,fun k hk => ?_,rfl,rfl,rfl⟩
 ·simp [hlt]
 ·simp [Ne.symm hk]

section
variable {P : Program} {Q : Exit → Act → World → Prop} {N : Nat} {ds : Md} {σ : Env} {w : World}
theorem Zre {o : Oper} {fn : Fn} {xs ys : List Operand} {first captured : List Value} (ho : o.op = .makeFunc fn xs.toArray ys.toArray) (hx : evs σ xs = some first) (hy : evs σ ys = some captured) : Yl P o σ w (.func fn first.toArray captured.toArray) := ⟨fun N ds a ha => by
 simp [execOp,ho,Instr.makeFunc,ha.evals hx,ha.evals hy]⟩
theorem Zb4 {t : TypeId} {ad : Addr} {v : Value} [h : One P t] (hc : w.cell? ad = some v) : (loadVar t ad).run P w = .ok v w := by
 simp [loadVar,h.one,load,Sem.run,hc]
theorem Zb3 {t : TypeId} {a : Addr} {cs : List Value} {n : Nat} [h : Agg P t] [hs : Siz P t n] (hc : Zmh w a n cs) : (loadVar t a).run P w = .ok (.agg cs.toArray) w := by
 obtain ⟨hc,rfl⟩ := hc
 exact Zj7 hc
theorem Zn3 {Q : Exit → Act → World → Prop} {y : Code} {ds' : Md} (hF : Fc ds' = Fc ds) (h : C P y Q N ds σ w) : E (Exit.then (y.wpIn (Fc ds') 0 P Q) Q) .normal N ds σ w := ⟨fun a ha => by rw [hF]; exact h.run a ha⟩
def recd (fn : FuncId) (tm : Array Value) (ps : Array Tmp) (assign body : Code) (r : Nat) (st : LoopState) (jump : Option Code) : Loop :=
 { state := st,pending := jump,fn,tmps := tm,params := ps,assign,body,defers := r }
def mark (r : Nat) : Deferred := { target := .collected r,args := #[] }
theorem Zyk {ops : Array Oper} {rest : List Oper} {o : Oper} {f : Operand} {xs : List Operand} {vs : List Value} {ts : Array TypeId} {l d : Nat} {r : Loop} {R : Value → World → Prop} (hgd : o.guard = none) (ho : o.op = .call { callee := .value f,args := xs.toArray,argTypes := ts }) (hf : ev σ f = some (.func (.yield l) #[] #[])) (hv : evs σ xs = some vs)
  (hd : o.dst = some d) (hN : Nat.blt d N = true) (hl : w.heap[l]? = some (.loop r)) (hsz : vs.length = r.params.size)
  (hr : RoundIn Fence.wide 0 P l r.fn ((r.params.zip vs.toArray).foldl (fun tmps (t,a) => tmps.setIfInBounds t a) r.tmps) r.assign r.body w (Ret R)) (h : ∀ v w',R v w' → G P ops Q rest N ds ((d,v) :: σ) w') : G P ops Q (o :: rest) N ds σ w := ⟨fun a ha =>
 wpListIn_plain hgd fun K hK => by
  have hsem : o.semAt (Fc ds).round a.eval = execOp a.eval o := Oper.semAt_eq _ _ _ fun c hc => by rw [ho] at hc; cases hc
  refine ⟨fun _ _ => trivial,?_⟩
  rw [hsem];have hexec : (execOp a.eval o).run P w = .ok (.round l r.fn ((r.params.zip vs.toArray).foldl (fun tmps (t,a) => tmps.setIfInBounds t a) r.tmps) r.assign r.body) w := by
   simp [execOp,ho,resolve,ha.eval hf,Deferred.ofValue,invoke,ha.evals hv,Instr.yield,Instr.getLoop,getObj,Sem.run,hl,hsz]
  rw [hexec];refine ⟨Zn2 ds,?_⟩
  obtain ⟨hF,hr⟩ := hr
  refine ⟨trivial,fun c cs hroom => ?_⟩
  obtain ⟨e,w',hR,hs⟩ := hr c cs (fun _ h => by simp [Fence.wide] at h)
  obtain ⟨v,rfl,hR⟩ := hR
  refine ⟨.returned v,w',?_,hs⟩
  have := (h v w' hR).run _ (ha.put (Zam hN) v)
  rw [← hd] at this;exact hK _ _ this⟩
theorem Fr.round {tm : Array Value} (hsz : tm.size = N) (h : ∀ n v,look σ n = some v → tm[n]? = some v) (l : Nat) : Fr σ N ⟨[],some l⟩ { tmps := tm,defers := [] } := ⟨hsz,rfl,h⟩
def QA (P : Program) (l : Nat) (body : Code) (R : Ending → World → Prop) : Exit → Act → World → Prop :=
 Exit.then (fun a1 w1 => ∃ w2,(Instr.beginRound l).run P w1 = .ok () w2 ∧ body.wpIn (Fc ⟨[],some l⟩) 0 P (roundPost P l R) a1 w2) (fun _ _ _ => False)
theorem Zvu {l : Nat} {f : FuncId} {tm : Array Value} {assign body : Code} {R : Ending → World → Prop} (hF : Fr σ N ⟨[],some l⟩ { tmps := tm,defers := [] }) (h : C P assign (QA P l body R) N ⟨[],some l⟩ σ w) :
  RoundIn Fence.wide 0 P l f tm assign body w R := roundIn_of_wpIn (F := Fence.wide) trivial (h.run _ hF)
theorem C_eq {A A' : Code} {Q : Exit → Act → World → Prop} (e : A = A') (h : C P A' Q N ds σ w) : C P A Q N ds σ w := e ▸ h
theorem Zrm {l : Nat} {fn : FuncId} {tm : Array Value} {ps : Array Tmp} {A B : Code} {rr : Nat} {j : Option Code} {body : Code} {R : Ending → World → Prop} (hl : w.heap[l]? = some (.loop (recd fn tm ps A B rr .ready j))) (h : ∀ w2,SetBlock w w2 l (.loop (recd fn tm ps A B rr .busy j)) → C P body (roundPost P l R) N ⟨[],some l⟩ σ w2) :
  E (QA P l body R) .normal N ⟨[],some l⟩ σ w := ⟨fun a ha => ⟨{ w with heap := w.heap.setIfInBounds l (.loop (recd fn tm ps A B rr .busy j)) },by
 simp [Instr.beginRound,Instr.getLoop,getObj,setObj,Sem.run,hl,recd],(h _ (Za6 hl)).run a ha⟩⟩
theorem Ziz {l : Nat} {fn : FuncId} {tm : Array Value} {ps : Array Tmp} {A B : Code} {rr : Nat} {st : LoopState} {j0 : Option Code} {j : Option Code} (hl : w.heap[l]? = some (.loop (recd fn tm ps A B rr st j0))) :
  (Instr.endRound l j).run P w = .ok (.bool j.isNone) { w with heap := w.heap.setIfInBounds l (.loop (recd fn tm ps A B rr (if j.isNone then .ready else .done) j)) } := by
 simp [Instr.endRound,Instr.getLoop,getObj,setObj,Sem.run,hl,recd]
theorem Zp4 {l : Nat} {fn : FuncId} {tm : Array Value} {ps : Array Tmp} {A B : Code} {rr : Nat} {st : LoopState} {j0 : Option Code} {R : Ending → World → Prop} {m : Md} (hl : w.heap[l]? = some (.loop (recd fn tm ps A B rr st j0))) (h : ∀ w',SetBlock w w' l (.loop (recd fn tm ps A B rr .ready none)) → R (.returned (.bool true)) w') : E (roundPost P l R) .normal N m σ w :=
 ⟨fun _ _ => ⟨_,_,Ziz (j := none) hl,h _ (Za6 hl)⟩⟩
theorem Zrk {l : Nat} {fn : FuncId} {tm : Array Value} {ps : Array Tmp} {A B : Code} {rr : Nat} {st : LoopState} {j0 : Option Code} {R : Ending → World → Prop} {m : Md} (hl : w.heap[l]? = some (.loop (recd fn tm ps A B rr st j0))) (h : ∀ w',SetBlock w w' l (.loop (recd fn tm ps A B rr .done (some .ret))) → R (.returned (.bool false)) w') : E (roundPost P l R) .ret N m σ w :=
 ⟨fun _ _ => ⟨_,_,Ziz (j := some .ret) hl,h _ (Za6 hl)⟩⟩
theorem Zlb {W : World} {F : Nat → Prop} {rs : List Res} {g : Operand} {ps : Array Tmp} {assign body : Code} {gid : FuncId} {first captured : List Value} (J : Nat → Nat → Option Code → World → Prop)
  (hro : ds.ro = none) (hg : ev σ g = some (.func (.func gid) first.toArray captured.toArray)) [hfun : Fun P gid] (hS : St W F rs w)
  (hcall : ∀ A B,A = assign → B = body → ∀ fn tm l r w1,tm.size = N → (∀ n v,look σ n = some v → tm[n]? = some v) → St W F (pts l (.loop (recd fn tm ps A B r .ready none)) :: pts r (.deferred (some [])) :: rs) w1 →
   CallsIn Fence.wide 0 P gid (first ++ (.func (.yield l) #[] #[] :: captured)).toArray w1 (Ret fun _ w3 => ∃ st jump,st ≠ .busy ∧ w3.heap[l]? = some (.loop (recd fn tm ps A B r st jump)) ∧
    ∀ w4,SetBlock w3 w4 l (.loop (recd fn tm ps A B r .exhausted jump)) → J l r jump w4))
  (hnone : ∀ l r w4,J l r none w4 → E Q .normal N ⟨mark r :: ds.ds,none⟩ σ w4)
  (hsome : ∀ l r c w4,J l r (some c) w4 → C P c Q N ⟨mark r :: ds.ds,none⟩ σ w4) : C P (.rangeFunc g ps assign body) Q N ds σ w := ⟨fun a ha => by
 rw [Zrj hro];refine wpIn_rangeFunc fun fn _ => ?_
 have s1 := hS.alloc (.deferred (some []))
 have s2 := s1.alloc (.loop (recd fn a.tmps ps assign body w.heap.size .ready none))
 simp only [World.size_alloc] at s2
 obtain ⟨w1,hw1⟩ : ∃ w1,w1 = (w.alloc (.deferred (some []))).alloc (.loop (recd fn a.tmps ps assign body w.heap.size .ready none)) := ⟨_,rfl⟩
 rw [← hw1] at s2;refine ⟨w.heap.size + 1,[mark w.heap.size],w1,{ target := .fn (.func gid) captured.toArray,args := first.toArray ++ #[.func (.yield (w.heap.size + 1)) #[] #[]] },w1,gid,
  (first ++ (.func (.yield (w.heap.size + 1)) #[] #[] :: captured)).toArray,w1,?_,?_,fun _ _ => trivial,?_,fun h => by simp [Fence.wide] at h,?_⟩
 ·rw [hw1]
  simp [Instr.enterLoop,Fence.wide,recd,mark,newObj,Sem.run]
 ·simp only [resolve,ha.eval hg,List.map_toArray,List.map_cons,List.map_nil]
  rfl
 ·have := hfun.run (first ++ (.func (.yield (w.heap.size + 1)) #[] #[] :: captured)).toArray w1
  simp only [invoke]
  simpa using this
 ·obtain ⟨_,hc⟩ := hcall _ _ rfl rfl fn a.tmps (w.heap.size + 1) w.heap.size _ ha.size ha.at_ s2
  refine ⟨trivial,fun cs hr => ?_⟩
  obtain ⟨e,w3,fr,⟨v,he,st,jump,hst,hl,hJ⟩,hs,hfn,hlv⟩ := hc cs hr
  subst he
  refine ⟨.returned v,w3,fr,⟨jump,{ w3 with heap := w3.heap.setIfInBounds (w.heap.size + 1) (.loop (recd fn a.tmps ps assign body w.heap.size .exhausted jump)) },?_,?_⟩,hs,hfn,hlv⟩
  ·simp [Instr.endLoop,Instr.getLoop,getObj,setObj,Sem.run,hl,recd,hst]
  ·have hJ' := hJ _ (Za6 hl)
   have ha' : Fr σ N ⟨mark w.heap.size :: ds.ds,none⟩ { a with defers := [mark w.heap.size] ++ a.defers } := ⟨ha.size,by simp [ha.defers],ha.at_⟩
   cases jump with
   | none => exact (hnone _ _ _ hJ').run _ ha'
   | some c => exact (hsome _ _ c _ hJ').run _ ha'⟩
theorem Zym {fn : Func} {R : Ending → World → Prop} {r : Nat} {dl : List Deferred} {e : Exit} (he : e = .ret ∨ e = .normal) (hr : w.heap[r]? = some (.deferred (some []))) (h : ∀ w',SetBlock w w' r (.deferred none) → E (BP P fn R) e N ⟨dl,none⟩ σ w') : E (BP P fn R) e N ⟨mark r :: dl,none⟩ σ w := ⟨fun a ha => by
 have h1 := h _ (Za6 hr)
 have h2 := h1.run { a with defers := dl } ⟨ha.size,rfl,ha.at_⟩
 have hd : a.defers = mark r :: dl := ha.defers
 have hk : (Instr.takeDeferred r).run P w = .ok [] { w with heap := w.heap.setIfInBounds r (.deferred none) } := by
  simp [Instr.takeDeferred,getObj,setObj,Sem.run,hr]
 rcases he with rfl | rfl
 ·show LeavesInM _ _ _ _ a.tmps R a.defers .returning w
  rw [hd];exact ⟨by simp,.inl ⟨r,_,rfl,hk,h2⟩⟩
 ·show LeavesInM _ _ _ _ a.tmps R a.defers .returning w
  rw [hd];exact ⟨by simp,.inl ⟨r,_,rfl,hk,h2⟩⟩⟩
end
def iand (k : IntKind) (x y : Int) : Int := k.wrap (BitVec.ofInt k.bits x &&& BitVec.ofInt k.bits y).toNat
def ior (k : IntKind) (x y : Int) : Int := k.wrap (BitVec.ofInt k.bits x ||| BitVec.ofInt k.bits y).toNat
def ixor (k : IntKind) (x y : Int) : Int := k.wrap (BitVec.ofInt k.bits x ^^^ BitVec.ofInt k.bits y).toNat
def ishl (k : IntKind) (x : Int) (n : Nat) : Int := k.wrap (x * 2 ^ (min n k.bits))
def ishr (k : IntKind) (x : Int) (n : Nat) : Int := x.fdiv (2 ^ (min n k.bits))
section
variable {P : Program} {o : Oper} {σ : Env} {w : World} {x y : Operand} {t ty : TypeId} {k k' : IntKind} {a b : Int}
theorem Ztf (ho : o.op = .binOp .and t x y ty) (hx : ev σ x = some (.int k a)) (hy : ev σ y = some (.int k b)) : Yl P o σ w (.int k (iand k a b)) := ⟨fun N ds f ha => by
 simp only [execOp,ho,ha.eval hx,ha.eval hy,binOp,eqGuard,Op.intBits,ne_eq,not_true_eq_false,if_false]; rfl⟩
theorem Z32 (ho : o.op = .binOp .or t x y ty) (hx : ev σ x = some (.int k a)) (hy : ev σ y = some (.int k b)) : Yl P o σ w (.int k (ior k a b)) := ⟨fun N ds f ha => by
 simp only [execOp,ho,ha.eval hx,ha.eval hy,binOp,eqGuard,Op.intBits,ne_eq,not_true_eq_false,if_false]; rfl⟩
theorem Z7g (ho : o.op = .binOp .xor t x y ty) (hx : ev σ x = some (.int k a)) (hy : ev σ y = some (.int k b)) : Yl P o σ w (.int k (ixor k a b)) := ⟨fun N ds f ha => by
 simp only [execOp,ho,ha.eval hx,ha.eval hy,binOp,eqGuard,Op.intBits,ne_eq,not_true_eq_false,if_false]; rfl⟩
theorem Zxw (ho : o.op = .binOp .shl t x y ty) (hx : ev σ x = some (.int k a)) (hy : ev σ y = some (.int k' b)) (hb : 0 ≤ b) : Yl P o σ w (.int k (ishl k a b.toNat)) := ⟨fun N ds f ha => by
 have : ¬ b < 0 := by omega
 simp only [execOp,ho,ha.eval hx,ha.eval hy,binOp,eqGuard,Op.shift,if_neg this]; rfl⟩
theorem Z1r (ho : o.op = .binOp .shr t x y ty) (hx : ev σ x = some (.int k a)) (hy : ev σ y = some (.int k' b)) (hb : 0 ≤ b) : Yl P o σ w (.int k (ishr k a b.toNat)) := ⟨fun N ds f ha => by
 have : ¬ b < 0 := by omega
 simp only [execOp,ho,ha.eval hx,ha.eval hy,binOp,eqGuard,Op.shift,if_neg this]; rfl⟩
theorem Zac {N : Nat} {ds : Md} {K : Env → World → Prop} (g : FuncId) {f : Operand} {xs : List Operand} {vs : List Value} {ts : Array TypeId} {d : Nat} {R : Value → Prop} {W : World} {F : Nat → Prop} {rs : List Res} (ho : o.op = .call { callee := .value f,args := xs.toArray,argTypes := ts }) (hf : ev σ f = some (.func (.func g) #[] #[])) (hv : evs σ xs = some vs) [hg : Fun P g]
  (hd : o.dst = some d) (hN : Nat.blt d N = true) (hS : St W F rs w) (hc : Calls P g vs.toArray w (Ret fun v w' => R v ∧ St w noF [] w')) (h : ∀ v w',R v → St W F rs w' → K ((d,v) :: σ) w') : X P o N ds σ w K :=
 Zaa g ho hf hv hd hN hc fun v w' ⟨hR,h'⟩ => h v w' hR (hS.below h'.toBelow)
theorem Z6p (x : Int) : iand .i64 x 7 = x % 8 := by
 unfold iand
 have e : (BitVec.ofInt IntKind.i64.bits x &&& BitVec.ofInt IntKind.i64.bits 7).toNat = (x % 8).toNat := by
  rw [BitVec.toNat_and,BitVec.toNat_ofInt,BitVec.toNat_ofInt];show (x % 18446744073709551616).toNat &&& 7 = _
  rw [show (7 : Nat) = 2 ^ 3 - 1 from rfl,Nat.and_two_pow_sub_one_eq_mod];omega
 rw [e,IntKind.wrap_i64];omega
/-! blocks of numbers -/
def ints (k : IntKind) (L : List Int) : List Value := L.map (Value.int k)
theorem ints_length (k : IntKind) (L : List Int) : (ints k L).length = L.length := by simp [ints]
instance ones_ints (k : IntKind) (L : List Int) : Ones (ints k L) := ⟨fun u hu => by simp [ints] at hu; obtain ⟨n,_,rfl⟩ := hu; rfl⟩
theorem ints_get {k : IntKind} {L : List Int} {i : Nat} (h : i < L.length) : (ints k L)[i]? = some (.int k (L.getD i 0)) := by
 simp [ints,h,List.getD_eq_getElem?_getD]
theorem Zm6 (k : IntKind) (n : Nat) (x : Int) : List.replicate n (Value.int k x) = ints k (List.replicate n x) := by simp [ints]
theorem Zsn {k : IntKind} {L : List Int} {i : Nat} {x : Int} : (ints k L).set i (.int k x) = ints k (L.set i x) := by simp [ints,List.map_set]
theorem St.cellI {W : World} {F : Nat → Prop} {rs : List Res} {b off : Nat} {k : IntKind} {L : List Int} {T : TypeId} (hS : St W F rs w) [hh : Has rs b (.cells (ints k L).toArray T (0,0))] (h : off < L.length) : w.cell? ⟨b,off,none⟩ = some (.int k (L.getD off 0)) := by
 rw [cell_of_row w b off _ T (0,0) hS.has]
 simpa using ints_get (k := k) h
theorem Ztg {N : Nat} {ds : Md} {K : Env → World → Prop} {b off : Nat} {k : IntKind} {n : Int} {L : List Int} {T : TypeId} {W : World} {F : Nat → Prop} {rs rs' : List Res} (ho : o.op = .store t x y) (hx : ev σ x = some (.pointer (some ⟨b,off,none⟩))) (hy : ev σ y = some (.int k n)) [hs : Siz P t 1]
  (hd : o.dst = none) (hS : St W F rs w) [hh : Has rs b (.cells (ints k L).toArray T (0,0))] (hfit : off < L.length) [hu : Upd rs b (.cells (ints k (L.set off n)).toArray T (0,0)) rs']
  (h : ∀ w',St W F rs' w' → K σ w') : X P o N ds σ w K := by
 have e : Zal (ints k L) off [.int k n] = ints k (L.set off n) := by
  rw [← Zsn,Zj5 _ _ _ (by rw [ints_length]; exact hfit)]
  simp [Zal]
 have hu' : Upd rs b (.cells (Zal (ints k L) off [.int k n]).toArray T (0,0)) rs' := by rw [e]; exact hu
 exact Zjq ho hx hy rfl (fun u hu => by simp at hu; subst hu; rfl) hd hS (by rw [ints_length]; exact hfit) (fun w' h' _ => h w' h')
theorem St.cellIP {W : World} {F : Nat → Prop} {rs : List Res} {b off : Nat} {k : IntKind} {L : List Int} {r : List Value} {T : TypeId} (hS : St W F rs w) [hh : Has rs b (.cells (ints k L ++ r).toArray T (0,0))] (h : off < L.length) : w.cell? ⟨b,off,none⟩ = some (.int k (L.getD off 0)) := by
 rw [cell_of_row w b off _ T (0,0) hS.has];have := ints_get (k := k) h
 simp only [List.getElem?_toArray]
 rw [List.getElem?_append_left (by rw [ints_length]; exact h)]
 exact this
theorem Zx8 {N : Nat} {ds : Md} {K : Env → World → Prop} {b off : Nat} {k : IntKind} {n : Int} {L : List Int} {r : List Value} {T : TypeId} {W : World} {F : Nat → Prop} {rs rs' : List Res} (ho : o.op = .store t x y) (hx : ev σ x = some (.pointer (some ⟨b,off,none⟩))) (hy : ev σ y = some (.int k n)) [hs : Siz P t 1]
  (hd : o.dst = none) (hS : St W F rs w) [hh : Has rs b (.cells (ints k L ++ r).toArray T (0,0))] (hfit : off < L.length) [hu : Upd rs b (.cells (ints k (L.set off n) ++ r).toArray T (0,0)) rs']
  (h : ∀ w',St W F rs' w' → K σ w') : X P o N ds σ w K := by
 have e : Zal (ints k L ++ r) off [.int k n] = ints k (L.set off n) ++ r := by
  rw [Zg9 (by rw [ints_length]; exact hfit),← Zsn,Zj5 _ _ _ (by rw [ints_length]; exact hfit)]
  simp [Zal]
 have hu' : Upd rs b (.cells (Zal (ints k L ++ r) off [.int k n]).toArray T (0,0)) rs' := by rw [e]; exact hu
 exact Zjq ho hx hy rfl (fun u hu => by simp at hu; subst hu; rfl) hd hS (by rw [List.length_append,ints_length]; exact Nat.le_trans hfit (Nat.le_add_right _ _)) (fun w' h' _ => h w' h')
theorem Zri {N : Nat} {ds : Md} {K : Env → World → Prop} (g : FuncId) {f : Operand} {xs : List Operand} {vs captured : List Value} {ts : Array TypeId} {d : Nat} {R : Value → Prop} (ho : o.op = .call { callee := .value f,args := xs.toArray,argTypes := ts }) (hf : ev σ f = some (.func (.func g) #[] captured.toArray)) (hv : evs σ xs = some vs) [hg : Fun P g]
  (hd : o.dst = some d) (hN : Nat.blt d N = true) (hc : Calls P g (vs ++ captured).toArray w (Ret fun v w' => R v ∧ w = w')) (h : ∀ v,R v → K ((d,v) :: σ) w) : X P o N ds σ w K :=
 Zdk (first := []) (captured := captured) ho hf hv hd hN (by simpa using hc) (by
  intro v w' h'
  obtain ⟨hR,e⟩ := h'
  subst e
  exact h v hR)
theorem Zf0 {b off n : Nat} {l cs : List Value} {T : TypeId} (hs : (l.drop off).take n = cs) : ∀ h,pts b (.cells l.toArray T (0,0)) h → row (some ⟨b,off,none⟩) cs h := fun _ hg => .inr ⟨b,off,l.toArray,T,(0,0),rfl,hg,fun j v hv => by
 subst hs
 rw [List.getElem?_take] at hv
 split at hv
 ·rw [List.getElem?_drop] at hv
  simpa using hv
 ·cases hv⟩
theorem Rd.cellI {b o i : Nat} {k : IntKind} {L : List Int} (H : Rd w (row (some ⟨b,o,none⟩) (ints k L))) (h : i < L.length) : w.cell? ⟨b,o + i,none⟩ = some (.int k (L.getD i 0)) := H.cells i _ (ints_get h)
theorem Rd.cell {a : Option Addr} {cs : List Value} {i : Nat} {v : Value} (H : Rd w (row a cs)) (hi : cs[i]? = some v) : w.cell? (adr a i) = some v := H.cells i v hi
end
end Cr
namespace Cr
open Go Go.Proofs
set_option maxRecDepth 100000
set_option maxHeartbeats 64000000

def spin (x : Int) (n : Nat) : Int := ior .u32 (ishr .u32 x n) (ishl .u32 x (32 - n))
theorem Z2g (x : Int) (n : Nat) (W : World) (h : n ≤ 32) : Calls Tryz.prog 222 #[.int .u32 x,.int .i64 n] W (Ret fun v w => v = .int .u32 (spin x n) ∧ St W noF [] w) := by
 have hS := St.start W
 refine Zab Tryz.func222 rfl Tryz.ntmps222 rfl ?_
 repeat (first|refine Yeb ?_|refine Yag ?_|refine Yec ?_|refine Yab ?_)
 refine Zao (.s 0 (.s 1 (.s 2 (.s 3 (.s 4 (.s 5 (.s 6 (.s 7 (.s 8 .nil))))))))) mixed (by kernel_rfl) rfl ?_
 have hS := hS.drew
 repeat (first|refine Yah ?_|refine Yed ?_|(refine Zaf ?_;first|refine Ya2 ?_|refine Ya6 ?_|refine Ybl ?_|refine Yce ?_|refine Ydp ?_|refine Yc5 ?_|refine Yde ?_))
 refine ⟨?_,hS⟩
 unfold spin
 congr 3
 omega
theorem at_ (k i : Int) (b bi : Nat) (W : World) (hk : 0 ≤ k) (hk' : k < 8) (hi : 0 ≤ i) (hi' : i < 64) (hbi : Ro W noF (pts bi (.cells #[.int .i64 i] 3))) :
  Calls Tryz.prog 221 #[.int .i64 k,.pointer (some ⟨b,0,none⟩),.pointer (some ⟨bi,0,none⟩)] W (Ret fun v w => v = .pointer (some ⟨b,((k - i) % 8).toNat,none⟩) ∧ W = w) := by
 have hS := St.start W
 have hbi := (hbi.rd hS).pts
 refine Zab Tryz.func221 rfl Tryz.ntmps221 rfl ?_
 repeat (first|refine Yeb ?_|(refine X_id ?_;first|refine Yaf ?_|refine Yag ?_|refine Ybv ?_|refine X_yl (Ztf rfl rfl rfl) rfl rfl ?_|refine Yb5 ?_)|refine Yec ?_|refine Yab ?_)
 rw [Z6p];repeat (first|refine Yeb ?_|refine Yag ?_|refine Ycj ?_|refine Yah ?_|refine Yed ?_)
 exact ⟨by simp,rfl⟩

/-! ### spread -/
def u32 (x : Int) : Int := IntKind.u32.wrap x
def Zph (b : List UInt8) (i : Nat) : Int := u32 (b.getD i 0).toNat
def word (b : List UInt8) (i : Nat) : Int := ior .u32 (ior .u32 (ior .u32 (ishl .u32 (Zph b (4 * i)) 24) (ishl .u32 (Zph b (4 * i + 1)) 16)) (ishl .u32 (Zph b (4 * i + 2)) 8)) (Zph b (4 * i + 3))
def sig (a : Int) (p q r : Nat) : Int := ixor .u32 (ixor .u32 (spin a p) (spin a q)) (ishr .u32 a r)
def later (L : List Int) (i : Nat) : Int := u32 (u32 (u32 (L.getD (i - 16) 0 + sig (L.getD (i - 15) 0) 7 18 3) + L.getD (i - 7) 0) + sig (L.getD (i - 2) 0) 17 19 10)
def Za0 (b : List UInt8) : Nat → List Int
 | 0 => List.replicate 64 0
 | i + 1 => (Za0 b i).set i (if i < 16 then word b i else later (Za0 b i) i)
theorem Zcj (b : List UInt8) : ∀ i,(Za0 b i).length = 64
 | 0 => by simp [Za0]
 | i + 1 => by simp [Za0,Zcj b i]
theorem Z2e (a : Option Addr) (c : Nat) (b : List UInt8) (W : World) (hb : Rd W (bytes a b)) (h64 : b.length = 64) (hc : 64 ≤ c) :
  Calls Tryz.prog 220 #[.slice a 64 c] W (Ret fun v w => v = .agg (ints .u32 (Za0 b 64)).toArray ∧ St W noF [] w) := by
 have hS := St.start W
 have hbo := hb.ro
 obtain ⟨ab,ao,rfl⟩ := hb.base (by intro e; have := Zak b; rw [e] at this; simp at this; omega)
 refine Zab Tryz.func220 rfl Tryz.ntmps220 rfl ?_
 repeat (first|refine Yeb ?_|refine Yaf ?_|refine Yar (fun _ _ hS _ => ?_)|refine Yee ?_|refine Yab ?_)
 rename_i b2 _ _ _ b3 _ _;rw [Zm6] at hS;refine Zaj (α := Nat) (fun i => [(0,.slice (some ⟨ab,ao,none⟩) 64 c),(2,.pointer (some ⟨b2,0,none⟩)),(3,.pointer (some ⟨b3,0,none⟩)),(8,.int .i64 (i : Nat))])
  (fun i w => i ≤ 64 ∧ St W noF [pts b3 (.cells (ints .u32 (Za0 b i)).toArray 335),pts b2 (.cells (List.replicate 64 (.int .u32 0)).toArray 335)] w) (fun i => 64 - i) 0 ⟨rfl,rfl,rfl,rfl,trivial⟩ ⟨Nat.zero_le _,hS⟩ ?_
 clear hS;rintro i w ⟨hi,hS⟩
 obtain ⟨L,hLe⟩ : ∃ L,L = Za0 b i := ⟨_,rfl⟩
 have hL : L.length = 64 := by rw [hLe]; exact Zcj b i
 rw [← hLe] at hS;by_cases h16 : i < 16
 ·repeat (first|refine Yeb ?_|(refine X_id ?_;first|refine Yaf ?_|refine Yag ?_|refine Ya1 ?_|refine Yaw ?_|refine Yb1 ?_)|refine Yef ?_|refine Yab ?_)
  refine X_yl (Zaq (l := 4 * i) (h := 4 * i + 4) rfl rfl rfl rfl (.inr ⟨_,_,rfl,by omega,by omega,by omega⟩) (.inr ⟨_,_,rfl,by omega,by omega,by omega⟩)) rfl rfl ?_
  rw [show sub (some ⟨ab,ao,none⟩) (4 * i) 1 c = some ⟨ab,ao + 4 * i,none⟩ by unfold sub; rw [if_neg (by omega)]; simp [Zbn],show 4 * i + 4 - 4 * i = 4 by omega]
  repeat (first|refine Yeb ?_|refine Yag ?_|refine Yae ?_|refine Yab ?_)
  refine Zao (.s 0 (.s 1 (.s 2 (.s 3 (.s 4 (.s 5 (.s 6 (.s 7 (.s 8 (.s 9 (.s 10 (.s 11 (.s 12 (.s 13 (.s 14 (.s 15 (.s 16 (.s 17 (.s 18 (.s 19 (.s 20 (.s 21 (.s 22 (.s 23 (.h 24 .nil .no))))))))))))))))))))))))) mixed (by kernel_rfl) rfl ?_
  have hS := hS.drew
  have hcell : ∀ j,j < 4 → _root_.Go.World.cell? _ ⟨ab,ao + 4 * i + j,none⟩ = some (.int .u8 ((b.getD (4 * i + j) 0).toNat : Nat)) := fun j hj => by
   have := (hbo.rd hS).cell (i := 4 * i + j) (v := .int .u8 ((b.getD (4 * i + j) 0).toNat : Nat)) (by simp [bv,List.getD_eq_getElem?_getD,show 4 * i + j < b.length by omega])
   simpa [adr,Nat.add_assoc] using this
  have q0 := hcell 0 (by omega)
  have q1 := hcell 1 (by omega)
  have q2 := hcell 2 (by omega)
  have q3 := hcell 3 (by omega)
  repeat (first|refine Yeb ?_|refine Yeg ?_|refine Yck (fun _ hS => ?_)|refine Yad ?_|refine Ya3 ?_|refine Yeh ?_|(refine Zaf ?_;first|refine Ya2 ?_|refine Ya6 ?_|refine Yb3 ?_|refine Yca ?_|refine Zai rfl rfl (fun _ => Zev rfl rfl rfl) rfl rfl ?_|refine Ydp ?_|refine Yde ?_|refine Zbp (fun w' => w'.cell? _ = some _) rfl rfl (by assumption) (fun _ hc => Zau rfl rfl hc) rfl rfl ?_|refine Yax ?_)|(refine Zad ?_;first|refine Yay ?_))
  refine Zae (i + 1) ⟨rfl,rfl,rfl,rfl,trivial⟩ ⟨by omega,?_⟩ (by omega)
  rw [show 0 + (i : Int).toNat * 1 = i by omega,hLe] at hS
  simp only [Za0,if_pos h16]
  exact hS
 ·by_cases h64 : i < 64
  ·repeat (first|refine Yeb ?_|refine Yaf ?_|refine Yag ?_|refine Ya1 ?_|refine Yaz ?_|refine Yei ?_|refine Yab ?_)
   refine Zao (.s 0 (.s 1 (.s 2 (.s 3 (.s 4 (.s 5 (.s 6 (.s 7 (.s 8 (.s 9 .nil)))))))))) mixed (by kernel_rfl) rfl ?_
   have hS := hS.drew
   repeat (first|refine Yab ?_|(refine Zaf ?_;first|refine Ya2 ?_|refine Ya6 ?_|refine Ybl ?_|refine Yb3 ?_|refine Yce ?_|refine Ycb ?_))
   refine Zao (.s 0 (.s 1 (.s 2 (.s 3 (.s 4 (.s 5 (.s 7 (.s 10 (.s 11 (.s 14 (.s 15 (.s 16 (.s 17 (.s 19 (.s 21 (.s 24 (.s 25 (.h 6 (.h 8 (.s 9 (.s 12 (.s 13 (.s 18 (.h 20 (.h 22 (.s 23 (.s 26 (.s 27 (.s 28 (.h 29 .nil .no))))) .no) .no))))) .no) .no)))))))))))))))))) mixed (by kernel_rfl) rfl ?_
   have hS := hS.drew
   repeat (first|refine Yeb ?_|(refine X_id ?_;first|(refine Zac 222 rfl rfl rfl rfl rfl hS (Z2g _ _ _ (by decide)) ?_;rintro _ _ rfl hS)|refine Yeg ?_|refine Yck (fun _ hS => ?_))|refine Yad ?_|refine Yej ?_|(refine Zaf ?_;first|refine Ya2 ?_|refine Ya6 ?_|refine Yb3 ?_|refine Yce ?_|refine Ycf ?_|refine Ycw ?_|refine Yc5 ?_|refine Ycb ?_|refine Yax ?_)|(refine Zad ?_;first|refine Yay ?_))
   refine Zae (i + 1) ⟨rfl,rfl,rfl,rfl,trivial⟩ ⟨by omega,?_⟩ (by omega)
   rw [show 0 + (i : Int).toNat * 1 = i by omega,show 0 + ((i : Int) - 16).toNat * 1 = i - 16 by omega,show 0 + ((i : Int) - 15).toNat * 1 = i - 15 by omega,show 0 + ((i : Int) - 7).toNat * 1 = i - 7 by omega,show 0 + ((i : Int) - 2).toNat * 1 = i - 2 by omega,hLe] at hS
   simp only [Za0,if_neg h16]
   exact hS
  ·obtain rfl : i = 64 := by omega
   have hlen : LenIs (ints .u32 L) 64 := ⟨by rw [ints_length]; exact hL⟩
   repeat (first|refine Yeb ?_|refine Yaz ?_|refine Ybi ?_|refine Yao (fun _ hS _ => ?_)|refine Yek ?_|refine Yel ?_)
   exact ⟨by rw [hLe],hS.drops⟩
end Cr
namespace Cr
open Go
set_option maxHeartbeats 64000000
theorem Rd.ofCells {w : World} {b : Nat} {l : List Value} (h : ∀ i v,l[i]? = some v → w.cell? ⟨b,i,none⟩ = some v) (hl : l ≠ []) : Rd w (row (some ⟨b,0,none⟩) l) := by
 obtain ⟨v0,hv0⟩ : ∃ v,l[0]? = some v := by
  cases l with
  | nil => exact absurd rfl hl
  | cons x r => exact ⟨x,rfl⟩
 have h0 := h 0 v0 hv0
 unfold World.cell? at h0
 split at h0
 ·rename_i c t fz hb
  refine ⟨Zcl b (.cells c t fz),.inr ⟨b,0,c,t,fz,rfl,rfl,fun i v hv => ?_⟩,fun k o e => ?_⟩
  ·have := h i v hv
   rw [cell_of_row w b i c t fz hb] at this
   simpa using this
  ·obtain ⟨rfl,rfl⟩ := Zhf e
   exact hb
 ·cases h0
def roundL : List Int := [1116352408,1899447441,3049323471,3921009573,961987163,1508970993,2453635748,2870763221,3624381080,310598401,607225278,1426881987,1925078388,2162078206,2614888103,3248222580,3835390401,4022224774,264347078,604807628,770255983,1249150122,1555081692,1996064986,2554220882,2821834349,2952996808,3210313671,3336571891,3584528711,113926993,338241895,666307205,773529912,1294757372,1396182291,1695183700,1986661051,2177026350,2456956037,2730485921,2820302411,3259730800,3345764771,3516065817,3600352804,4094571909,275423344,430227734,506948616,659060556,883997877,958139571,1322822218,1537002063,1747873779,1955562222,2024104815,2227730452,2361852424,2428436474,2756734187,3204031479,3329325298]
def firstL : List Int := [1779033703,3144134277,1013904242,2773480762,1359893119,2600822924,528734635,1541459225]
theorem Zhy : firstL.length = 8 := rfl
end Cr
namespace Go.Proofs.YtjpjbgkjfdhjjaaGreatDoor
open Go.ChangeShapes Go.WideShapes Go.ChangeAt Go.RowKit
theorem Z6k : ownKnob Tryz.prog.godebug = none := by kernel_rfl
theorem Z3c : laidOutB Tryz.prog = true := by kernel_rfl
theorem Zqm {H : Type} {enc : TypeId × Value → H} {P : Program} {f : Func} {s : ChangeSpec} {apart fresh handsOn again : Bool} {W W' : World} {args : Array Value} {v : Value} {ds gs : List (DataW H)} {before pa pv : List MemPlace}
    (hW : DataW.Whole enc P f.params.toList s.vars apart W args.toList ds gs before)
    (hres : ∀ (b : Nat) (sp : Nat → Bool) (hd : Bool),DataW.TrodAll enc P W' b sp hd f.resultTypes.toList (v.resultList f.resultTypes.size) (s.fn H (ds ++ gs)).results [])
    (hargs : ∀ sp : Nat → Bool,(∀ p ∈ before,sp p.block = true) → DataW.TrodAll enc P W' 0 sp true f.params.toList args.toList (s.fn H (ds ++ gs)).args pa)
    (hvars : ∀ sp : Nat → Bool,(∀ p ∈ before,sp p.block = true) → DataW.TrodVars enc P W' sp s.vars (s.fn H (ds ++ gs)).vars pv)
    (hps : before = pa ++ pv) (hk : W.keptBut W' (· ∈ before)) (hfz : ∀ a : Addr,a.block < W.heap.size → W'.frozen? a = W.frozen? a)
    (hok : ∀ (j : Nat) (t : TypeId) (r : Value),f.resultTypes[j]? = some t → (v.resultList f.resultTypes.size)[j]? = some r → Value.okWide P W' .any 0 t r) :
    s.post enc P f apart fresh handsOn again W args v W' := by
  have hold : ∀ p ∈ before,(fun b => decide (b < W.heap.size)) p.block = true := fun p hp => by simpa using hW.lt p hp
  have hlt : ∀ p ∈ before,p.block < W.heap.size := hW.lt
  refine ⟨ds,gs,before,[],pa,pv,hW,hres _ _ _,hargs _ hold,hvars _ hold,World.keptBut_mono (fun p hp => ⟨hp,?_⟩) hk,fun _ => ?_⟩
  · rw [hps,List.mem_append] at hp
    exact Or.inr hp
  · obtain ⟨_,_,_,_,_,hz,hn⟩ := hW
    refine ⟨hok,_,_,([] ++ pa) ++ pv,⟨[] ++ pa,pv,trodAll_append (hargs _ (fun _ _ => rfl)) (hres _ _ _),hvars _ (fun _ _ => rfl),rfl,?_,?_⟩,?_⟩
    · intro b off hp
      have hp' := hp
      rw [show ([] ++ pa) ++ pv = before by rw [hps]; rfl] at hp'
      rw [hfz _ (hlt _ hp')];exact hz b off hp'
    · intro ha
      have := hn ha
      rw [hps] at this
      simpa using this
    · intro p hp _
      rw [hps]
      simpa using hp
theorem Zg7 {H : Type} {enc : TypeId × Value → H} {P : Program} (hl : laidOutB P = true) {W W' : World} (hb : Below W.heap.size W W') {sp : Nat → Bool} : ∀ {ts : List TypeId} {vs : List Value} {ds : List (DataW H)} {ps : List MemPlace},(∀ t ∈ ts,P.readableRec t = true ∧ t < P.types.size) →
  DataW.TrodAll enc P W 0 (fun _ => true) true ts vs ds ps → (∀ p ∈ ps,p.block < W.heap.size) → (∀ p ∈ ps,sp p.block = true) → DataW.TrodAll enc P W' 0 sp true ts vs ds ps
 | [],[],[],_,_,h,_,_ => h
 | _ :: _,_ :: _,_ :: _,_,hT,⟨p,q,h1,h2,e⟩,hlt,hs => ⟨p,q,
   WideElems.Trod_stays hl (hT _ (List.mem_cons_self ..)).1 (hT _ (List.mem_cons_self ..)).2 h1 (fun x hx => hb.same (hlt x (by rw [e]; exact List.mem_append_left _ hx))) (fun x hx => hs x (by rw [e]; exact List.mem_append_left _ hx)),
   Zg7 hl hb (fun t ht => hT t (List.mem_cons_of_mem _ ht)) h2 (fun x hx => hlt x (by rw [e]; exact List.mem_append_right _ hx)) (fun x hx => hs x (by rw [e]; exact List.mem_append_right _ hx)),e⟩
def tabOf (l : List Value) : Obj → Obj
 | .cells _ t frozen => .cells l.toArray t frozen
 | o => o
end Go.Proofs.YtjpjbgkjfdhjjaaGreatDoor
namespace Cr
open Go
set_option maxHeartbeats 64000000
/-! parts of known length -/
class LenO (l : List Value) (n : outParam Nat) : Prop where
 len : l.length = n
instance : LenO [] 0 := ⟨rfl⟩
instance (v : Value) (l : List Value) (n : Nat) [h : LenO l n] : LenO (v :: l) (n + 1) := ⟨by simp [h.len]⟩
instance (l m : List Value) (n k : Nat) [h : LenO l n] [h' : LenO m k] : LenO (l ++ m) (n + k) := ⟨by simp [h.len,h'.len]⟩
instance (n : Nat) : LenO (bv (List.replicate n 0)) n := ⟨by simp⟩
instance (l : List Value) (n : Nat) [h : LenO l n] : LenIs l n := ⟨h.len⟩
class SubO (k n : Nat) (j : outParam Nat) : Prop where
 eq : n = j + k
instance (n : Nat) : SubO 0 n n := ⟨rfl⟩
instance (k n j : Nat) [h : SubO k n j] : SubO (k + 1) (n + 1) j := ⟨by rw [h.eq]; omega⟩
instance nth_part (l m : List Value) (n k j : Nat) (v : Value) [hl : LenO l k] [hs : SubO k n j] [h : Nth m j v] : Nth (l ++ m) n v := ⟨by
 have := hl.len
 rw [hs.eq,List.getElem?_append_right (by omega),show j + k - l.length = j by omega]
 exact h.nth⟩
instance spl_part (l m vs m' : List Value) (n k j : Nat) [hl : LenO l k] [hs : SubO k n j] [h : Spl m j vs m'] : Spl (l ++ m) n vs (l ++ m') := ⟨by
 have e := hl.len
 have := h.spl
 rw [hs.eq];refine ⟨by simp; omega,?_⟩
 rw [← this.2,show j + k = l.length + j by omega,List.take_length_add_append,show l.length + j + vs.length = l.length + (j + vs.length) by omega,List.drop_length_add_append]
 simp⟩
instance spl_front (l m vs : List Value) (k : Nat) [hl : LenO l k] [hv : LenO vs k] : Spl (l ++ m) 0 vs (vs ++ m) := ⟨by
 have e := hl.len
 have e' := hv.len
 refine ⟨by simp; omega,?_⟩
 simp [show vs.length = l.length by omega]⟩
theorem Ztp {l m vs : List Value} {k n : Nat} (h : l.length = k) : Zal (l ++ m) (k + n) vs = l ++ Zal m n vs := by
 subst h
 unfold Zal
 rw [List.take_length_add_append,Nat.add_assoc,List.drop_length_add_append];simp
theorem Zlo {l vs : List Value} (h : l.length = vs.length) : Zal l 0 vs = vs := by
 unfold Zal; simp [← h]
/-! bytes -/
def b8 (x : Int) : UInt8 := UInt8.ofNat (x % 256).toNat
theorem Z7c (x : Int) : ((b8 x).toNat : Int) = x % 256 := by
 have h : (x % 256).toNat < 256 := by omega
 unfold b8
 simp only [UInt8.toNat_ofNat']
 omega
theorem Z12 (x : Int) : IntKind.u8.wrap x = ((b8 x).toNat : Int) := by
 rw [Z7c];simp [IntKind.wrap,IntKind.bits,IntKind.signed]
theorem Z1n {R : List UInt8} {i : Nat} {c : UInt8} : (bv R).set i (.int .u8 (c.toNat : Int)) = bv (R.set i c) := by simp [bv,List.map_set]
theorem Z3s {l : List UInt8} {i : Nat} (h : i < l.length) : (bv l)[i]? = some (.int .u8 ((l.getD i 0).toNat : Int)) := by
 rw [Zxq h]; simp [List.getD_eq_getElem?_getD,h]
theorem Zfs (n : Nat) : List.replicate n (Value.int .u8 0) = bv (List.replicate n 0) := by simp [bv]
instance lenO_bvset (R : List UInt8) (i : Nat) (c : UInt8) (n : Nat) [h : LenO (bv R) n] : LenO (bv (R.set i c)) n := ⟨by have := h.len; simpa using this⟩
section
variable {P : Program} {o : Oper} {σ : Env} {w : World} {x y : Operand} {t ty : TypeId} {k k' : IntKind} {a b : Int}
theorem Z31 (ho : o.op = .binOp .quo t x y ty) (hx : ev σ x = some (.int .i64 a)) (hy : ev σ y = some (.int .i64 b)) (h0 : 0 ≤ a) (h1 : a ≤ 9223372036854775807) (hb : 0 < b) : Yl P o σ w (.int .i64 (a / b)) :=
 Zxz ho hx hy (by omega) (by
  rw [Int.tdiv_eq_ediv_of_nonneg h0];have h2 := Int.ediv_nonneg h0 (Int.le_of_lt hb)
  have h3 := Int.ediv_le_self b h0
  exact w64 (by omega) (by omega))
theorem Zxx (ho : o.op = .binOp .rem t x y ty) (hx : ev σ x = some (.int k a)) (hy : ev σ y = some (.int k b)) (h0 : 0 ≤ a) (hb : 0 < b) : Yl P o σ w (.int k (a % b)) :=
 Zxy ho hx hy (by omega) (Int.tmod_eq_emod_of_nonneg h0)
theorem Zx5 {src dst : TypeId} {i : Int} (ho : o.op = .convert src dst x) (hx : ev σ x = some (.int k i)) {d : TypeDesc} [hs : Und P src d] [hd : Und P dst (.int .u8)] : Yl P o σ w (.int .u8 ((b8 i).toNat : Int)) :=
 Zev (hs := hs) ho hx (Z12 i)
theorem Rd.cellX {a : Option Addr} {cs : List Value} {i' i : Nat} {v : Value} (H : Rd w (row a cs)) (hi : i' = i) (h : cs[i]? = some v) : w.cell? (adr a i') = some v := by subst hi; exact H.cells _ _ h
theorem Z1s {N : Nat} {ds : Md} {K : Env → World → Prop} {b off : Nat} {v : Value} {l l' : List Value} {T : TypeId} {W : World} {F : Nat → Prop} {rs rs' : List Res} (ho : o.op = .store t x y) (hx : ev σ x = some (.pointer (some ⟨b,off,none⟩))) (hy : ev σ y = some v) [hv : Cell1 v] [hc : CellsOf v [v]] [hs : Siz P t 1]
  (hd : o.dst = none) (hS : St W F rs w) [hh : Has rs b (.cells l.toArray T (0,0))] (hfit : off < l.length) (hl : l.set off v = l') [hu : Upd rs b (.cells l'.toArray T (0,0)) rs']
  (h : ∀ w',St W F rs' w' → K σ w') : X P o N ds σ w K := by
 have e : Zal l off [v] = l' := by
  rw [← hl,Zj5 _ _ _ hfit];simp [Zal]
 have hu' : Upd rs b (.cells (Zal l off [v]).toArray T (0,0)) rs' := by rw [e]; exact hu
 exact Zjq (vs := [v]) ho hx hy rfl (fun u hu => by simp at hu; subst hu; exact hv.one) hd hS hfit (fun w' h' _ => h w' h')
theorem Zjr {N : Nat} {ds : Md} {K : Env → World → Prop} {b off : Nat} {c : UInt8} {L : List UInt8} {T : TypeId} {W : World} {F : Nat → Prop} {rs rs' : List Res} (ho : o.op = .store t x y) (hx : ev σ x = some (.pointer (some ⟨b,off,none⟩))) (hy : ev σ y = some (.int .u8 (c.toNat : Int))) [hs : Siz P t 1]
  (hd : o.dst = none) (hS : St W F rs w) [hh : Has rs b (.cells (bv L).toArray T (0,0))] (hfit : off < L.length) [hu : Upd rs b (.cells (bv (L.set off c)).toArray T (0,0)) rs']
  (h : ∀ w',St W F rs' w' → K σ w') : X P o N ds σ w K := Z1s (l := bv L) ho hx hy hd hS (by simpa using hfit) Z1n h
theorem Rd.cellB {a : Option Addr} {s : List UInt8} {i : Nat} (H : Rd w (bytes a s)) (h : i < s.length) : w.cell? (adr a i) = some (.int .u8 ((s.getD i 0).toNat : Int)) := H.cells i _ (Z3s h)
theorem Rd.cellB' {b o i : Nat} {s : List UInt8} (H : Rd w (bytes (some ⟨b,o,none⟩) s)) (h : i < s.length) : w.cell? ⟨b,o + i,none⟩ = some (.int .u8 ((s.getD i 0).toNat : Int)) := H.cellB h
theorem Zx7 {N : Nat} {ds : Md} {K : Env → World → Prop} {b off k i : Nat} {c : UInt8} {l r : List Value} {L : List UInt8} {T : TypeId} {W : World} {F : Nat → Prop} {rs rs' : List Res} (ho : o.op = .store t x y) (hx : ev σ x = some (.pointer (some ⟨b,off,none⟩))) (hy : ev σ y = some (.int .u8 (c.toNat : Int))) [hs : Siz P t 1]
  (hd : o.dst = none) (hS : St W F rs w) [hh : Has rs b (.cells (l ++ (bv L ++ r)).toArray T (0,0))] (hoff : off = k + i) [hl : LenO l k] (hfit : i < L.length) [hu : Upd rs b (.cells (l ++ (bv (L.set i c) ++ r)).toArray T (0,0)) rs']
  (h : ∀ w',St W F rs' w' → K σ w') : X P o N ds σ w K := by
 have e := hl.len
 subst hoff
 refine Z1s (l := l ++ (bv L ++ r)) (l' := l ++ (bv (L.set i c) ++ r)) ho hx hy hd hS (by simp; omega) ?_ h
 rw [List.set_append_right _ _ (by omega),show k + i - l.length = i by omega,List.set_append_left _ _ (by simpa using hfit),Z1n]
theorem Zu3 {N : Nat} {ds : Md} {K : Env → World → Prop} {b m : Nat} {v : Value} {l vs : List Value} {T : TypeId} {W : World} {F : Nat → Prop} {rs rs' : List Res} (ho : o.op = .store t x y) (hx : ev σ x = some (.pointer (some ⟨b,0,none⟩))) (hy : ev σ y = some v) [hv : CellsOf v vs] [hs : Siz P t m] [h1 : Ones vs]
  (hd : o.dst = none) (hS : St W F rs w) [hh : Has rs b (.cells l.toArray T (0,0))] [hm : LenO vs m] [hl : LenO l m] [hu : Upd rs b (.cells vs.toArray T (0,0)) rs']
  (h : ∀ w',St W F rs' w' → K σ w') : X P o N ds σ w K := by
 have e : Zal l 0 vs = vs := Zlo (by rw [hm.len,hl.len])
 have hu' : Upd rs b (.cells (Zal l 0 vs).toArray T (0,0)) rs' := by rw [e]; exact hu
 exact Zjq ho hx hy hm.len h1.ones hd hS (by rw [hm.len,hl.len]; omega) (fun w' h' _ => h w' h')
end
theorem St.wide {W : World} {F : Nat → Prop} {rs : List Res} {w : World} (hS : St W noF rs w) : St W F rs w := by
 obtain ⟨h,hs,s⟩ := hS
 exact ⟨h,hs,s.agrees,fun b o e => (s.foot b o e).imp (fun h => h.elim) id,s.size,s.os,s.tape,s.output,fun b h1 _ => s.kept b h1 (fun h => h)⟩
theorem St.plus {W : World} {F : Nat → Prop} {rs rs' rs'' : List Res} {w w' : World} (hS : St W F rs w) (h' : St w noF rs' w') [ha : AppR rs' rs rs''] : St W F rs'' w' := by
 obtain ⟨_,_,_,_,hbk⟩ := hS.call []
 exact hbk (h'.wide)
end Cr
namespace Cr
open Go
set_option maxRecDepth 10000
set_option maxHeartbeats 64000000
def str (s : List UInt8) : ByteArray := ⟨s.toArray⟩
section
variable {P : Program} {o : Oper} {σ : Env} {w : World} {x y : Operand} {t ty e : TypeId} {N : Nat} {ds : Md} {K : Env → World → Prop}
theorem Zw7 (s : List UInt8) : ∀ acc : ByteArray,(s.map fun b => (b.toNat : Int)).foldl (fun r n => r.push (UInt8.ofNat n.toNat)) acc = ⟨acc.data ++ s.toArray⟩ := by
 induction s with
 | nil => intro acc; simp
 | cons c s ih =>
  intro acc
  rw [List.map_cons,List.foldl_cons,ih]
  congr 1
  have : UInt8.ofNat ((c.toNat : Int)).toNat = c := by simp
  rw [this];simp [ByteArray.push]
theorem Zol {a : Option Addr} {s : List UInt8} {n c : Nat} (h : Rd w (bytes a s)) (hn : s.length = n) : (Conv.bytesToString (.slice a n c)).run P w = .ok (.string (str s)) w := by
 cases a with
 | none =>
  have : bv s = [] := h.none_nil
  have hs : s = [] := by cases s with
   | nil => rfl
   | cons => simp [bv] at this
  subst hs
  rfl
 | some ad =>
  have hf := Za5 (P := P) (size := 1) (m := n) (c := c) h (by simp [hn])
  simp only [Builtin.firstCells,Nat.mul_one] at hf
  rw [run_bytesToString w ad n c (s.map fun b => (b.toNat : Int)) (by rw [hf,List.map_map]; rfl),Zw7]
  simp [str]
theorem Zcz {src dst : TypeId} {a : Option Addr} {s : List UInt8} {n c : Nat} (ho : o.op = .convert src dst x) (hx : ev σ x = some (.slice a n c)) [hs : Und P src (.slice e)] [he : Und P e (.int .u8)] [hd : Und P dst .string] (h : Rd w (bytes a s)) (hn : s.length = n) : Yl P o σ w (.string (str s)) := ⟨fun N ds f ha => by
 have := Zol (P := P) (c := c) h hn
 simp only [execOp,ho,ha.eval hx,convert,Sem.run_bind,run_underlying hs.und,run_underlying hd.und,run_underlying he.und,Result.andThen_ok,this]
 rfl⟩
theorem Zfz (s : List UInt8) : (str s).toList = s := ByteArray.toList_mk s
theorem Z19 {s t : List UInt8} (h : str s = str t) : s = t := by rw [← Zfz s,h,Zfz]
theorem Zh4 {a b : List UInt8} (ho : o.op = .binOp .eql t x y ty) (hx : ev σ x = some (.string (str a))) (hy : ev σ y = some (.string (str b))) : Yl P o σ w (.bool (decide (a = b))) := ⟨fun N ds f ha => by
 simp only [execOp,ho,ha.eval hx,ha.eval hy,binOp,eqGuard,Op.stringOp,Zfz]
 have : (a == b) = decide (a = b) := by by_cases h : a = b <;> simp [h]
 rw [this]; rfl⟩
theorem Zpn {a b : List UInt8} (ho : o.op = .binOp .neq t x y ty) (hx : ev σ x = some (.string (str a))) (hy : ev σ y = some (.string (str b))) : Yl P o σ w (.bool (decide (¬ a = b))) := ⟨fun N ds f ha => by
 simp only [execOp,ho,ha.eval hx,ha.eval hy,binOp,eqGuard,Op.stringOp,Zfz]
 have : (!(a == b)) = decide (¬ a = b) := by by_cases h : a = b <;> simp [h]
 rw [this]; rfl⟩
theorem Zpz {sT T : TypeId} {g off n c m c2 d : Nat} {a : Option Addr} {l news : List Value} {W : World} {F : Nat → Prop} {rs rs' : List Res} {z : Value} {bytes : Nat} {TT : TypeId} (ho : o.op = .call { callee := .builtin .copy,args := #[x,y],argTypes := #[t,sT] }) (hx : ev σ x = some (.slice (some ⟨g,off,none⟩) n c)) (hy : ev σ y = some (.slice a m c2))
  [h : Und P t (.slice T)] [hi : Inf P T z 1 bytes] (hd : o.dst = some d) (hN : Nat.blt d N = true) (hS : St W F rs w) [hh : Has rs g (.cells l.toArray TT (0,0))] (hnews : Rd w (row a news)) (hl : news.length = m) (h1 : ∀ u ∈ news,u.oneCell' = true) (hfit : off + n ≤ l.length)
  [hu : Upd rs g (.cells (Zal l off (news.take n)).toArray TT (0,0)) rs'] (hk : ∀ w',St W F rs' w' → K ((d,.int .i64 ((min m n : Nat) : Int)) :: σ) w') : X P o N ds σ w K := ⟨fun f ha K' Q' hK => by
 have hb := hS.has (b := g) (o := .cells l.toArray TT (0,0))
 obtain ⟨i,hi',hz',hsz,hby⟩ := info_parts hi.inf
 have hmin : (news.take n).length = Nat.min m n := by simp [hl]; exact Nat.min_comm _ _
 have hfc : (Builtin.firstCells 1 (Nat.min m n) (.slice a m c2)).run P w = .ok (news.take n).toArray w := by
  have h2 : Rd w (row a (news.take n)) := hnews.mono fun h hr => by
   rcases hr with ⟨rfl,h0⟩ | ⟨b,o',cells,T',fz,hb',rfl,hc⟩
   ·exact ⟨h,.inl ⟨by simp,h0⟩,fun _ _ e => e⟩
   ·refine ⟨_,.inr ⟨b,o',cells,T',fz,hb',rfl,fun j v hv => ?_⟩,fun _ _ e => e⟩
    rw [List.getElem?_take] at hv
    split at hv
    ·exact hc j v hv
    ·cases hv
  have := Za5 (P := P) (size := 1) (m := Nat.min m n) (c := c2) h2 (by omega)
  cases a <;> exact this
 have h1' : ∀ v ∈ news.take n,v.oneCell' = true := fun v hv => h1 v (List.mem_of_mem_take hv)
 have hst := run_storeCells_at P g off TT (news.take n) 0 l.toArray w hb (by simp; omega) h1'
 simp only [Nat.add_zero] at hst
 have hexec : (execOp f.eval o).run P w = .ok (.value (.int .i64 ((Nat.min m n : Nat) : Int))) (w.setRow g (Zal l off (news.take n)).toArray) := by
  simp only [execOp,ho,resolve,invoke,builtin,ha.eval hx,ha.eval hy,Builtin.copy_,Sem.run_bind,Sem.run_pure,Result.andThen_ok,List.map_toArray,List.map_cons,List.map_nil]
  simp [run_underlying h.und,Builtin.lenOf,Go.sizeOf,typeInfo,hi',hsz,hfc,hst,goInt,Zal]
 unfold Oper.wp
 rw [hexec];have u := Zbr hb (Zal l off (news.take n)).toArray
 have := hK _ _ _ (ha.put (Zam hN) (.int .i64 ((Nat.min m n : Nat) : Int))) (hk _ (hS.upd u))
 rw [← hd] at this;exact this⟩
theorem Zex {z : Value} (hz : z.cells = #[z]) (m : Nat) : Builtin.zeroCells z.cells m = (List.replicate m z).toArray := by
 rw [hz];apply Array.ext
 ·simp [Builtin.zeroCells]
 ·intro i h1 h2
  have : i % 1 = 0 := by omega
  simp [Builtin.zeroCells,this]
theorem Zqi {T bytes c n m : Nat} {k k' : IntKind} {a : Option Addr} {cs : List Value} {z : Value} {W : World} {F : Nat → Prop} {rest : List Res} (tx : TypeId) [h : Und P t (.slice T)] [hx : Und P tx (.int k')] [hi : Inf P T z 1 bytes] (hzc : z.cells = #[z]) (hz1 : z.oneCell' = true)
  (hS : St W F (own T 1 a c cs :: rest) w) (hcs : cs.length = n) (hnc : n ≤ c) (hfit : (n + m) * bytes ≤ 140737488355328) (hmax : n + m ≤ maxLen) :
  ∃ a' c' w',(Builtin.append_ #[t,tx] ty #[.slice a n c,.int k (m : Nat)]).run P w = .ok (.slice a' (n + m) c') w' ∧ St W F (own T 1 a' c' (cs ++ List.replicate m z) :: rest) w' ∧ n + m ≤ c' ∧ (a' = none ↔ a = none ∧ m = 0) := by
 obtain ⟨i,hi',hz',hsz,hby⟩ := info_parts hi.inf
 subst hby
 obtain ⟨f,⟨f1,f2,ho,hs,hd,hu⟩,s⟩ := hS
 have hlt : ((n + m : Nat) : Int) ≤ 9223372036854775807 := by simp only [maxLen] at hmax; omega
 have hw64 : IntKind.i64.wrap (m : Int) = m := w64 (by omega) (by omega)
 have hm0 : ¬ ((m : Int) < 0) := by omega
 have hmb : ¬ (281474976710656 < (m : Int) * i.bytes) := by
  have h1 : (n + m) * i.bytes = n * i.bytes + m * i.bytes := Nat.add_mul ..
  rw [← Int.natCast_mul];generalize m * i.bytes = q at h1 ⊢;omega
 have hnew : ∀ w : World,(if m = 0 then pure #[] else do pure (Builtin.zeroCells (← zeroValue T).cells m) : Sem (Array Value)).run P w = .ok (List.replicate m z).toArray w := fun w => by
  by_cases h0 : m = 0
  ·subst h0; simp
  ·rw [if_neg h0]
   simp [zeroValue,typeInfo,hi',hz',Zex hzc]
 by_cases hroom : n + m ≤ c
 ·have ho' := ho
  obtain ⟨_,hcm,⟨rfl,he⟩ | ⟨b,cells,rfl,hf1,hcz,ht⟩⟩ := ho
  ·obtain rfl : n = 0 := by omega
   obtain rfl : m = 0 := by omega
   obtain rfl : cs = [] := List.eq_nil_of_length_eq_zero hcs
   refine ⟨a,0,w,?_,⟨f,⟨f1,f2,by simpa using ho',hs,hd,hu⟩,s⟩,by omega,by simp⟩
   cases a <;> simp [Builtin.append_,run_underlying h.und,run_underlying hx.und,Go.sizeOf,typeInfo,hi',asInt,asIntOf,storeCells,IntKind.wrap_i64]
  ·have hb : w.heap[b]? = some (.cells cells T (0,0)) := s.agrees b _ (by rw [hu,hf1,Zan]; rfl)
   have hfit2 : n + (List.replicate m z).length ≤ cells.size := by simp; omega
   have h1 : ∀ u ∈ List.replicate m z,u.oneCell' = true := fun u hu => by rw [List.eq_of_mem_replicate hu]; exact hz1
   have hst := run_storeCells_at P b n T (List.replicate m z) 0 cells w hb (by simpa using hfit2) h1
   simp only [Nat.add_zero] at hst
   have u := Zbr hb (cells.toList.take n ++ List.replicate m z ++ cells.toList.drop (n + (List.replicate m z).length)).toArray
   have hlen : (cells.toList.take n ++ List.replicate m z ++ cells.toList.drop (n + (List.replicate m z).length)).length = c * 1 := by
    simp only [List.length_append,List.length_take,List.length_drop,Array.length_toList,List.length_replicate] at hfit2 ⊢; omega
   refine ⟨some ⟨b,0,none⟩,c,w.setRow b (cells.toList.take n ++ List.replicate m z ++ cells.toList.drop (n + (List.replicate m z).length)).toArray,?_,?_,hroom,by simp⟩
   ·have hst2 : (storeCells ⟨b,n,none⟩ (List.replicate m z)).run P w = .ok () (w.setRow b (cells.toList.take n ++ List.replicate m z ++ cells.toList.drop (n + (List.replicate m z).length)).toArray) := hst
    rw [show (Builtin.append_ #[t,tx] ty #[.slice (some ⟨b,0,none⟩) n c,.int k (m : Nat)]).run P w =
     ((if m = 0 then pure #[] else do pure (Builtin.zeroCells (← zeroValue T).cells m) : Sem (Array Value)).run P w).andThen (fun r w' => ((storeCells ⟨b,n,none⟩ r.toList).run P w').andThen fun _ w' => .ok (.slice (some ⟨b,0,none⟩) (n + m) c) w') by
      simp [Builtin.append_,run_underlying h.und,run_underlying hx.und,Go.sizeOf,typeInfo,hi',hw64,hm0,hmb,hsz,hroom,Zbn,asInt,asIntOf],hnew w]
    simp only [Result.andThen_ok,hst2]
   ·have hS2 : St W F (pts b (.cells cells T (0,0)) :: rest) w := ⟨f,⟨f1,f2,hf1,hs,hd,hu⟩,s⟩
    refine (hS2.set u).imp fun g hg => hg.mono_head (Zbi (c := c) hlen hcm ?_)
    rw [hcs] at ht;rw [ht,List.take_append_of_le_length (by simp),List.take_of_length_le (by simp)]
 ·have hge : n + m ≤ grownCap w (n + m) c T := grownCap_ge w (n + m) c T
  have hcm : grownCap w (n + m) c T ≤ maxLen := grownCap_le_maxLen w (n + m) c T hmax
  have hn' : ¬ (n + m ≤ c) := hroom
  have hmin : ¬ (9223372036854775807 < ((n : Int) + (m : Int))) := by omega
  have h48 : ¬ (281474976710656 < Builtin.nextslicecap (n + m) c * i.bytes) := by have := growslice_fits (show c < n + m by omega) hfit; omega
  have hod : (Builtin.firstCells 1 n (.slice a n c)).run P w.drew = .ok cs.toArray w.drew := Za5 (P := P) (size := 1) ⟨f1,ho.row,fun b o e => s.agrees b o (by rw [hu,e]; rfl)⟩ (by omega)
  let blk := cs.toArray ++ (List.replicate m z).toArray ++ Builtin.zeroCells z.cells (grownCap w (n + m) c T - (n + m))
  have hS2 : St W F rest w := St.drop ⟨f,⟨f1,f2,ho,hs,hd,hu⟩,s⟩
  refine ⟨some ⟨w.heap.size,0,none⟩,grownCap w (n + m) c T,w.drew.alloc (.cells blk T),?_,?_,hge,by simp; omega⟩
  ·have hmm : m ≠ 0 := by omega
   simp [Builtin.append_,run_underlying h.und,run_underlying hx.und,Go.sizeOf,typeInfo,zeroValue,hi',hz',hw64,hm0,hmb,hsz,hn',hmin,h48,asInt,asIntOf,Question.forced,hod,hmm,Zex hzc,newRow,grownCap,blk]
  ·have hlen : blk.toList.length = grownCap w (n + m) c T * 1 := by
    simp only [blk,Array.length_toList,Array.size_append,List.size_toArray,size_zeroCells,hzc,hcs,List.length_replicate]
    simp; omega
   have h3 := hS2.drew.alloc (.cells blk T)
   refine St.imp h3 fun g hg => hg.mono_head ?_
   have key := Zbi (T := T) (e := 1) (c := grownCap w (n + m) c T) (b := w.heap.size) (l := blk.toList) (cs := cs ++ List.replicate m z) hlen hcm (by
    simp only [blk,Array.toList_append]; exact List.take_left)
   simpa using key
theorem Zlg {T bytes c n m : Nat} {k k' : IntKind} {a : Option Addr} {cs : List Value} {z : Value} {W : World} {F : Nat → Prop} {rs : List Res} {d : Nat} {tx : TypeId} (ho : o.op = .call { callee := .builtin .append,args := #[x,y],argTypes := #[t,tx] }) (hx : ev σ x = some (.slice a n c)) (hy : ev σ y = some (.int k (m : Nat)))
  [h : Und P t (.slice T)] [hx' : Und P tx (.int k')] [hi : Inf P T z 1 bytes] (hzc : z.cells = #[z]) (hd : o.dst = some d) (hN : Nat.blt d N = true) (hS : St W F rs w) (hr : Rd w (row a cs)) (hcs : cs.length = n) (hg : c < n + m) (hm : 0 < m)
  (hfit : (n + m) * bytes ≤ 140737488355328) (hmax : n + m ≤ maxLen)
  (hk : ∀ b c' w',St W F (own T 1 (some ⟨b,0,none⟩) c' (cs ++ List.replicate m z) :: rs) w' → n + m ≤ c' → K ((d,.slice (some ⟨b,0,none⟩) (n + m) c') :: σ) w') : X P o N ds σ w K := ⟨fun f ha K' Q' hK => by
 obtain ⟨i,hi',hz',hsz,hby⟩ := info_parts hi.inf
 subst hby
 have hlt : ((n + m : Nat) : Int) ≤ 9223372036854775807 := by simp only [maxLen] at hmax; omega
 have hw64 : IntKind.i64.wrap (m : Int) = m := w64 (by omega) (by omega)
 have hm0 : ¬ ((m : Int) < 0) := by omega
 have hmb : ¬ (281474976710656 < (m : Int) * i.bytes) := by
  have h1 : (n + m) * i.bytes = n * i.bytes + m * i.bytes := Nat.add_mul ..
  rw [← Int.natCast_mul];generalize m * i.bytes = q at h1 ⊢;omega
 have hge : n + m ≤ grownCap w (n + m) c T := grownCap_ge w (n + m) c T
 have hcm : grownCap w (n + m) c T ≤ maxLen := grownCap_le_maxLen w (n + m) c T hmax
 have hn' : ¬ (n + m ≤ c) := by omega
 have hmin : ¬ (9223372036854775807 < ((n : Int) + (m : Int))) := by omega
 have h48 : ¬ (281474976710656 < Builtin.nextslicecap (n + m) c * i.bytes) := by have := growslice_fits (show c < n + m by omega) hfit; omega
 have hod : (Builtin.firstCells 1 n (.slice a n c)).run P w.drew = .ok cs.toArray w.drew := Za5 (P := P) (size := 1) (by obtain ⟨g,hg,ha⟩ := hr; exact ⟨g,hg,ha⟩) (by omega)
 let blk := cs.toArray ++ (List.replicate m z).toArray ++ Builtin.zeroCells z.cells (grownCap w (n + m) c T - (n + m))
 have hlen : blk.toList.length = grownCap w (n + m) c T * 1 := by
  simp only [blk,Array.length_toList,Array.size_append,List.size_toArray,size_zeroCells,hzc,hcs,List.length_replicate]
  simp; omega
 have hexec : (execOp f.eval o).run P w = .ok (.value (.slice (some ⟨w.heap.size,0,none⟩) (n + m) (grownCap w (n + m) c T))) (w.drew.alloc (.cells blk T)) := by
  have hmm : m ≠ 0 := by omega
  simp [execOp,ho,resolve,invoke,builtin,ha.eval hx,ha.eval hy,Builtin.append_,run_underlying h.und,run_underlying hx'.und,Go.sizeOf,typeInfo,zeroValue,hi',hz',hw64,hm0,hmb,hsz,hn',hmin,h48,asInt,asIntOf,Question.forced,hod,hmm,Zex hzc,newRow,grownCap,blk]
 unfold Oper.wp
 rw [hexec];have := hK _ _ _ (ha.put (Zam hN) (.slice (some ⟨w.heap.size,0,none⟩) (n + m) (grownCap w (n + m) c T))) (hk w.heap.size _ (w.drew.alloc (.cells blk T)) (St.imp (hS.drew.alloc (.cells blk T)) fun g hg => hg.mono_head (by
  have key := Zbi (T := T) (e := 1) (c := grownCap w (n + m) c T) (b := w.heap.size) (l := blk.toList) (cs := cs ++ List.replicate m z) hlen hcm (by
   simp only [blk,Array.toList_append]; exact List.take_left)
  simpa using key)) hge)
 rw [← hd] at this;exact this⟩
theorem Zyg {T bytes c n m : Nat} {k k' : IntKind} {a : Option Addr} {cs : List Value} {z : Value} {W : World} {F : Nat → Prop} {rs rest : List Res} {d : Nat} {tx : TypeId} (ho : o.op = .call { callee := .builtin .append,args := #[x,y],argTypes := #[t,tx] }) (hx : ev σ x = some (.slice a n c)) (hy : ev σ y = some (.int k (m : Nat)))
  [h : Und P t (.slice T)] [hx' : Und P tx (.int k')] [hi : Inf P T z 1 bytes] (hzc : z.cells = #[z]) (hz1 : z.oneCell' = true) (hd : o.dst = some d) (hN : Nat.blt d N = true) (hS : St W F rs w) [hh : HasOwn rs a T 1 c cs rest] (hcs : cs.length = n) (hnc : n ≤ c)
  (hfit : (n + m) * bytes ≤ 140737488355328) (hmax : n + m ≤ maxLen)
  (hk : ∀ a' c' w',St W F (own T 1 a' c' (cs ++ List.replicate m z) :: rest) w' → n + m ≤ c' → (a' = none ↔ a = none ∧ m = 0) → K ((d,.slice a' (n + m) c') :: σ) w') : X P o N ds σ w K := ⟨fun f ha K' Q' hK => by
 obtain ⟨a',c',w',hr,hS',hc',hn⟩ := Zqi (P := P) (t := t) (ty := o.type) (k := k) (m := m) tx hzc hz1 (hS.perm hh.has) hcs hnc hfit hmax
 unfold Oper.wp
 have hexec : (execOp f.eval o).run P w = .ok (.value (.slice a' (n + m) c')) w' := by
  simp [execOp,ho,resolve,invoke,builtin,ha.eval hx,ha.eval hy,hr]
 rw [hexec];have := hK _ _ _ (ha.put (Zam hN) (.slice a' (n + m) c')) (hk a' c' w' hS' hc' hn)
 rw [← hd] at this;exact this⟩
end
end Cr
namespace Cr
open Go
set_option maxHeartbeats 64000000
section
variable {P : Program} {o : Oper} {σ : Env} {w : World} {N : Nat} {ds : Md} {K : Env → World → Prop} {x y : Operand} {t ty e : TypeId}
theorem Zci (s : List UInt8) : (str s).size = s.length := by simp [str,ByteArray.size]
theorem Z2a (a b : List UInt8) : str a ++ str b = str (a ++ b) := ByteArray.mk_append_mk a b
theorem Zqa (s : List UInt8) (l h : Nat) : (str s).extract l h = str ((s.drop l).take (h - l)) := by
 apply ByteArray.ext
 simp [str,ByteArray.data_extract,List.extract_eq_take_drop]
theorem Zx6 {a b : List UInt8} (ho : o.op = .binOp .add t x y ty) (hx : ev σ x = some (.string (str a))) (hy : ev σ y = some (.string (str b))) (hl : a.length + b.length ≤ 9223372036854775807) : Yl P o σ w (.string (str (a ++ b))) := ⟨fun N ds f ha => by
 have h := run_string_add_sum (P := P) w (str a) (str b) (by rw [Zci,Zci]; exact hl)
 rw [Z2a] at h;simp [execOp,ho,ha.eval hx,ha.eval hy,binOp,eqGuard,h]⟩
theorem Zu0 {a b : List UInt8} (ho : o.op = .binOp .eql t x y ty) (hx : ev σ x = some (.string (str a))) (hy : ev σ y = some (.string (str b))) (h : a = b) : Yl P o σ w (.bool true) := by
 have := Zh4 (P := P) (w := w) ho hx hy
 rwa [decide_eq_true h] at this
theorem Zu1 {a b : List UInt8} (ho : o.op = .binOp .eql t x y ty) (hx : ev σ x = some (.string (str a))) (hy : ev σ y = some (.string (str b))) (h : ¬ a = b) : Yl P o σ w (.bool false) := by
 have := Zh4 (P := P) (w := w) ho hx hy
 rwa [decide_eq_false h] at this
theorem Zuy {a b : List UInt8} (ho : o.op = .binOp .neq t x y ty) (hx : ev σ x = some (.string (str a))) (hy : ev σ y = some (.string (str b))) (h : ¬ a = b) : Yl P o σ w (.bool true) := by
 have := Zpn (P := P) (w := w) ho hx hy
 rwa [decide_eq_true h] at this
theorem Zrc {s : List UInt8} {l h : Nat} {lo hi : Option Operand} {vl vh : Option Value} (ho : o.op = .slice t x lo hi none) (hx : ev σ x = some (.string (str s))) (hlo : evo σ lo = some vl) (hhi : evo σ hi = some vh) [hu : Und P t .string] (hh : Bnd vh s.length s.length h) (hl : Bnd vl 0 h l) :
  Yl P o σ w (.string (str ((s.drop l).take (h - l)))) := by
 rw [← Zqa];exact Zpm ho hx hlo hhi (by rw [Zci]; exact hh) hl
theorem Zrf {s : List UInt8} {k : IntKind} {i : Int} {b : UInt8} (ho : o.op = .index t x y) (hx : ev σ x = some (.string (str s))) (hy : ev σ y = some (.int k i)) [h : Und P t .string] (h0 : 0 ≤ i) (hb : s[i.toNat]? = some b) :
  Yl P o σ w (.int .u8 (b.toNat : Int)) := by
 have hlt := (List.getElem?_eq_some_iff.1 hb).1
 have := Zpt (P := P) (w := w) (s := str s) ho hx hy h0 (by rw [Zci]; exact hlt)
 have e : (str s)[i.toNat]'(by rw [Zci]; exact hlt) = b := by
  obtain ⟨_,he⟩ := List.getElem?_eq_some_iff.1 hb
  rw [← he]; rfl
 rwa [e] at this
/-! ### errors that may be nil -/
theorem Zmw {d : TypeId} {u : Value} {ms : Array (String × TypeId)} [h : Und P t (.interface ms)] : (Op.equal t (.iface d u) .nilIface).run P w = .ok false w := by
 have key : ∀ d',(Op.equalIn (d' + 1) t (.iface d u) .nilIface).run P w = .ok false w := fun d' => by
  rw [Op.equalIn]; simp [run_underlying h.und]
 exact key 9999
theorem Zok {ms : Array (String × TypeId)} [h : Und P t (.interface ms)] : (Op.equal t .nilIface .nilIface).run P w = .ok true w := by
 have key : ∀ d',(Op.equalIn (d' + 1) t .nilIface .nilIface).run P w = .ok true w := fun d' => by
  rw [Op.equalIn]; simp [run_underlying h.und]
 exact key 9999
theorem Zpp {d : TypeId} {u : Value} {ms : Array (String × TypeId)} (ho : o.op = .binOp .neq t x y ty) (hx : ev σ x = some (.iface d u)) (hy : ev σ y = some .nilIface) [h : Und P t (.interface ms)] : Yl P o σ w (.bool true) := ⟨fun N ds f ha => by
 simp only [execOp,ho,ha.eval hx,ha.eval hy,eqGuard_at_iface,binOp,Sem.run_bind,Sem.run_pure,Result.andThen_ok,Zmw (ms := ms)]; rfl⟩
theorem Zrd {ms : Array (String × TypeId)} (ho : o.op = .binOp .neq t x (.const .nilIface) ty) (hx : ev σ x = some .nilIface) [h : Und P t (.interface ms)] : Yl P o σ w (.bool false) := ⟨fun N ds f ha => by
 have hy : f.eval (.const .nilIface) = .nilIface := rfl
 simp only [execOp,ho,ha.eval hx,hy,eqGuard_nil_constR,binOp,Sem.run_bind,Sem.run_pure,Result.andThen_ok,Zok (ms := ms)]; rfl⟩
theorem St.strBytes {W : World} {F : Nat → Prop} {rs : List Res} (hS : St W F rs w) (e : TypeId) (s : List UInt8) : St W F (bytes (some ⟨w.heap.size,0,none⟩) s :: rs) (Lib.bytesWorld w e (str s)) := by
 have h1 := hS.drew.alloc (.cells (Lib.bytesCells w e (str s)) e)
 have h2 := h1.set (w' := Lib.bytesWorld w e (str s)) (o' := .cells (Lib.bytesCells w e (str s)) e ((Lib.bytesCells w e (str s)).size,(Lib.bytesCells w e (str s)).size + 1))
  ⟨by rw [Lib.bytesWorld_size]; simp [World.alloc,World.drew,-World.alloc_eq,-World.drew_eq],Lib.bytesWorld_at_new w e (str s),fun k hk => by
   have hk : k ≠ w.heap.size := hk
   rcases Nat.lt_or_ge k w.heap.size with h | h
   ·rw [Lib.bytesWorld_at_old w e (str s) k h]
    simp [World.alloc,World.drew,-World.alloc_eq,-World.drew_eq,Array.getElem?_push,hk]
   ·rw [Array.getElem?_eq_none (by rw [Lib.bytesWorld_size]; omega),Array.getElem?_eq_none (by simp [World.alloc,World.drew,-World.alloc_eq,-World.drew_eq]; omega)],
   rfl,rfl,rfl⟩
 refine h2.head fun h hh => ?_
 refine .inr ⟨w.heap.size,0,_,e,_,rfl,hh,fun i v hv => ?_⟩
 have hlt := (List.getElem?_eq_some_iff.1 hv).1
 rw [Zak] at hlt;rw [Zxq hlt] at hv;rw [← Option.some.inj hv,Nat.zero_add];unfold Lib.bytesCells
 rw [Array.getElem?_append_left (by simp [str]; exact hlt)]
 simp [str,hlt]
theorem Zis {src dst : TypeId} {s : List UInt8} {d : Nat} {W : World} {F : Nat → Prop} {rs : List Res} (ho : o.op = .convert src dst x) (hx : ev σ x = some (.string (str s))) [hs : Und P src .string] [hd : Und P dst (.slice e)] [he : Und P e (.int .u8)]
  (hdst : o.dst = some d) (hN : Nat.blt d N = true) (hS : St W F rs w) (h : ∀ b c w',St W F (bytes (some ⟨b,0,none⟩) s :: rs) w' → s.length ≤ c → K ((d,.slice (some ⟨b,0,none⟩) s.length c) :: σ) w') : X P o N ds σ w K := ⟨fun f ha K' Q' hK => by
 have hr := Lib.run_convert_string_bytes (P := P) w src dst e (str s) hs.und hd.und he.und
 have hexec : (execOp f.eval o).run P w = .ok (.value (.slice (some ⟨w.heap.size,0,none⟩) s.length (grownCap w (str s).size 0 e))) (Lib.bytesWorld w e (str s)) := by
  simp only [execOp,ho,ha.eval hx,Sem.run_bind,hr,Result.andThen_ok,Zci]
  rfl
 unfold Oper.wp
 rw [hexec];have := hK _ _ _ (ha.put (Zam hN) (.slice (some ⟨w.heap.size,0,none⟩) s.length (grownCap w (str s).size 0 e))) (h _ _ _ (hS.strBytes e s) (by have := grownCap_ge w (str s).size 0 e; rw [Zci] at this; rw [Zci]; exact this))
 rw [← hdst] at this;exact this⟩
end
end Cr
namespace Cr
open Go Go.Proofs
set_option maxRecDepth 100000
set_option maxHeartbeats 64000000
attribute [local irreducible] Calls

def spot (k : Int) (i : Nat) : Nat := ((k - i) % 8).toNat
theorem Z2f (k : Int) (i : Nat) : spot k i < 8 := by unfold spot; omega
def sig3 (a : Int) (p q r : Nat) : Int := ixor .u32 (ixor .u32 (spin a p) (spin a q)) (spin a r)
def mixT (rd w : List Int) (V : List Int) (i : Nat) : Int :=
 let e := V.getD (spot 4 i) 0
 u32 (u32 (u32 (u32 (V.getD (spot 7 i) 0 + sig3 e 6 11 25) + ixor .u32 (V.getD (spot 6 i) 0) (iand .u32 e (ixor .u32 (V.getD (spot 5 i) 0) (V.getD (spot 6 i) 0)))) + rd.getD ((i : Int).toNat * 1) 0) + w.getD (0 + (i : Int).toNat * 1) 0)
def mixU (rd w : List Int) (V : List Int) (i : Nat) : List Int := V.set (spot 3 i) (u32 (V.getD (spot 3 i) 0 + mixT rd w V i))
def Zgq (rd w : List Int) (V : List Int) (i : Nat) : List Int :=
 let a := V.getD (spot 0 i) 0
 let t := mixT rd w V i
 let U := mixU rd w V i
 U.set (spot 7 i) (u32 (u32 (t + sig3 a 2 13 22) + ior .u32 (iand .u32 a (U.getD (spot 1 i) 0)) (iand .u32 (U.getD (spot 2 i) 0) (ior .u32 a (U.getD (spot 1 i) 0)))))
def Zld (rd w H : List Int) : Nat → List Int
 | 0 => H
 | i + 1 => Zgq rd w (Zld rd w H i) i
theorem Zi3 (rd w H : List Int) : ∀ i,(Zld rd w H i).length = H.length
 | 0 => rfl
 | i + 1 => by simp [Zld,Zgq,mixU,Zi3 rd w H i]
def Znp (H V : List Int) : Nat → List Int
 | 0 => H
 | i + 1 => (Znp H V i).set i (u32 ((Znp H V i).getD i 0 + V.getD i 0))
theorem Zft (H V : List Int) : ∀ i,(Znp H V i).length = H.length
 | 0 => rfl
 | i + 1 => by simp [Znp,Zft H V i]
def Zq8 (rd H : List Int) (b : List UInt8) : List Int := Znp H (Zld rd (Za0 b 64) H 64) 8
theorem Zpi (rd H : List Int) (b : List UInt8) : (Zq8 rd H b).length = H.length := Zft _ _ _

theorem St.abs2 {W : World} {F : Nat → Prop} {r : Res} {b : Nat} {k : IntKind} {L : List Int} {T : TypeId} {rs : List Res} {w : World} (hS : St W F (r :: pts b (.cells (ints k L).toArray T) :: rs) w) : ∃ U,U = L ∧ St W F (r :: pts b (.cells (ints k U).toArray T) :: rs) w := ⟨L,rfl,hS⟩
theorem mix_ (s : Nat) (H rd : List Int) (R : List UInt8) (tot : Int) (T : TypeId) (W : World) (F : Nat → Prop) (hH : H.length = 8) (hR : R.length = 64) (hrd : rd.length = 64) (hg : Ro W F (row (some ⟨2,0,none⟩) (ints .u32 rd)))
  (hS : St W F [pts s (.cells (ints .u32 H ++ (bv R ++ [Value.int .i64 tot])).toArray T)] W) :
  Calls Tryz.prog 193 #[.pointer (some ⟨s,0,none⟩),.slice (some ⟨s,8,none⟩) 64 64] W (Ret fun _ w => True ∧ St W F [pts s (.cells (ints .u32 (Zq8 rd H R) ++ (bv R ++ [Value.int .i64 tot])).toArray T)] w) := by
 have hRb : Rd W (bytes (some ⟨s,8,none⟩) R) := (hS.rd (List.mem_cons_self ..)).mono fun h hh => ⟨h,Zf0 (n := 64) (by
  rw [List.drop_append_of_le_length (by rw [ints_length]; omega),List.drop_of_length_le (by rw [ints_length]; omega),List.nil_append,List.take_append_of_le_length (by simp [hR]),List.take_of_length_le (by simp [hR])]) h hh,fun _ _ e => e⟩
 have hlH : LenIs (ints .u32 H) 8 := ⟨by rw [ints_length]; exact hH⟩
 have hlS : LenIs (ints .u32 (Za0 R 64)) 64 := ⟨by rw [ints_length]; exact Zcj _ _⟩
 refine Zab Tryz.func193 rfl Tryz.ntmps193 rfl ?_
 repeat (first|refine Yeb ?_|(refine X_id ?_;first|(refine Zac 220 rfl rfl rfl rfl rfl hS (Z2e _ _ R _ hRb hR (by omega)) ?_;rintro _ _ rfl hS)|refine Yaf ?_|refine Yau ?_|refine Ybi ?_|refine Yao (fun _ hS _ => ?_)|refine Yar (fun _ _ hS _ => ?_))|refine Yec ?_|refine Yab ?_)
 rename_i b5 _ _;refine Zya (l := List.replicate 8 (.int .u32 0)) rfl rfl rfl rfl hS (fun _ hS _ => ?_)
 repeat (first|refine Yeb ?_|refine Yaf ?_|refine Yee ?_|refine Yab ?_)
 rename_i b4 _ _ _ _ _ _ _ _ _ _ _;refine Zaj (α := Nat) (fun i => [(0,.pointer (some ⟨s,0,none⟩)),(4,.pointer (some ⟨b4,0,none⟩)),(5,.pointer (some ⟨b5,0,none⟩)),(17,.int .i64 (i : Nat))])
  (fun i w => i ≤ 64 ∧ St W F [pts b5 (.cells (ints .u32 (Zld rd (Za0 R 64) H i)).toArray 213),pts b4 (.cells (ints .u32 (Za0 R 64)).toArray 335),pts s (.cells (ints .u32 H ++ (bv R ++ [Value.int .i64 tot])).toArray T)] w) (fun i => 64 - i) 0 ⟨rfl,rfl,rfl,rfl,trivial⟩ ⟨Nat.zero_le _,hS⟩ ?_
 clear hS;rintro i w ⟨hi,hS⟩
 obtain ⟨V,hVe⟩ : ∃ V,V = Zld rd (Za0 R 64) H i := ⟨_,rfl⟩
 have hV : V.length = 8 := by rw [hVe,Zi3]; exact hH
 rw [← hVe] at hS;obtain ⟨Ws,hwe⟩ : ∃ L,L = Za0 R 64 := ⟨_,rfl⟩
 have hWs : Ws.length = 64 := by rw [hwe]; exact Zcj _ _
 rw [← hwe] at hS;by_cases h64 : i < 64
 ·repeat (first|refine Yeb ?_|(refine X_id ?_;first|refine Yaf ?_|refine Yag ?_|refine Yct ?_|refine Ya1 ?_|refine Yao (fun _ hS _ => ?_)|refine Yar (fun _ _ hS _ => ?_))|refine Yef ?_|refine Yab ?_)
  refine Zao (.s 0 (.s 4 (.h 1 (.s 2 (.s 3 (.h 5 (.s 6 (.s 7 (.s 8 (.s 9 .nil)))) .no))) .no))) mixed (by kernel_rfl) rfl ?_
  have hS := hS.drew
  repeat (first|(refine X_id ?_;first|(refine Zri 221 rfl rfl rfl rfl rfl (at_ _ i _ _ _ (by decide) (by decide) (by omega) (by omega) ((hS.rd (List.mem_cons_self ..)).ro)) ?_;rintro _ rfl))|refine Yae ?_|refine Yab ?_|(refine Zaf ?_;first|refine Ya2 ?_|refine Ya6 ?_|refine Ybl ?_|refine Ybs ?_|refine Ycb ?_|refine Yax ?_)|(refine Zad ?_;first|refine Yay ?_))
  refine Zao (.s 0 (.s 4 (.s 6 (.s 9 (.s 13 (.s 17 (.s 18 (.s 22 (.s 30 (.s 31 (.s 32 (.s 34 (.s 35 (.s 36 (.h 1 (.s 2 (.s 3 (.h 5 (.h 7 (.s 8 (.h 10 (.s 11 (.s 12 (.h 14 (.s 15 (.s 16 (.h 19 (.s 20 (.s 21 (.h 23 (.s 24 (.s 25 (.s 26 (.s 27 (.s 28 (.s 29 (.s 33 (.s 37 (.s 38 .nil))))))))) .no))) .no))) .no))) .no)) .no) .no))) .no))))))))))))))) mixed (by kernel_rfl) rfl ?_
  have hS := hS.drew
  repeat (first|refine Yeb ?_|(refine X_id ?_;first|(refine Zac 222 rfl rfl rfl rfl rfl hS (Z2g _ _ _ (by decide)) ?_;rintro _ _ rfl hS)|(refine Zri 221 rfl rfl rfl rfl rfl (at_ _ i _ _ _ (by decide) (by decide) (by omega) (by omega) ((hS.rd (List.mem_cons_self ..)).ro)) ?_;rintro _ rfl)|refine Yaf ?_|refine Yau ?_|refine Ycc ?_|refine X_yl (Zau rfl rfl (hS.cellI (by omega))) rfl rfl ?_|refine Yck (fun _ hS => ?_))|refine Yec ?_|refine Yab ?_|(refine Zaf ?_;first|refine Ya2 ?_|refine Ya6 ?_|refine Ybl ?_|refine Ybs ?_|refine Yb3 ?_|refine Ycf ?_|refine Ycw ?_|refine Zai rfl rfl (fun _ => Ztf rfl rfl rfl) rfl rfl ?_|refine Ybn ?_|refine Ycb ?_|refine Yd5 ?_|refine Yax ?_)|(refine Zad ?_;first|refine Yay ?_))
  obtain ⟨U,hUe,hS⟩ := St.abs2 hS
  have hUl : U.length = 8 := by rw [hUe]; simp [hV]
  replace hUe : U = mixU rd Ws V i := hUe
  refine Zao (.s 0 (.s 2 (.s 3 (.s 5 (.s 8 (.s 12 (.s 13 (.s 18 (.s 22 (.s 23 (.h 1 (.h 4 (.h 6 (.s 7 (.h 9 (.s 10 (.s 11 (.h 14 (.s 15 (.s 16 (.s 17 (.h 19 (.s 20 (.s 21 (.h 24 (.s 25 (.s 26 (.s 27 (.s 28 (.s 29 (.s 30 (.s 31 (.h 32 .nil .no)))))))) .no))) .no)))) .no))) .no)) .no) .no) .no))))))))))) mixed (by kernel_rfl) rfl ?_
  have hS := hS.drew
  repeat (first|refine Yeb ?_|(refine X_id ?_;first|(refine Zac 222 rfl rfl rfl rfl rfl hS (Z2g _ _ _ (by decide)) ?_;rintro _ _ rfl hS)|(refine Zri 221 rfl rfl rfl rfl rfl (at_ _ i _ _ _ (by decide) (by decide) (by omega) (by omega) ((hS.rd (List.mem_cons_self ..)).ro)) ?_;rintro _ rfl)|refine Yeg ?_|refine Yck (fun _ hS => ?_))|refine Yad ?_|refine Yej ?_|(refine Zaf ?_;first|refine Ya2 ?_|refine Ya6 ?_|refine Ybs ?_|refine Ycf ?_|refine Ycw ?_|refine Zai rfl rfl (fun _ => Ztf rfl rfl rfl) rfl rfl ?_|refine Ydp ?_|refine Ycb ?_|refine Yax ?_)|(refine Zad ?_;first|refine Yay ?_))
  refine Zae (i + 1) ⟨rfl,rfl,rfl,rfl,trivial⟩ ⟨by omega,?_⟩ (by omega)
  have hS := hS.pick [1,1,1]
  show St W F [pts b5 (.cells (ints .u32 (Zgq rd (Za0 R 64) (Zld rd (Za0 R 64) H i) i)).toArray 213),pts b4 (.cells (ints .u32 (Za0 R 64)).toArray 335),_] _
  rw [← hVe,← hwe];unfold Zgq
  rw [← hUe];exact hS
 ·obtain rfl : i = 64 := by omega
  repeat (first|refine Yeb ?_|refine Yaf ?_|refine Yaz ?_|refine Yae ?_|refine Yad ?_|refine Yak ?_|refine Ya3 ?_|refine Yai ?_|refine Yeh ?_)
  refine Zaj (α := Nat) (fun k => [(0,.pointer (some ⟨s,0,none⟩)),(5,.pointer (some ⟨b5,0,none⟩)),(107,.int .i64 (k : Nat))])
   (fun k w => k ≤ 8 ∧ St W F [pts b5 (.cells (ints .u32 V).toArray 213),pts b4 (.cells (ints .u32 Ws).toArray 335),pts s (.cells (ints .u32 (Znp H V k) ++ (bv R ++ [Value.int .i64 tot])).toArray T)] w) (fun k => 8 - k) 0 ⟨rfl,rfl,rfl,trivial⟩ ⟨Nat.zero_le _,hS⟩ ?_
  clear hS;rintro k w ⟨hk,hS⟩
  obtain ⟨A,hAe⟩ : ∃ A,A = Znp H V k := ⟨_,rfl⟩
  have hA : A.length = 8 := by rw [hAe,Zft]; exact hH
  rw [← hAe] at hS;by_cases h8 : k < 8
  ·repeat (first|refine Yeb ?_|refine Yaf ?_|refine Yag ?_|refine Ya1 ?_|refine Yef ?_|refine Yab ?_)
   refine Zao (.s 0 (.s 1 (.s 2 (.s 3 (.s 4 (.s 5 (.s 6 (.s 7 (.s 8 (.s 9 (.s 10 (.h 11 .nil .no)))))))))))) mixed (by kernel_rfl) rfl ?_
   have hS := hS.drew
   repeat (first|refine Yeb ?_|(refine X_id ?_;first|refine Yeg ?_|refine Zx8 rfl rfl rfl rfl hS (by omega) (fun _ hS => ?_))|refine Yad ?_|refine Yej ?_|(refine Zaf ?_;first|refine Ya2 ?_|refine Ya6 ?_|refine Ybs ?_|refine Yb3 ?_|refine Ycf ?_|refine Ycb ?_|refine Zbp (fun w' => w'.cell? _ = some _) rfl rfl (hS.cellIP (by omega)) (fun _ hc => Zau rfl rfl hc) rfl rfl ?_|refine Yax ?_)|(refine Zad ?_;first|refine Yay ?_))
   refine Zae (k + 1) ⟨rfl,rfl,rfl,trivial⟩ ⟨by omega,?_⟩ (by omega)
   simp only [Znp]
   rw [← hAe];rw [show 0 + (k : Int).toNat * 1 = k by omega] at hS
   exact hS
  ·obtain rfl : k = 8 := by omega
   repeat (first|refine Yeb ?_|refine Yaz ?_|refine Yeo ?_|refine Yab ?_|refine Ya4 ?_|refine Ya5 ?_|refine Ybu ?_)
   refine ⟨trivial,?_⟩
   replace hS := hS.pick [2]
   rw [hAe,hVe] at hS;exact hS
end Cr
